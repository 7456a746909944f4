/- What scene.Of returns for the fixed answer's movie. -/
import Derived.Test.YtlahaamidmbajaaGreatT22m
set_option linter.unusedVariables false
set_option linter.unusedSimpArgs false
set_option maxRecDepth 100000
namespace Go.AI
open Go Go.RowKit Go.Proofs Go.Maps
/-- the items of a frame, as the program lays them -/
theorem items_calls {N : Nat → Prop} {es : List (List PV)} {frame : Int} (h : OkE es frame) {w : World} {ad : Option Addr} {b o cap : Nat} {C : Nat → List Value} (hcap : es.length ≤ cap) (had : 0 < es.length → ad = some ⟨b, o, none⟩ ∧ b < w.heap.size)
    (hC : ∀ k, k < es.length → (C k).length = 55 ∧ (∀ v, v ∈ C k → v.oneCell' = true) ∧ (∀ j, j < 55 → w.cell? ⟨b, o + k * 55 + j, none⟩ = some ((C k).getD j undef)) ∧
      (C k)[0]? = some (.int .i64 (kdE es k)) ∧ (C k)[1]? = some (.int .i64 (dpE es k)) ∧ (∀ j, j < 19 → (C k)[6 + j]? = some (.int .i64 (plE es k j)))) :
    Calls Tryz.prog 12 #[.slice ad es.length cap, .int .i64 frame] w fun e w' => ∃ v, e = .returned v ∧ Bel w.heap.size w w' ∧ ∃ L : List Itm, L.map (fun x => x.1) = itemsE es frame ∧
      ((v = .slice none 0 0 ∧ L = []) ∨ ∃ g cap, v = .slice (some ⟨g, 0, none⟩) L.length cap ∧ w.heap.size ≤ g ∧ L.length ≤ cap ∧ cap ≤ maxLen ∧ g < w'.heap.size ∧ ∀ i, i < L.length → ∀ j, j < 19 → w'.cell? ⟨g, i * 19 + j, none⟩ = some ((itL (L.getD i default).1).getD j undef)) := by
  have hn := doneN_le (kdE es) frame es.length
  have hlen := h.len
  have hmax : es.length < maxLen := by unfold maxLen; omega
  have hat : ∀ k, k < doneN (kdE es) frame es.length → kdE es k = 26 → 1 ≤ plE es k 1 ∧ plE es k 1 ≤ 255 := fun k hk => h.at1 k (by omega)
  have hst := st_at placeF (kdE es) (dpE es) (plE es) (doneN (kdE es) frame es.length)
  have hwalk := items_walk placeF place_calls ad es.length cap frame w ad b o (doneN (kdE es) frame es.length) cap (kdE es) (dpE es) (plE es) C
    (fun w0 hw0 => done_walk ad es.length cap frame w0 b o (kdE es) C h.fr (fun hp => ⟨(had hp).1, Nat.lt_of_lt_of_le (had hp).2 hw0.size⟩) hmax hcap (fun k hk => by
      obtain ⟨c1, c2, c3, c4, _⟩ := hC k hk
      exact ⟨c1, c2, fun j hj => by rw [cell_bel hw0 (had (by omega)).2]; exact c3 j hj, c4⟩))
    (fun hp => had (by omega)) (by omega) (by omega) (fun k hk => h.dp k (by omega)) (fun k hk => h.pl k (by omega))
    (fun k hk => hC k (by omega))
    (fun q hq => by
      have g1 := congrArg Prod.fst (hst.2.2 q)
      have g2 := congrArg Prod.snd (hst.2.2 q)
      have g2 : Maps.has _ _ = _ := g2
      rw [hq] at g2
      have g1 : lookI _ q = _ := g1
      rw [g1, at_depth keeps_place q _ g2.symm]
      have := at_there hat q _ (Nat.le_refl _) g2.symm
      omega)
  refine hwalk.mono ?_
  rintro e w' ⟨v, rfl, hb, K, L, hnd, hK, hperm, hs, hv⟩
  exact ⟨v, rfl, hb, L, items_of keeps_place hat hnd hK hperm hs, hv⟩
def it0E : List PV := [.i 1, .i 3] ++ matE sameM ++ cxE plainX ++ [.i 0, .i 0, .i 0]
theorem items_0 : (itemsE tags5 0).map itE = [it0E] := by kernel_rfl
theorem items_1 : (itemsE tags5 1).map itE = [] := by kernel_rfl
theorem ok5 (fr : Int) (h : fr ≤ 255) : OkE tags5 fr := by
  refine ⟨by decide, by omega, fun k hk => ?_, fun k hk => ?_, fun k hk => ?_⟩
  · match k, hk with
    | 0, _ => rfl
    | 1, _ => rfl
    | 2, _ => rfl
    | 3, _ => rfl
    | 4, _ => rfl
    | k + 5, hk => exact absurd hk (by show ¬ k + 5 < 5; omega)
  · match k, hk with
    | 0, _ => rfl
    | 1, _ => rfl
    | 2, _ => rfl
    | 3, _ => rfl
    | 4, _ => rfl
    | k + 5, hk => exact absurd hk (by show ¬ k + 5 < 5; omega)
  · match k, hk with
    | 0, _ => exact fun h => by cases h
    | 1, _ => exact fun _ => ⟨by decide, by decide⟩
    | 2, _ => exact fun h => by cases h
    | 3, _ => exact fun h => by cases h
    | 4, _ => exact fun h => by cases h
    | k + 5, hk => exact absurd hk (by show ¬ k + 5 < 5; omega)
/-- a number's cell of a tag, by its place -/
theorem at25 : ((leaves Tryz.prog 80).getD []).getD 25 .no = .int .i64 := by kernel_rfl
theorem at33 : ((leaves Tryz.prog 80).getD []).getD 33 .no = .int .i64 := by kernel_rfl
theorem at52 : ((leaves Tryz.prog 80).getD []).getD 52 .no = .int .i64 := by kernel_rfl
theorem cell_int {N : Nat → Prop} {w : World} {C : List Value} {p : PV} {j : Nat} (hl : C.length = 55) (hj : j < 55) (h : RP Tryz.prog N w.heap (.int .i64) p (C.getD j undef)) : C[j]? = some (.int .i64 p.toI) := by
  rw [getD_some (d := undef) (by rw [hl]; exact hj), h.int_of]
def leafE : List PV := [.i 3, .i 0, .i 0, .i 0, .i 0, .l [], .l [], .l []] ++ matE sameM ++ cxE plainX ++ [.l []]
/-- a leaf in a row of its own -/
def LeafAt (B : Nat) (C0 : List Value) (lv : Value) (w : World) : Prop := ∃ gb cp, lv = .slice (some ⟨gb, 0, none⟩) 1 cp ∧ B + 1 < gb ∧ gb < w.heap.size ∧ 1 ≤ cp ∧ cp ≤ maxLen ∧ ∀ j, j < 23 → w.cell? ⟨gb, j, none⟩ = some ((leafL C0 sameM plainX (.slice none 0 0)).getD j undef)
theorem it0_x {x : Nat → Int} (h : itE x = it0E) : x 1 = 3 ∧ x 17 = 0 ∧ matL (fun i => x (2 + i)) = matL sameM ∧ cxLv (fun i => x (8 + i)) = cxLv plainX := by
  unfold itE it0E matE cxE at h
  simp only [List.cons_append, List.nil_append, List.cons.injEq, PV.i.injEq, and_true] at h
  obtain ⟨h0, h1, h2, h3, h4, h5, h6, h7, h8, h9, h10, h11, h12, h13, h14, h15, h16, h17, h18⟩ := h
  refine ⟨h1, h17, ?_, ?_⟩
  · unfold matL
    simp only [Nat.add_zero, Nat.reduceAdd, h2, h3, h4, h5, h6, h7]
  · unfold cxLv
    simp only [Nat.add_zero, Nat.reduceAdd, h8, h9, h10, h11, h12, h13, h14, h15]
/-- the scene of frame 0, and of frame 1, as the program lays them -/
theorem of_calls {N : Nat → Prop} {mL : List Value} {w : World} (fr : Int) (hf : fr = 0 ∨ fr = 1) (hml : mL.length = 9) {ad : Option Addr} {b o tc : Nat} {C : Nat → List Value} (hm8 : mL[8]? = some (.slice ad 5 tc)) (htc : 5 ≤ tc) (had : ad = some ⟨b, o, none⟩ ∧ b < w.heap.size)
    (hv : VR Tryz.prog (fun b => b < w.heap.size) w.heap (fun _ => none) (.agg [.bool false, .int .i64 0, .int .i64 0, .int .i64 0, .int .i64 0, .int .i64 0, .int .i64 0, .int .i64 0, .sl 80 tags5]) (.agg mL.toArray))
    (hC : ∀ k, k < 5 → (C k).length = 55 ∧ (∀ v, v ∈ C k → v.oneCell' = true) ∧ (∀ j, j < 55 → w.cell? ⟨b, o + k * 55 + j, none⟩ = some ((C k).getD j undef)) ∧
      (C k)[0]? = some (.int .i64 (kdE tags5 k)) ∧ (C k)[1]? = some (.int .i64 (dpE tags5 k)) ∧ (∀ j, j < 19 → (C k)[6 + j]? = some (.int .i64 (plE tags5 k j))) ∧
      ∀ j, j < 55 → RP Tryz.prog N w.heap (((leaves Tryz.prog 80).getD []).getD j .no) ((tags5.getD k []).getD j .u) ((C k).getD j undef)) :
    Calls Tryz.prog 16 #[.agg mL.toArray, .int .i64 fr] w fun e w' => ∃ lv, e = .returned (.tuple #[.agg #[lv, .slice none 0 0, .int .i64 255, .int .i64 255, .int .i64 255, .int .i64 255], .int .i64 0]) ∧ Bel w.heap.size w w' ∧ ((fr = 0 ∧ LeafAt w.heap.size (C 0) lv w') ∨ (fr = 1 ∧ lv = .slice none 0 0)) := by
  have hk : ∀ k, k < 5 → (kdE tags5 k = 32 ∧ k = 0) ∨ (0 < k ∧ kdE tags5 k ≠ 32 ∧ kdE tags5 k ≠ 46 ∧ kdE tags5 k ≠ 39) := fun k hk => by
    match k, hk with
    | 0, _ => exact .inl ⟨rfl, rfl⟩
    | 1, _ => exact .inr ⟨by decide, by decide, by decide, by decide⟩
    | 2, _ => exact .inr ⟨by decide, by decide, by decide, by decide⟩
    | 3, _ => exact .inr ⟨by decide, by decide, by decide, by decide⟩
    | 4, _ => exact .inr ⟨by decide, by decide, by decide, by decide⟩
    | k + 5, hk => exact absurd hk (by omega)
  have hk9 : ∀ k, k < 5 → kdE tags5 k ≠ 9 := fun k hk => by
    match k, hk with
    | 0, _ => decide
    | 1, _ => decide
    | 2, _ => decide
    | 3, _ => decide
    | 4, _ => decide
    | k + 5, hk => exact absurd hk (by omega)
  have hfr : 0 ≤ fr ∧ fr ≤ 255 := by omega
  have hshows : ∀ w0 bb mb n, Bel w.heap.size w w0 → w.heap.size + 2 ≤ bb → bb < w0.heap.size → w0.heap[bb]? = some (.cells (bldC (.slice none 0 0) (.slice none 0 0) 255 255 255 255 0 0 mb) 113 (0, 0)) → w0.ownsMap Tryz.prog 3 tgR mb n (mapF 3 (C 0) 1) →
      Calls Tryz.prog 32 #[.pointer (some ⟨bb, 0, none⟩), .agg (listL (.slice ad 5 tc) fr sameM plainX (.slice none 0 0) 0).toArray, .pointer (some ⟨bb, 0, none⟩)] w0 fun e w' => e = .returned (.tuple #[]) ∧ Env w0 w' ∧ w0.heap.size ≤ w'.heap.size ∧ (∀ k, k < w0.heap.size → k ≠ bb → w'.heap[k]? = w0.heap[k]?) ∧
        ∃ lv mn, w'.heap[bb]? = some (.cells (bldC lv (.slice none 0 0) 255 255 255 255 mn 0 mb) 113 (0, 0)) ∧ ((fr = 0 ∧ LeafAt w.heap.size (C 0) lv w') ∨ (fr = 1 ∧ lv = .slice none 0 0)) := by
    intro w0 bb mb n hw0 hbb hbl hkb hown
    have hit := fun (w2 : World) (hw2 : Bel w0.heap.size w0 w2) => items_calls (N := N) (ok5 fr hfr.2) (w := w2) (ad := ad) (b := b) (o := o) (cap := tc) (C := C) htc (fun _ => ⟨had.1, by have := hw0.size; have := hw2.size; have := had.2; omega⟩) (fun k hk => by
      obtain ⟨c1, c2, c3, c4, c5, c6, _⟩ := hC k hk
      exact ⟨c1, c2, fun j hj => by rw [cell_bel hw2 (by have := hw0.size; have := had.2; omega), cell_bel hw0 had.2]; exact c3 j hj, c4, c5, c6⟩)
    rcases hf with rfl | rfl
    · obtain ⟨x, hx1, hx2⟩ : ∃ x, itemsE tags5 0 = [x] ∧ itE x = it0E := by
        have h := items_0
        cases hi : itemsE tags5 0 with
        | nil => rw [hi] at h; cases h
        | cons x l =>
          rw [hi, List.map_cons] at h
          injection h with h1 h2
          have : l = [] := List.map_eq_nil_iff.1 h2
          subst this
          exact ⟨x, rfl, h1⟩
      obtain ⟨x1, x17, xm, xc⟩ := it0_x hx2
      obtain ⟨c1, c2, c3, c4, _⟩ := hC 0 (by decide)
      have hS := show1_walk bb mb n (mapF 3 (C 0) 1) (.slice none 0 0) ad 5 tc 0 0 sameM plainX sameM plainX x (C 0) 255 255 255 255 0 w0 hkb hown ⟨by decide, by decide⟩ (by rw [x1]; rfl) (fun zd => by rw [x1]; exact atKey_put_same isMap_empty (int_key 3) _ _) c1 c2 c4 x17
        (fun w2 => by rw [xm]; exact compose_calls w2) (fun w2 => by rw [xc]; exact composeCx_calls w2)
        (fun w2 hw2 => (hit w2 hw2).mono fun e w' h => by
          obtain ⟨v, rfl, hb, L, hL, hv⟩ := h
          rw [hx1] at hL
          have hl : L.length = 1 := by have := congrArg List.length hL; simpa using this
          have h0 : (L.getD 0 default).1 = x := by
            match L, hl with
            | [y], _ =>
              have : [y.1] = [x] := hL
              injection this
          rcases hv with ⟨_, rfl⟩ | ⟨g, cp, rfl, g1, g2, g3, g4, g5⟩
          · cases hl
          · rw [hl]
            refine ⟨g, cp, rfl, g1, g4, hb, fun j hj => ?_⟩
            have := g5 0 (by omega) j hj
            rw [Nat.zero_mul, Nat.zero_add, h0] at this
            exact this)
      refine hS.mono ?_
      rintro e w' ⟨rfl, q1, q2, q3, gb, cp, q4, q5, q6, q7, q8, q9⟩
      exact ⟨rfl, q1, q2, q3, _, _, q4, .inl ⟨rfl, gb, cp, rfl, by omega, q6, q7, q8, q9⟩⟩
    · have h1 : itemsE tags5 1 = [] := List.map_eq_nil_iff.1 items_1
      have hS := show0_walk bb ad 5 tc 1 0 sameM plainX (.pointer (some ⟨bb, 0, none⟩)) w0 (fun w2 hw2 => (hit w2 hw2).mono fun e w' h => by
        obtain ⟨v, rfl, hb, L, hL, hv⟩ := h
        rw [h1] at hL
        have hl : L = [] := List.map_eq_nil_iff.1 hL
        subst hl
        rcases hv with ⟨rfl, _⟩ | ⟨g, cp, rfl, g1, g2, g3, g4, g5⟩
        · exact ⟨_, _, rfl, hb⟩
        · exact ⟨_, _, rfl, hb⟩)
      refine hS.mono ?_
      rintro e w' ⟨rfl, hb⟩
      exact ⟨rfl, hb.env, hb.size, fun k hk _ => hb.block k hk, _, _, (hb.block bb hbl).trans hkb, .inr ⟨rfl, rfl⟩⟩
  exact of_walk ad 5 tc b o (kdE tags5) (fun k => ((tags5.getD k []).getD 25 .u).toI) (fun k => ((tags5.getD k []).getD 33 .u).toI) (fun k => ((tags5.getD k []).getD 52 .u).toI) C fr 3 mL w hfr (by decide) (by decide) htc hml hm8 had
    (fun k hk => by
      obtain ⟨c1, c2, c3, c4, _, _, c7⟩ := hC k hk
      refine ⟨c1, c2, c3, c4, cell_int c1 (by decide) (by rw [← at25]; exact c7 25 (by decide)), cell_int c1 (by decide) (by rw [← at33]; exact c7 33 (by decide)), cell_int c1 (by decide) (by rw [← at52]; exact c7 52 (by decide))⟩)
    rfl rfl rfl (fun k h0 hk' => by rcases hk k hk' with h | h; omega; exact h.2) hk9
    (fun w0 hw0 => right_calls hml (VR.mono ⟨fun b hb => ⟨Nat.lt_of_lt_of_le hb hw0.size, hw0.block b hb⟩, fun _ _ h => h⟩ hv))
    (fun lv w' => (fr = 0 ∧ LeafAt w.heap.size (C 0) lv w') ∨ (fr = 1 ∧ lv = .slice none 0 0))
    (fun lv v w1 h hv => by
      simp only [List.mem_cons, List.not_mem_nil, or_false] at hv
      rcases hv with rfl | rfl | rfl | rfl | rfl | rfl
      · rcases h with ⟨_, gb, cp, rfl, _⟩ | ⟨_, rfl⟩ <;> rfl
      all_goals rfl)
    (fun lv w1 w2 h hb hs => by
      rcases h with ⟨h0, gb, cp, rfl, g1, g2, g3, g4, g5⟩ | h
      · exact .inl ⟨h0, gb, cp, rfl, g1, by omega, g3, g4, fun j hj => by rw [World.cell?_of_block (w := w1) (hb gb g1)]; exact g5 j hj⟩
      · exact .inr h)
    hshows
end Go.AI
