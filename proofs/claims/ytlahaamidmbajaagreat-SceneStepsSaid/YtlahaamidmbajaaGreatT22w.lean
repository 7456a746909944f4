/- The items of so many tags, walked: what the program leaves. -/
import Derived.Test.YtlahaamidmbajaaGreatT22s
import Derived.Test.YtlahaamidmbajaaGreatT22k
set_option linter.unusedVariables false
set_option linter.unusedSimpArgs false
namespace Go.AI
open Go Go.RowKit Go.Proofs Go.Maps
theorem ranges_bel {H : Type} {P : Program} {k : TypeId} {R : Value → Option (DataW H × List MemPlace)} {b r n : Nat} {D : DataW H} {left : Lit → Bool} {cnt : Nat} {w w' : World} (h : w.ranges P k R b r n D left cnt) (hk : Bel w.heap.size w w') : w'.ranges P k R b r n D left cnt := by
  have h1 := h.owns.lt
  have h2 := h.lt
  obtain ⟨es, clock, since, seen, c0, hb, F, hs, hD, hr, rest⟩ := h
  exact ⟨es, clock, since, seen, c0, (hk.block b h1).trans hb, F, hs, hD, (hk.block r h2).trans hr, rest⟩
theorem ownsRow_bel {w w' : World} {base : Nat} {e : TypeId} {size : Nat} {v : Value} {n : Nat} {xs : List Value} (h : w.ownsRow base e size v n xs) (hk : Bel w.heap.size w w') : w'.ownsRow base e size v n xs := by
  refine ⟨h.1, ?_⟩
  rcases h.2 with h2 | ⟨g, cap, cur, rfl, h3, h4, h5⟩
  · exact .inl h2
  · refine .inr ⟨g, cap, cur, rfl, h3, ?_, h5⟩
    rw [hk.block g (Array.getElem?_eq_some_iff.1 h4).1]
    exact h4
theorem addr_add0 (B j : Nat) : (⟨B, 0, none⟩ : Addr).add j = ⟨B, j, none⟩ := by
  unfold Addr.add
  split
  · rename_i h; subst h; rfl
  · simp
open Classical in
noncomputable def mkI (x : Nat → Int) : Itm := if h : -1099511627776 ≤ x 0 ∧ x 0 ≤ 1099511627776 then ⟨x, h⟩ else default
theorem mkI_val {x : Nat → Int} (h : -1099511627776 ≤ x 0 ∧ x 0 ≤ 1099511627776) : (mkI x).1 = x := by
  unfold mkI
  rw [dif_pos h]
/-- what comes out -/
def ItemsOut (w w' : World) (D : DataW Value) (v : Value) : Prop := ∃ (K : List Int) (L : List Itm), K.Nodup ∧ (∀ q, q ∈ K ↔ Maps.has D (.int .i64 q) = true) ∧ (L.map fun x => x.1).Perm (K.map fun q => lookI D q) ∧ (L.map fun x => x.1).Pairwise (fun x y => x 0 ≤ y 0) ∧
  ((v = .slice none 0 0 ∧ L = []) ∨ ∃ g cap, v = .slice (some ⟨g, 0, none⟩) L.length cap ∧ w.heap.size ≤ g ∧ L.length ≤ cap ∧ cap ≤ maxLen ∧ g < w'.heap.size ∧ ∀ i, i < L.length → ∀ j, j < 19 → w'.cell? ⟨g, i * 19 + j, none⟩ = some ((itL (L.getD i default).1).getD j undef))
set_option maxHeartbeats 8000000 in
set_option maxRecDepth 1000000 in
theorem items_walk (placeF : (Nat → Int) → Bool → (Nat → Int) → Int → (Nat → Int) × Bool)
    (hplace : ∀ (x : Nat → Int) (th : Bool) (p : Nat → Int) (n : Int) (w : World), Calls Tryz.prog 26 #[.agg (itL x).toArray, .bool th, .agg (itL p).toArray, .int .i64 n] w fun e w' => e = .returned (.tuple #[.agg (itL (placeF x th p n).1).toArray, .bool (placeF x th p n).2]) ∧ Bel w.heap.size w w')
    (a : Option Addr) (len cap : Nat) (frame : Int) (w : World) (ad : Option Addr) (b o n c : Nat) (kd dp : Nat → Int) (pl : Nat → Nat → Int) (C : Nat → List Value)
    (hdone : ∀ w0, Bel w.heap.size w w0 → Calls Tryz.prog 25 #[.slice a len cap, .int .i64 frame] w0 fun e w' => e = .returned (.slice ad n c) ∧ Bel w0.heap.size w0 w')
    (had : 0 < n → ad = some ⟨b, o, none⟩ ∧ b < w.heap.size) (hn : n < maxLen) (hn40 : n ≤ 500000000000) (hwd : ∀ k, k < n → (Lit.int .i64 (dp k)).wf = true) (hwp : ∀ k, k < n → (Lit.int .i64 (pl k 1)).wf = true)
    (hC : ∀ k, k < n → (C k).length = 55 ∧ (∀ v, v ∈ C k → v.oneCell' = true) ∧ (∀ j, j < 55 → w.cell? ⟨b, o + k * 55 + j, none⟩ = some ((C k).getD j undef)) ∧
      (C k)[0]? = some (.int .i64 (kd k)) ∧ (C k)[1]? = some (.int .i64 (dp k)) ∧ ∀ j, j < 19 → (C k)[6 + j]? = some (.int .i64 (pl k j)))
    (hB : ∀ q, Maps.has (stF placeF kd dp pl n).1 (.int .i64 q) = true → -1099511627776 ≤ lookI (stF placeF kd dp pl n).1 q 0 ∧ lookI (stF placeF kd dp pl n).1 q 0 ≤ 1099511627776)
    : Calls Tryz.prog 12 #[.slice a len cap, .int .i64 frame] w fun e w' => ∃ v, e = .returned v ∧ Bel w.heap.size w w' ∧ ItemsOut w w' (stF placeF kd dp pl n).1 v := by
  have hmm := @run_makeMap Tryz.prog
  generalize hS : stF placeF kd dp pl = S at hB ⊢
  replace hB : Hid _ := hB
  go_enter Tryz.func12, Tryz.ntmps12
  go_wp2_with (go_at_call 25; refine (hdone _ ?hb0).mono ?_)
  case hb0 => exact Bel.ofBelow ((Below.refl _ w).alloc (Nat.le_refl _) _)
  rintro e w1 ⟨rfl, b1⟩
  clear hdone
  have bw : Bel w.heap.size w w1 := (Bel.ofBelow ((Below.refl _ w).alloc (Nat.le_refl _) _)).trans (b1.mono (by simp))
  go_wp2
  go_loopw [6, 21] (fun sh i wr => ∃ k : Nat, k ≤ n ∧ i = .int .i64 k ∧ sh = .int .i64 (S k).2 ∧ wr.ownsMap Tryz.prog 3 itR w.heap.size k (S k).1 ∧ Bel w.heap.size w wr)
    (fun sh i wr => n - (Go.RowKit.intOf i).toNat)
  case atStart =>
    subst hS
    exact ⟨0, Nat.zero_le _, rfl, rfl, ownsMap_bel (World.ownsMap_made _ _ _ _) b1, bw⟩
  case round =>
    obtain ⟨k, hk, rfl, rfl, hown, hbw⟩ := hrel
    by_cases hp : k < n
    · obtain ⟨hA, hbb⟩ := had (by omega)
      subst hA
      clear had
      have hSk : Hid (S (k + 1) = stepF placeF (kd k) (dp k) (pl k) (S k)) := by rw [← hS]; rfl
      obtain ⟨hC1, hC2, hC3, hC4, hC5, hC6⟩ := hC k hp
      have hwk := hwd k hp
      have hwq := hwp k hp
      have hcell : ∀ i, i < (C k).length → wr.cell? ⟨b, o + k * 55 + i, none⟩ = some ((C k).getD i undef) := fun i hi => by rw [cell_bel hbw hbb]; exact hC3 i (by omega)
      clear hC hwd hwp hC3
      have hpl : ∀ i, i < (itL (pl k)).length → (C k)[6 + i]? = some ((itL (pl k)).getD i undef) := fun i hi => by
        rw [hC6 i hi]
        have key : ∀ i, i < 19 → some (Value.int .i64 (pl k i)) = some ((itL (pl k)).getD i undef) := by
          intro i hi
          rcases i with _ | _ | _ | _ | _ | _ | _ | _ | _ | _ | _ | _ | _ | _ | _ | _ | _ | _ | _ | i
          all_goals first | rfl | omega
        exact key i hi
      have hd7 := hC6 1 (by decide)
      clear hC6
      go_wp2_with (first
        | (refine wpList_load _ rfl _ 80 rfl leaves80 (by kernel_rfl) b (o + k * 55) rfl (C k) (by rw [leaves80_length]; exact hC1) hcell ?_; go_frame)
        | (refine wpList_allocStore _ rfl rfl 8 80 rfl rfl _ rfl rfl leaves80 Tryz.zeroValue80 (by rw [leaves80_length]; rfl) (by simp) (C k) wr.heap.size rfl rfl (by rw [leaves80_length]; exact hC1) hC2 ?_; intro w2 b2 s2 h2; go_frame
           have d0 : w2.cell? ⟨wr.heap.size, 0, none⟩ = some (.int .i64 (kd k)) := (cell_block h2 0).trans hC4
           have d1 : w2.cell? ⟨wr.heap.size, 1, none⟩ = some (.int .i64 (dp k)) := (cell_block h2 1).trans hC5
           have d7 : w2.cell? ⟨wr.heap.size, 7, none⟩ = some (.int .i64 (pl k 1)) := (cell_block h2 7).trans hd7
           have hown2 := ownsMap_bel hown b2)
        | (at_delete; refine wpList_delete_own _ rfl _ _ 101 3 rfl 82 keyed3 Tryz.underlying101 itR w.heap.size k _ rfl hown2 _ _ rfl (keyOf_int_mk Tryz.underlying3 hwk) ?_; intro w3 hown3 hturn3; go_frame)
        | (at_lookup; refine lookup_it _ rfl _ _ rfl w.heap.size k _ rfl hown2 _ rfl hwq ?_; go_frame)
        | (refine wpList_allocStore _ rfl rfl 9 82 rfl rfl _ rfl rfl leaves82 Tryz.zeroValue82 (by rfl) (by simp) (itL _) (wr.heap.size + 1) s2 rfl rfl (itL_one _) ?_; intro w3 b3 s3 h3; go_frame
           have e7 : w3.cell? ⟨wr.heap.size, 7, none⟩ = some (.int .i64 (pl k 1)) := (cell_bel b3 (Nat.lt_succ_self _) 7).trans d7)
        | (refine wpList_load _ rfl _ 82 rfl leaves82 (by kernel_rfl) (wr.heap.size + 1) 0 rfl (itL _) rfl (fun i hi => by rw [Nat.zero_add, cell_block h3]; exact getD_some hi) ?_; go_frame)
        | (refine wpList_load _ rfl _ 66 rfl leaves66 (by kernel_rfl) wr.heap.size 6 rfl (itL (pl k)) rfl (fun i hi => by rw [cell_bel b3 (Nat.lt_succ_self _), cell_block h2]; exact hpl i hi) ?_; go_frame)
        | (go_at_call 26; refine (hplace _ _ _ _ _).mono ?_; rintro e w4 ⟨rfl, b4⟩; rw [s3] at b4
           have e74 : w4.cell? ⟨wr.heap.size, 7, none⟩ = some (.int .i64 (pl k 1)) := (cell_bel b4 (by omega) 7).trans e7)
        | (refine wpList_allocStore _ rfl rfl 11 82 rfl rfl _ rfl rfl leaves82 Tryz.zeroValue82 (by rfl) (by simp) (itL _) w4.heap.size rfl rfl rfl (itL_one _) ?_; intro w5 b5 s5 h5; go_frame
           have e75 : w5.cell? ⟨wr.heap.size, 7, none⟩ = some (.int .i64 (pl k 1)) := (cell_bel b5 (by have := b4.size; omega) 7).trans e74
           have hown5 := ownsMap_bel (ownsMap_bel (ownsMap_bel hown2 (by rw [s2]; exact b3)) (by rw [s3]; exact b4)) b5)
        | (at_mapUpdate; refine wpList_mapUpdate_own _ rfl _ _ _ 101 rfl 3 82 keyed3 Tryz.underlying101 itR w.heap.size k _ rfl hown5 (by omega) _ _ _ rfl rfl (keyOf_int_mk Tryz.underlying3 hwq) _ [] (itR_it _) ?_; intro w6 hown6 hgrow6; go_frame)
        | (refine wpList_load _ rfl _ 82 rfl leaves82 (by kernel_rfl) w4.heap.size 0 rfl (itL _) rfl (fun i hi => by rw [Nat.zero_add, cell_block h5]; exact getD_some hi) ?_; go_frame)
        | go_in)
      · rename_i g1
        have g1 : kd k = 1 := by simpa using g1
        refine ⟨⟨k + 1, hp, by first | rw [wrapN hp hn] | rfl, ?_, ?_, hbw.trans (b2.mono hbw.size)⟩, by first | (rw [wrapN hp hn, intOfN, intOfN]; omega) | (simp only [Go.RowKit.intOf]; omega)⟩
        · rw [hSk.out, stepF, if_pos g1]
        · rw [hSk.out, stepF, if_pos g1]; exact hown2.mono (Nat.le_succ k)
      · rename_i g1 g2
        have g1 : ¬ kd k = 1 := by simpa using g1
        have g2 : kd k = 28 := by simpa using g2
        refine ⟨⟨k + 1, hp, by first | rw [wrapN hp hn] | rfl, ?_, ?_, (hbw.trans (b2.mono hbw.size)).grown hturn3.grown (by have := hbw.size; omega) (fun j hj => by cases hj; exact Nat.le_refl _)⟩, by first | (rw [wrapN hp hn, intOfN, intOfN]; omega) | (simp only [Go.RowKit.intOf]; omega)⟩
        · rw [hSk.out, stepF, if_neg g1, if_pos g2]
        · rw [hSk.out, stepF, if_neg g1, if_pos g2]; exact hown3.mono (Nat.le_succ k)
      · rename_i g1 g2 g3 g4
        have g1 : ¬ kd k = 1 := by simpa using g1
        have g2 : ¬ kd k = 28 := by simpa using g2
        have g3 : kd k = 26 := by simpa using g3
        have bb5 := (((hbw.trans (b2.mono hbw.size)).trans (b3.mono (by have := hbw.size; omega))).trans (b4.mono (by have := hbw.size; omega))).trans (b5.mono (by have := hbw.size; have := b4.size; omega))
        refine ⟨⟨k + 1, hp, by first | rw [wrapN hp hn] | rfl, ?_, ?_, bb5.grown hgrow6 bb5.size (fun j hj => by cases hj; exact Nat.le_refl _)⟩, by first | (rw [wrapN hp hn, intOfN, intOfN]; omega) | (simp only [Go.RowKit.intOf]; omega)⟩
        · rw [hSk.out, stepF, if_neg g1, if_neg g2, if_pos g3, if_pos g4]
        · rw [hSk.out, stepF, if_neg g1, if_neg g2, if_pos g3, if_pos g4]; exact hown6
      · rename_i g1 g2 g3 g4
        have g1 : ¬ kd k = 1 := by simpa using g1
        have g2 : ¬ kd k = 28 := by simpa using g2
        have g3 : kd k = 26 := by simpa using g3
        refine ⟨⟨k + 1, hp, by first | rw [wrapN hp hn] | rfl, ?_, ?_, (((hbw.trans (b2.mono hbw.size)).trans (b3.mono (by have := hbw.size; omega))).trans (b4.mono (by have := hbw.size; omega))).trans (b5.mono (by have := hbw.size; have := b4.size; omega))⟩, by first | (rw [wrapN hp hn, intOfN, intOfN]; omega) | (simp only [Go.RowKit.intOf]; omega)⟩
        · rw [hSk.out, stepF, if_neg g1, if_neg g2, if_pos g3, if_neg (by rw [g4]; exact Bool.false_ne_true)]
        · rw [hSk.out, stepF, if_neg g1, if_neg g2, if_pos g3, if_neg (by rw [g4]; exact Bool.false_ne_true)]; exact hown5.mono (Nat.le_succ k)
      · rename_i g1 g2 g3
        have g1 : ¬ kd k = 1 := by simpa using g1
        have g2 : ¬ kd k = 28 := by simpa using g2
        have g3 : ¬ kd k = 26 := by simpa using g3
        refine ⟨⟨k + 1, hp, by first | rw [wrapN hp hn] | rfl, ?_, ?_, hbw.trans (b2.mono hbw.size)⟩, by first | (rw [wrapN hp hn, intOfN, intOfN]; omega) | (simp only [Go.RowKit.intOf]; omega)⟩
        · rw [hSk.out, stepF, if_neg g1, if_neg g2, if_neg g3]
        · rw [hSk.out, stepF, if_neg g1, if_neg g2, if_neg g3]; exact hown2.mono (Nat.le_succ k)
    · have hkn : k = n := by omega
      subst hkn
      go_wp2_with (first
        | (at_range; refine wpList_range_own _ rfl _ 101 rfl 3 82 keyed3 Tryz.underlying101 itR w.heap.size k _ rfl hown ?_; intro w0 hrg0 hg0 hs0)
        | go_in)
      obtain ⟨i0, hi0, hz1, hz2, hz3⟩ := info_parts (P := Tryz.prog) (e := 82) (z := itV fun _ => 0) (size := 19) (bytes := 152) (by kernel_rfl)
      go_frame
      have hz0 : w0.ownsRow (wr.heap.size + 1) 82 19 (.slice none 0 0) 0 [] := World.ownsRow_nil _ _ _ _
      have bw0 := hbw.grown hg0 hbw.size (fun j hj => by cases hj)
      have hrw := hbw.size
      clear hown hg0 hbw
      generalize wr.heap.size = rr at hrg0 hs0 hz0 hrw ⊢
      go_loopw [13] (fun v wq => ∃ (left : Lit → Bool) (cnt : Nat) (K : List Int), wq.ranges Tryz.prog 3 itR w.heap.size rr k (S k).1 left cnt ∧ wq.ownsRow (rr + 1) 82 19 v K.length (K.map fun q => itL (lookI (S k).1 q)).flatten ∧ Bel w.heap.size w wq ∧ rr + 1 ≤ wq.heap.size ∧
          cnt + K.length ≤ k ∧ K.Nodup ∧ (∀ q, q ∈ K → Maps.has (S k).1 (.int .i64 q) = true ∧ left (.int .i64 q) = false) ∧ (∀ q, Maps.has (S k).1 (.int .i64 q) = true → left (.int .i64 q) = true ∨ q ∈ K))
        (fun v wq => wq.rangeLeft w.heap.size rr)
      case atStart =>
        refine ⟨_, _, [], hrg0, hz0, bw0, by omega, ?_, List.nodup_nil, ?_, ?_⟩
        · exact hrg0.owns.size_le
        · intro q hq; cases hq
        · intro q hq; exact Or.inl hq
      case round =>
        obtain ⟨left, cnt, K, hrg, hrow, hbq, hsq, hck, hnd, hK1, hK2⟩ := hrel
        generalize hD : (S k).1 = D at hrg hrow hK1 hK2
        replace hD : Hid _ := hD
        go_wp2_with (first
          | (at_next; refine next_it _ rfl _ rfl w.heap.size rr k _ _ _ rfl hrg ?_ ?_)
          | go_in)
        · intro hc0 hl0
          have hKm : ∀ q, q ∈ K → (mkI (lookI D q)).1 = lookI D q := fun q hq => mkI_val (by
            have := hB.out q
            rw [hD.out] at this
            exact this (hK1 q hq).1)
          have hrowI : wr.ownsRow (rr + 1) 82 19 u13 (K.map fun q => mkI (lookI D q)).length ((K.map fun q => mkI (lookI D q)).map fun x => itL x.1).flatten := by
            rw [List.length_map, List.map_map, List.map_congr_left (g := fun q => itL (lookI D q)) (fun q hq => by show itL (mkI (lookI D q)).1 = _; rw [hKm q hq])]
            exact hrow
          have hlen : (K.map fun q => mkI (lookI D q)).length < 4611686018427387904 := by rw [List.length_map]; omega
          have hsort := sort_row (rr + 1) u13 _ wr hrowI hlen
          have hlt := hrow.lt
          clear hrow hrowI hlen
          replace hsort : Hid _ := hsort
          go_wp2_with (first
            | (go_at_call 27; refine Calls.mono hsort.out ?_; rintro e w5 ⟨rfl, b5, hq⟩; replace hq : Hid _ := hq)
            | go_in)
          go_ret
          obtain ⟨L', hp1, hp2, hv⟩ := hq.out
          refine ⟨_, rfl, hbq.trans (b5.mono (by omega)), K, L', hnd, fun q => ⟨fun hq => ?_, fun hq => ?_⟩, ?_, ?_, ?_⟩
          · rw [hD.out]; exact (hK1 q hq).1
          · rw [hD.out] at hq
            rcases hK2 q hq with h | h
            · rw [hl0] at h; cases h
            · exact h
          · rw [hD.out]
            have := hp1.map (fun x : Itm => x.1)
            have e3 : K.map ((fun x : Itm => x.1) ∘ fun q => mkI (lookI D q)) = K.map fun q => lookI D q := List.map_congr_left (fun q hq => hKm q hq)
            rw [List.map_map, e3] at this
            exact this
          · rw [List.pairwise_map]; exact hp2
          · rcases hv with h | ⟨g, cp, h1, h2, h3, h4, h5⟩
            · exact .inl h
            · have hl := hp1.length_eq
              refine .inr ⟨g, cp, ?_, ?_, ?_, h3, h4, h5⟩
              · rw [hl]; exact h1
              · have := (hlt g (by rw [h1]; rfl)).1
                omega
              · rw [hl]; exact h2
        · intro x w1' cnt1 hlk hhx hrg1 hlt hg1 hs1 hen
          have hblk : ∀ g, u13.ownBlock = some g → rr + 1 ≤ g := fun g hg => (hrow.lt _ hg).1
          have hne : u13.ownBlock = none ∨ u13.ownBlock ≠ some rr := by
            cases hvo : u13.ownBlock with
            | none => exact Or.inl rfl
            | some g => right; intro e; cases e; have := hblk _ hvo; omega
          have hrow1 := hrow.kept hg1 hne
          have bq1 : Bel w.heap.size w w1' := hbq.grown hg1 hbq.size (fun j hj => by cases hj; exact hrw)
          have hxK : x ∉ K := fun h => by
            have := (hK1 x h).2
            rw [this] at hlk; cases hlk
          have hleft := hrg.left_eq
          clear hrg hrow hg1 hne
          go_wp2_with (first
            | (refine wpList_allocStore _ rfl rfl 15 82 rfl rfl _ rfl rfl leaves82 Tryz.zeroValue82 (by rfl) (by simp) (itL (lookI D x)) w1'.heap.size rfl rfl rfl (itL_one _) ?_; intro w2 b2 s2 h2; go_frame)
            | (refine wpList_load _ rfl _ 82 rfl leaves82 (by kernel_rfl) w1'.heap.size 0 rfl (itL (lookI D x)) rfl (fun i hi => by rw [Nat.zero_add, cell_block h2]; exact getD_some hi) ?_; go_frame)
            | (show wpList _ _ _ (Oper.mk _ (Op.buildSlice _ _ _) _ _ _ _ :: _) _ _; refine wpList_buildOne _ rfl 30 (.tmp 69) rfl Tryz.underlying30 leaves82 Tryz.zeroValue82 rfl (by decide) (by decide) (itL (lookI D x)) ?_ rfl (w1'.heap.size + 1) ?_ ?_; exact rfl; exact s2; intro w3 b3 s3 h3; go_frame
               have b13 : Bel w1'.heap.size w1' w3 := b2.trans (b3.mono (by omega))
               have hrow3 := ownsRow_bel hrow1 b13
               have hrg3 := ranges_bel hrg1 b13)
            | (at_builtin; refine wpList_append_own _ rfl _ _ 30 rfl (rr + 1) 82 i0 (itV fun _ => 0) 19 152 Tryz.underlying30 hi0 hz1 hz2 hz3 rfl (by decide) _ K.length (K.map fun q => itL (lookI D q)).flatten rfl hrow3 ⟨w1'.heap.size + 1, 0, none⟩ 1 1 (itL (lookI D x)) rfl rfl ?c1 (itL_one _) ?c3 ?c4 ?c5 ?_)
            | go_in)
          case c1 =>
            intro j u hu
            rw [addr_add0, cell_block h3]
            exact hu
          case c3 => omega
          case c4 => omega
          case c5 => omega
          intro v' w4 hrow4 hg4 _
          go_wp2
          have hrg4 := hrg3.kept hg4 (fun e => by have := hblk _ e.symm; omega) (fun e => by have := hblk _ e.symm; omega)
          refine ⟨⟨_, cnt1, K ++ [x], hrg4, ?_, ?_, ?_, ?_, ?_, ?_, ?_⟩, ?_⟩
          · have e1 : ((K ++ [x]).map fun q => itL (lookI D q)).flatten = (K.map fun q => itL (lookI D q)).flatten ++ itL (lookI D x) := by simp
            rw [e1, List.length_append]
            exact hrow4
          · exact (bq1.trans (b13.mono bq1.size)).grown hg4 (by have := bq1.size; have := b13.size; omega) (fun j hj => by have := hblk _ hj; omega)
          · have := hg4.size; omega
          · rw [List.length_append]; show cnt1 + (K.length + 1) ≤ k; omega
          · rw [List.nodup_append]
            refine ⟨hnd, by simp, fun a ha b hb e => ?_⟩
            rw [List.mem_singleton] at hb
            subst hb e
            exact hxK ha
          · intro q hq
            rcases List.mem_append.1 hq with h | h
            · exact ⟨(hK1 q h).1, by rw [(hK1 q h).2]; rfl⟩
            · rw [List.mem_singleton] at h
              subst h
              refine ⟨hhx, ?_⟩
              rw [WideAt.sameKey_self (int_key q)]
              simp
          · intro q hq
            by_cases hqx : q = x
            · right; rw [hqx]; simp
            · rcases hK2 q hq with h | h
              · left
                rw [h, sameKey_ne (fun e => hqx (by cases e; rfl))]
                rfl
              · right; exact List.mem_append_left _ h
          · rw [hrg4.left_eq, hleft]; exact hlt
end Go.AI
