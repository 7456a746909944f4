/- The items of a frame: what the program returns, by what it is given. -/
import Derived.Test.YtlahaamidmbajaaGreatAiW
import Derived.Test.YtlahaamidmbajaaGreatT22g
import Derived.Test.YtlahaamidmbajaaGreatT22w
set_option linter.unusedVariables false
set_option linter.unusedSimpArgs false
set_option maxRecDepth 100000
namespace Go.AI
open Go Go.RowKit Go.Proofs Go.Maps
theorem noCountT : NoCount Tryz.prog := noCount_of (by kernel_rfl)
theorem cases19 {p : Nat → Prop} (h : p 0 ∧ p 1 ∧ p 2 ∧ p 3 ∧ p 4 ∧ p 5 ∧ p 6 ∧ p 7 ∧ p 8 ∧ p 9 ∧ p 10 ∧ p 11 ∧ p 12 ∧ p 13 ∧ p 14 ∧ p 15 ∧ p 16 ∧ p 17 ∧ p 18) : ∀ i, i < 19 → p i := by
  obtain ⟨h0, h1, h2, h3, h4, h5, h6, h7, h8, h9, h10, h11, h12, h13, h14, h15, h16, h17, h18⟩ := h
  intro i hi
  match i, hi with
  | 0, _ => exact h0
  | 1, _ => exact h1
  | 2, _ => exact h2
  | 3, _ => exact h3
  | 4, _ => exact h4
  | 5, _ => exact h5
  | 6, _ => exact h6
  | 7, _ => exact h7
  | 8, _ => exact h8
  | 9, _ => exact h9
  | 10, _ => exact h10
  | 11, _ => exact h11
  | 12, _ => exact h12
  | 13, _ => exact h13
  | 14, _ => exact h14
  | 15, _ => exact h15
  | 16, _ => exact h16
  | 17, _ => exact h17
  | 18, _ => exact h18
  | i + 19, hi => exact absurd hi (by omega)
abbrev ints19 (x : Nat → Int) : List AL := [.int .i64 (x 0), .int .i64 (x 1), .int .i64 (x 2), .int .i64 (x 3), .int .i64 (x 4), .int .i64 (x 5), .int .i64 (x 6), .int .i64 (x 7), .int .i64 (x 8), .int .i64 (x 9), .int .i64 (x 10), .int .i64 (x 11), .int .i64 (x 12), .int .i64 (x 13), .int .i64 (x 14), .int .i64 (x 15), .int .i64 (x 16), .int .i64 (x 17), .int .i64 (x 18)]
theorem int_agg {N : Nat → Prop} {hp : Array Obj} {β : GM} (x : Nat → Int) : VR Tryz.prog N hp β (.agg [.int .i64 (x 0), .int .i64 (x 1), .int .i64 (x 2), .int .i64 (x 3), .int .i64 (x 4), .int .i64 (x 5), .int .i64 (x 6), .int .i64 (x 7), .int .i64 (x 8), .int .i64 (x 9), .int .i64 (x 10), .int .i64 (x 11), .int .i64 (x 12), .int .i64 (x 13), .int .i64 (x 14), .int .i64 (x 15), .int .i64 (x 16), .int .i64 (x 17), .int .i64 (x 18)]) (.agg (itL x).toArray) :=
  VR.agg _ (itL x) rfl (fun i hi => cases19 (p := fun i => LR Tryz.prog N hp β ((ints19 x).getD i .dead) ((itL x).getD i undef)) ⟨rfl, rfl, rfl, rfl, rfl, rfl, rfl, rfl, rfl, rfl, rfl, rfl, rfl, rfl, rfl, rfl, rfl, rfl, rfl⟩ i hi)
theorem agg_inv {N : Nat → Prop} {hp : Array Obj} {β : GM} {x : Nat → Int} {v : Value} (h : VR Tryz.prog N hp β (.agg (ints19 x)) v) : v = .agg (itL x).toArray := by
  cases h with
  | agg _ vs hl h =>
    have hl : vs.length = 19 := hl
    have e : vs = itL x := by
      refine List.ext_getElem? (fun i => ?_)
      by_cases h3 : i < 19
      · rw [getD_some (d := undef) (by rw [hl]; exact h3), getD_some (d := undef) (show i < (itL x).length from h3)]
        have := h i h3
        revert this
        generalize vs.getD i undef = u
        exact cases19 (p := fun i => LR Tryz.prog N hp β ((ints19 x).getD i .dead) u → some u = some ((itL x).getD i undef)) ⟨fun h => congrArg some h, fun h => congrArg some h, fun h => congrArg some h, fun h => congrArg some h, fun h => congrArg some h, fun h => congrArg some h, fun h => congrArg some h, fun h => congrArg some h, fun h => congrArg some h, fun h => congrArg some h, fun h => congrArg some h, fun h => congrArg some h, fun h => congrArg some h, fun h => congrArg some h, fun h => congrArg some h, fun h => congrArg some h, fun h => congrArg some h, fun h => congrArg some h, fun h => congrArg some h⟩ i h3
      · rw [List.getElem?_eq_none (by omega), List.getElem?_eq_none (by show 19 ≤ i; omega)]
    rw [e]
theorem place_calls (x : Nat → Int) (th : Bool) (p : Nat → Int) (n : Int) (w : World) : Calls Tryz.prog 26 #[.agg (itL x).toArray, .bool th, .agg (itL p).toArray, .int .i64 n] w fun e w' => e = .returned (.tuple #[.agg (itL (placeF x th p n).1).toArray, .bool (placeF x th p n).2]) ∧ Bel w.heap.size w w' := by
  obtain ⟨m, hm⟩ := (callW_iff _ _).1 (show callW Tryz.prog ann 26 (itE x ++ [.b th] ++ itE p ++ [.i n]) [] = _ from Place_c x th p n)
  refine (plain_calls (A := ann) (fn := Tryz.f26) (c := Tryz.f26.body.getD .skip) noCountT (noPrim rfl) hm Tryz.func26 (by kernel_rfl) (by kernel_rfl)
    (avs := [.agg (ints19 x), .v (.bool th), .agg (ints19 p), .v (.int .i64 n)]) (by kernel_rfl) (by kernel_rfl) (args := [.agg (itL x).toArray, .bool th, .agg (itL p).toArray, .int .i64 n]) (w := w) rfl (fun i hi => ?_)).mono ?_
  · match i, hi with
    | 0, _ => exact int_agg x
    | 1, _ => exact .v _ _ rfl
    | 2, _ => exact int_agg p
    | 3, _ => exact .v _ _ rfl
  · rintro e w' ⟨v, rfl, hb, vs, rfl, hvs⟩
    refine ⟨?_, hb⟩
    obtain ⟨h1, h2⟩ := hvs [.agg (ints19 (placeF x th p n).1), .v (.bool (placeF x th p n).2)] [] 0 (by kernel_rfl)
    match vs, h1 with
    | [v1, v2], _ =>
      have e1 := agg_inv (h2 0 (by simp))
      have e2 := (h2 1 (by simp)).leaf
      have e1 : v1 = _ := e1
      have e2 : v2 = .bool (placeF x th p n).2 := e2
      rw [e1, e2]
      rfl
theorem keeps_place : KeepsD placeF := by
  intro x th p n h hx
  unfold placeF at h ⊢
  cases hc : ((bitsOp Go.BinOp.and .i64 (p 0) 2 == 0) && !th) with
  | true => rw [hc] at h; cases h
  | false =>
    rw [cond_false]
    show s64 _ p 0 = p 1
    have e64 : ∀ y, s64 y p 0 = y 0 := fun y => by unfold s64; cases bt2 (p 0) 64 <;> rfl
    have e16 : ∀ y, s16 y p 0 = y 0 := fun y => by unfold s16; cases bt2 (p 0) 16 <;> rfl
    have e8 : ∀ y, s8 y p 0 = y 0 := fun y => by unfold s8; cases bt2 (p 0) 8 <;> rfl
    have e4 : ∀ y, s4 y p 0 = y 0 := fun y => by unfold s4; cases bt2 (p 0) 4 <;> rfl
    have e2 : ∀ y, s2 y p n 0 = y 0 := fun y => by unfold s2; cases bt2 (p 0) 2 <;> rfl
    rw [e64, e16, e8, e4, e2]
    cases th with
    | false => rfl
    | true =>
      cases (bitsOp Go.BinOp.and .i64 (p 0) 1 == 0) with
      | true => rfl
      | false => exact hx rfl

/-! ### tags as they are given -/
def kdE (es : List (List PV)) (k : Nat) : Int := ((es.getD k []).getD 0 .u).toI
def dpE (es : List (List PV)) (k : Nat) : Int := ((es.getD k []).getD 1 .u).toI
def plE (es : List (List PV)) (k j : Nat) : Int := ((es.getD k []).getD (6 + j) .u).toI
def itemsE (es : List (List PV)) (frame : Int) : List (Nat → Int) := itemsF placeF (kdE es) (dpE es) (plE es) (doneN (kdE es) frame es.length)
structure OkE (es : List (List PV)) (frame : Int) : Prop where
  len : es.length ≤ 4294967296
  fr : frame ≤ 9223372036854775807
  dp : ∀ k, k < es.length → (Lit.int .i64 (dpE es k)).wf = true
  pl : ∀ k, k < es.length → (Lit.int .i64 (plE es k 1)).wf = true
  at1 : ∀ k, k < es.length → kdE es k = 26 → 1 ≤ plE es k 1 ∧ plE es k 1 ≤ 255
theorem RP.int_of {P : Program} {N : Nat → Prop} {hp : Array Obj} {p : PV} {v : Value} (h : RP P N hp (.int .i64) p v) : v = .int .i64 p.toI := by
  cases h with
  | int k n => rfl
theorem first30 : ((leaves Tryz.prog 80).getD []).take 30 = List.replicate 30 (.int .i64) := by kernel_rfl
theorem leaf80 {j : Nat} (h : j < 30) : ((leaves Tryz.prog 80).getD []).getD j .no = .int .i64 := by
  have e : ((leaves Tryz.prog 80).getD [])[j]? = some (.int .i64) := by
    rw [← List.getElem?_take_of_lt h, first30, List.getElem?_replicate, if_pos h]
  simp [List.getD, e]
/-- a row of tags, cell by cell -/
theorem tags_cells {N : Nat → Prop} {w : World} {es : List (List PV)} {v : Value} (hN : ∀ b, N b → b < w.heap.size) (h : RP Tryz.prog N w.heap (.sl 80) (.l es) v) : ∃ (ad : Option Addr) (b o cap : Nat) (C : Nat → List Value),
    v = .slice ad es.length cap ∧ es.length ≤ cap ∧ (0 < es.length → ad = some ⟨b, o, none⟩ ∧ b < w.heap.size) ∧ (∀ k, k < es.length → (C k).length = 55 ∧ (∀ v, v ∈ C k → v.oneCell' = true) ∧ (∀ j, j < 55 → w.cell? ⟨b, o + k * 55 + j, none⟩ = some ((C k).getD j undef)) ∧
      (C k)[0]? = some (.int .i64 (kdE es k)) ∧ (C k)[1]? = some (.int .i64 (dpE es k)) ∧ (∀ j, j < 19 → (C k)[6 + j]? = some (.int .i64 (plE es k j))) ∧
      ∀ j, j < 55 → RP Tryz.prog N w.heap (((leaves Tryz.prog 80).getD []).getD j .no) ((es.getD k []).getD j .u) ((C k).getD j undef)) := by
  cases h with
  | nil _ ad => exact ⟨ad, 0, 0, 0, fun _ => [], rfl, Nat.le_refl _, fun h => absurd h (Nat.lt_irrefl _), fun k hk => absurd hk (Nat.not_lt_zero _)⟩
  | sl _ ts _ b o cap ws hc hlv hNb h1 h2 h3 =>
    rw [leaves80] at hlv
    cases hlv
    rw [leaves80_length] at h1 h2
    refine ⟨some ⟨b, o, none⟩, b, o, cap, fun k => (List.range 55).map fun j => ws (k * 55 + j), rfl, hc, fun _ => ⟨rfl, hN b hNb⟩, fun k hk => ?_⟩
    have hr : ∀ j, j < 55 → RP Tryz.prog N w.heap (((leaves Tryz.prog 80).getD []).getD j .no) ((es.getD k []).getD j .u) (ws (k * 55 + j)) := fun j hj => by
      have := h3 k j hk (by rw [leaves80_length]; exact hj)
      rw [leaves80_length] at this
      exact this
    have hg : ∀ j, j < 55 → ((List.range 55).map fun j => ws (k * 55 + j)).getD j undef = ws (k * 55 + j) := fun j hj => by
      simp [List.getD, hj]
    have hg2 : ∀ j, j < 55 → ((List.range 55).map fun j => ws (k * 55 + j))[j]? = some (ws (k * 55 + j)) := fun j hj => by
      simp [hj]
    have hi : ∀ j, j < 30 → ws (k * 55 + j) = .int .i64 ((es.getD k []).getD j .u).toI := fun j hj => by
      have := hr j (by omega)
      rw [leaf80 hj] at this
      exact this.int_of
    refine ⟨by simp, fun v hv => ?_, fun j hj => ?_, ?_, ?_, fun j hj => ?_, fun j hj => ?_⟩
    · obtain ⟨j, hj, rfl⟩ := List.mem_map.1 hv
      exact (hr j (List.mem_range.1 hj)).one
    · rw [hg j hj, cell_cellH, Nat.add_assoc]
      exact h2 (k * 55 + j) (by omega)
    · rw [hg2 0 (by omega), hi 0 (by omega)]; rfl
    · rw [hg2 1 (by omega), hi 1 (by omega)]; rfl
    · rw [hg2 (6 + j) (by omega), hi (6 + j) (by omega)]; rfl
    · rw [hg j hj]; exact hr j hj
theorem items_plain (p : CallF) {es : List (List PV)} {frame : Int} (h : OkE es frame) : PlainOk Tryz.prog (ann.by p) 12 [.l es, .i frame] [.l ((itemsE es frame).map itE)] := by
  refine ⟨Tryz.f12, Tryz.f12.body.getD .skip, [.v (.sl 80 es), .v (.int .i64 frame)], [.v (.sl 82 ((itemsE es frame).map itE))], Tryz.func12, by kernel_rfl, by kernel_rfl, by kernel_rfl, by kernel_rfl, by kernel_rfl, by kernel_rfl, fun N w vs hN hl hv => ?_⟩
  match vs, hl with
  | [v0, v1], _ =>
    have hv0 : RP Tryz.prog N w.heap (.sl 80) (.l es) v0 := (hv 0 (by simp)).leaf
    have hv1 : v1 = .int .i64 frame := (hv 1 (by simp)).leaf
    subst hv1
    obtain ⟨ad, b, o, cap, C, rfl, hcap, had, hC⟩ := tags_cells hN hv0
    have hn := doneN_le (kdE es) frame es.length
    have hlen := h.len
    have hmax : es.length < maxLen := by unfold maxLen; omega
    have hat : ∀ k, k < doneN (kdE es) frame es.length → kdE es k = 26 → 1 ≤ plE es k 1 ∧ plE es k 1 ≤ 255 := fun k hk => h.at1 k (by omega)
    have hst := st_at placeF (kdE es) (dpE es) (plE es) (doneN (kdE es) frame es.length)
    have hwalk := items_walk placeF place_calls ad es.length cap frame w ad b o (doneN (kdE es) frame es.length) cap (kdE es) (dpE es) (plE es) C
      (fun w0 hw0 => done_walk ad es.length cap frame w0 b o (kdE es) C h.fr (fun hp => ⟨(had hp).1, Nat.lt_of_lt_of_le (had hp).2 hw0.size⟩) hmax hcap (fun k hk => by
        obtain ⟨c1, c2, c3, c4, _⟩ := hC k hk
        exact ⟨c1, c2, fun j hj => by rw [cell_bel hw0 (had (by omega)).2]; exact c3 j hj, c4⟩))
      (fun hp => had (by omega)) (by omega) (by omega) (fun k hk => h.dp k (by omega)) (fun k hk => h.pl k (by omega))
      (fun k hk => by obtain ⟨c1, c2, c3, c4, c5, c6, _⟩ := hC k (by omega); exact ⟨c1, c2, c3, c4, c5, c6⟩)
      (fun q hq => by
        have g1 := congrArg Prod.fst (hst.2.2 q)
        have g2 := congrArg Prod.snd (hst.2.2 q)
        have g2 : Maps.has _ _ = _ := g2
        rw [hq] at g2
        have g1 : lookI _ q = _ := g1
        rw [g1, at_depth keeps_place q _ g2.symm]
        have := at_there hat q _ (Nat.le_refl _) g2.symm
        omega)
    refine hwalk.mono ?_
    rintro e w' ⟨v, rfl, hb, K, L, hnd, hK, hperm, hs, hv⟩
    have hL := items_of keeps_place hat hnd hK hperm hs
    refine ⟨[v], rfl, hb, rfl, fun i hi => ?_⟩
    have hi : i = 0 := by simpa using hi
    subst hi
    refine VR.v _ _ ?_
    show RP Tryz.prog _ w'.heap (.sl 82) (.l ((itemsE es frame).map itE)) v
    have hL2 : (itemsE es frame).map itE = L.map fun x => itE x.1 := by
      show (itemsF placeF _ _ _ _).map itE = _
      rw [← hL, List.map_map]
      rfl
    rw [hL2]
    rcases hv with ⟨rfl, rfl⟩ | ⟨g, cp, rfl, h1, h2, h3, h4, h5⟩
    · exact .nil _ _
    · have := RP.sl (P := Tryz.prog) (N := fun b => N b ∨ (w.heap.size ≤ b ∧ b < w'.heap.size)) (hp := w'.heap) 82 (List.replicate 19 (.int .i64)) (L.map fun x => itE x.1) g 0 cp (fun j => (itL (L.getD (j / 19) default).1).getD (j % 19) undef) (by rw [List.length_map]; exact h2) leaves82 (.inr ⟨h1, h4⟩)
        (fun i hi => by
          rw [List.length_map] at hi
          simp [List.getD, hi, itE])
        (fun j hj => by
          rw [List.length_map] at hj
          have hj : j < L.length * 19 := hj
          rw [← cell_cellH, Nat.zero_add]
          have := h5 (j / 19) (by omega) (j % 19) (by omega)
          rw [show j / 19 * 19 + j % 19 = j by omega] at this
          exact this)
        (fun i j hi hj => by
          rw [List.length_map] at hi
          have hj : j < 19 := hj
          show RP _ _ _ ((List.replicate 19 (LTy.int .i64)).getD j .no) (((L.map fun x => itE x.1).getD i []).getD j .u) ((itL (L.getD ((i * 19 + j) / 19) default).1).getD ((i * 19 + j) % 19) undef)
          rw [show (i * 19 + j) / 19 = i by omega, show (i * 19 + j) % 19 = j by omega]
          have e1 : (L.map fun x => itE x.1).getD i [] = itE (L.getD i default).1 := by simp [List.getD, hi]
          rw [e1]
          generalize (L.getD i default).1 = x
          exact cases19 (p := fun j => RP Tryz.prog (fun b => N b ∨ (w.heap.size ≤ b ∧ b < w'.heap.size)) w'.heap ((List.replicate 19 (LTy.int .i64)).getD j .no) ((itE x).getD j .u) ((itL x).getD j undef)) ⟨.int _ _, .int _ _, .int _ _, .int _ _, .int _ _, .int _ _, .int _ _, .int _ _, .int _ _, .int _ _, .int _ _, .int _ _, .int _ _, .int _ _, .int _ _, .int _ _, .int _ _, .int _ _, .int _ _⟩ j hj)
      rw [List.length_map] at this
      exact this
end Go.AI
