/- Lists are read, by the program. -/
import Derived.Test.YtnbmjpdiibandaaP08e
set_option linter.unusedVariables false
set_option linter.unusedSimpArgs false
set_option maxRecDepth 100000
namespace Go.AI
open Go Go.Proofs

def manyP (σ : Rs) : Int × Rs := bif decide ((lit σ 1).1 > 15) then (0, failR (lit σ 1).2 7) else lit σ 1
def fillsP : Nat → Rs → List Fill × Rs
  | 0, σ => ([], σ)
  | n + 1, σ => ((fillP σ).1 :: (fillsP n (fillP σ).2).1, (fillsP n (fillP σ).2).2)
def strkP (σ : Rs) : Strk × Rs := (⟨(lit σ 2).1, (col (lit σ 2).2).1⟩, (col (lit σ 2).2).2)
def strksP : Nat → Rs → List Strk × Rs
  | 0, σ => ([], σ)
  | n + 1, σ => ((strkP σ).1 :: (strksP n (strkP σ).2).1, (strksP n (strkP σ).2).2)
def listsP (σ : Rs) : List Fill × List Strk × Rs :=
  let m := manyP σ
  let a := fillsP m.1.toNat m.2
  let k := manyP a.2
  let b := strksP k.1.toNat k.2
  (a.1, b.1, b.2)
def finT (r : List Fill × List Strk × Rs) : List Fill × List Strk × Rs := if r.2.2.2.2 ≠ 0 then ([], [], ([], 0, r.2.2.2.2)) else r
theorem many_len {σ : Rs} (h : LenOk σ) : LenOk (manyP σ).2 := by
  unfold manyP
  cases decide ((lit σ 1).1 > 15)
  · exact lit_len h 1
  · exact fail_len (lit_len h 1) 7
theorem many_bound (σ : Rs) : 0 ≤ (manyP σ).1 ∧ (manyP σ).1 ≤ 15 := by
  unfold manyP
  cases h : decide ((lit σ 1).1 > 15)
  · simp only [decide_eq_false_iff_not] at h
    exact ⟨lit_pos σ 1, by show (lit σ 1).1 ≤ 15; omega⟩
  · exact ⟨Int.le_refl _, by show (0 : Int) ≤ 15; omega⟩
theorem fillsP_len : ∀ (n : Nat) (σ : Rs), LenOk σ → LenOk (fillsP n σ).2
  | 0, σ, h => h
  | n + 1, σ, h => fillsP_len n _ (fillP_len h)
theorem strkP_len {σ : Rs} (h : LenOk σ) : LenOk (strkP σ).2 := col_len (lit_len h 2)
theorem strksP_len : ∀ (n : Nat) (σ : Rs), LenOk σ → LenOk (strksP n σ).2
  | 0, σ, h => h
  | n + 1, σ, h => strksP_len n _ (strkP_len h)
theorem many_c {σ : Rs} (h : LenOk σ) : cW f___celluloid_style_reader__many [.u] [(t_style_reader, [.s σ.1, .i σ.2.1, .i σ.2.2])] = some ([.i (manyP σ).1], [(t_style_reader, [.s (manyP σ).2.1, .i (manyP σ).2.2.1, .i (manyP σ).2.2.2])]) := by
  rw [w___celluloid_style_reader__many]
  unfold manyP
  simp only [lit_c h, Option.bind_some, Option.bind_none, andB, orB, orB2, List.getD_cons_zero, List.getD_cons_succ, toB_b, toI_i, toS_s, toL_l, cond_true, cond_false, List.length_map]
  cases decide ((lit σ 1).1 > 15)
  · rfl
  · simp only [fail_c, Option.bind_some, Option.bind_none, andB, orB, orB2, List.getD_cons_zero, List.getD_cons_succ, toB_b, toI_i, toS_s, toL_l, cond_true, cond_false, List.length_map]
theorem strk_row (l : List Strk) (s : Strk) : l.map Strk.e ++ List.set [[PV.i 0, PV.i 0, PV.i 0, PV.i 0, PV.i 0]] 0 [PV.i s.width, PV.i s.color.1, PV.i s.color.2.1, PV.i s.color.2.2.1, PV.i s.color.2.2.2] = (l ++ [s]).map Strk.e := by
  rw [List.map_append]; rfl
theorem fill_row (l : List Fill) (f : Fill) : l.map Fill.e ++ List.set [[PV.i 0, PV.i 0, PV.i 0, PV.i 0, PV.i 0, PV.i 0, PV.i 0, PV.i 0, PV.i 0, PV.i 0, PV.i 0, PV.i 0, PV.l [], PV.i 0]] 0 [PV.i f.kind, PV.i f.color.1, PV.i f.color.2.1, PV.i f.color.2.2.1, PV.i f.color.2.2.2, PV.i f.mat.1, PV.i f.mat.2.1, PV.i f.mat.2.2.1, PV.i f.mat.2.2.2.1, PV.i f.mat.2.2.2.2.1, PV.i f.mat.2.2.2.2.2, PV.i f.spread, PV.l (f.stops.map Stop.e), PV.i f.id] = (l ++ [f]).map Fill.e := by
  rw [List.map_append]; rfl
def encT (r : List Fill × List Strk × Rs) : Res := ([.l (r.1.map Fill.e), .l (r.2.1.map Strk.e), .s r.2.2.1, .i r.2.2.2.1, .i r.2.2.2.2], [])
theorem take_loop2 {n : Nat} (hn : n ≤ 15) (L : List Fill) (o1 : List UInt8) (o2 : Int) : ∀ (j i : Nat) (pre : List Strk) (σ : Rs), i + j = n → pre.length = i → LenOk σ →
    rW f_style_Take [] at_style_Take_L2 (S_style_Take_L2 n i (L.map Fill.e) (pre.map Strk.e) o1 o2 σ.1 σ.2.1 σ.2.2) = some (encT (finT (L, pre ++ (strksP j σ).1, (strksP j σ).2)))
  | 0, i, pre, σ, hi, hp, hσ => by
    obtain rfl : i = n := hi
    rw [w_style_Take_L2, decide_eq_false (by omega)]
    unfold finT encT
    by_cases h : σ.2.2 = 0
    · rw [show (σ.2.2 != 0) = false by simp [h], if_neg (by simp [strksP, h])]
      simp [strksP, h]
    · rw [show (σ.2.2 != 0) = true by simp [h], if_pos (by simp [strksP, h])]; rfl
  | j + 1, i, pre, σ, hi, hp, hσ => by
    obtain ⟨h1, h2⟩ := step_i (i := i) (n := n) (by omega) (by omega)
    have ih := take_loop2 hn L o1 o2 j (i + 1) (pre ++ [(strkP σ).1]) (strkP σ).2 (by omega) (by simp [hp]) (strkP_len hσ)
    rw [w_style_Take_L2]
    simp only [h1, h2, lit_c hσ, col_c (lit_len hσ 2), Option.bind_some, Option.bind_none, andB, orB, orB2, List.getD_cons_zero, List.getD_cons_succ, toB_b, toI_i, toS_s, toL_l, cond_true, cond_false, List.length_map]
    rw [room1 _ _ (by omega), cond_true, strk_row _ ⟨(lit σ 2).1, (col (lit σ 2).2).1⟩]
    refine ih.trans ?_
    rw [List.append_assoc]; rfl
theorem take_loop {n : Nat} (hn : n ≤ 15) (o1 : List UInt8) (o2 : Int) : ∀ (j i : Nat) (pre : List Fill) (σ : Rs), i + j = n → pre.length = i → LenOk σ →
    rW f_style_Take [] at_style_Take_L0 (S_style_Take_L0 n i (pre.map Fill.e) [] o1 o2 σ.1 σ.2.1 σ.2.2) =
      some (encT (finT (pre ++ (fillsP j σ).1, (strksP (manyP (fillsP j σ).2).1.toNat (manyP (fillsP j σ).2).2).1, (strksP (manyP (fillsP j σ).2).1.toNat (manyP (fillsP j σ).2).2).2)))
  | 0, i, pre, σ, hi, hp, hσ => by
    obtain rfl : i = n := hi
    obtain ⟨m0, m1⟩ := many_bound σ
    have e := take_loop2 (n := (manyP σ).1.toNat) (by omega) pre o1 o2 (manyP σ).1.toNat 0 [] (manyP σ).2 (by omega) rfl (many_len hσ)
    rw [w_style_Take_L0, decide_eq_false (by omega)]
    rw [show (((manyP σ).1.toNat : Nat) : Int) = (manyP σ).1 by omega] at e
    simp only [many_c hσ, fillsP, List.append_nil, Option.bind_some, Option.bind_none, andB, orB, orB2, List.getD_cons_zero, List.getD_cons_succ, toB_b, toI_i, toS_s, toL_l, cond_true, cond_false, List.length_map]
    exact e
  | j + 1, i, pre, σ, hi, hp, hσ => by
    obtain ⟨h1, h2⟩ := step_i (i := i) (n := n) (by omega) (by omega)
    have ih := take_loop hn o1 o2 j (i + 1) (pre ++ [(fillP σ).1]) (fillP σ).2 (by omega) (by simp [hp]) (fillP_len hσ)
    rw [w_style_Take_L0]
    simp only [h1, h2, fillP_c hσ, Fill.e, Option.bind_some, Option.bind_none, andB, orB, orB2, List.getD_cons_zero, List.getD_cons_succ, toB_b, toI_i, toS_s, toL_l, cond_true, cond_false, List.length_map]
    rw [room1 _ _ (by omega), cond_true, fill_row]
    refine ih.trans ?_
    rw [List.append_assoc]; rfl
def takeF (s : List UInt8) (a : Int) : List Fill × List Strk × Rs := finT (listsP (s, a, 0))
theorem Take_c {s : List UInt8} (h : s.length ≤ 2 ^ 40) (a : Int) : cW f_style_Take [.s s, .i a] [] = some (encT (takeF s a)) := by
  have hσ : LenOk (s, a, 0) := h
  obtain ⟨m0, m1⟩ := many_bound (s, a, 0)
  have e1 := many_c hσ
  have e := take_loop (n := (manyP (s, a, 0)).1.toNat) (by omega) [] 0 (manyP (s, a, 0)).1.toNat 0 [] (manyP (s, a, 0)).2 (by omega) rfl (many_len hσ)
  rw [show (((manyP (s, a, 0)).1.toNat : Nat) : Int) = (manyP (s, a, 0)).1 by omega] at e
  rw [w_style_Take]
  simp only at e1
  simp only [e1, Option.bind_some, Option.bind_none, andB, orB, orB2, List.getD_cons_zero, List.getD_cons_succ, toB_b, toI_i, toS_s, toL_l, cond_true, cond_false, List.length_map]
  exact e
end Go.AI
