/- Both lists are read, by the document: the same. -/
import Derived.Test.YtnbmjpdiibandaaP08g
set_option linter.unusedVariables false
set_option linter.unusedSimpArgs false
set_option maxRecDepth 100000
namespace Go.AI
open Go Go.Proofs

def manyQ (σ : Rs) : Int × Rs := ((lit σ 1).1, bif ((lit σ 1).2.2.2 == 0) && decide ((lit σ 1).1 > 15) then ((lit σ 1).2.1, (lit σ 1).2.2.1, 7) else (lit σ 1).2)
def fillsQ : Nat → Rs → List Fill × Rs
  | 0, σ => ([], σ)
  | n + 1, σ => bif σ.2.2 == 0 then ((fillQ σ).1 :: (fillsQ n (fillQ σ).2).1, (fillsQ n (fillQ σ).2).2) else ([], σ)
def strksQ : Nat → Rs → List Strk × Rs
  | 0, σ => ([], σ)
  | n + 1, σ => bif σ.2.2 == 0 then ((strkP σ).1 :: (strksQ n (strkP σ).2).1, (strksQ n (strkP σ).2).2) else ([], σ)
theorem fillsQ_yes {n : Nat} {σ : Rs} (h : (σ.2.2 == 0) = true) : fillsQ (n + 1) σ = ((fillQ σ).1 :: (fillsQ n (fillQ σ).2).1, (fillsQ n (fillQ σ).2).2) := by
  show (bif _ then _ else _) = _
  rw [h]; rfl
theorem strksQ_yes {n : Nat} {σ : Rs} (h : (σ.2.2 == 0) = true) : strksQ (n + 1) σ = ((strkP σ).1 :: (strksQ n (strkP σ).2).1, (strksQ n (strkP σ).2).2) := by
  show (bif _ then _ else _) = _
  rw [h]; rfl
theorem fillQ_len {σ : Rs} (h : LenOk σ) : LenOk (fillQ σ).2 := by rw [(fillQ_eq σ).1]; exact fillP_len h
theorem fillsQ_len : ∀ (n : Nat) (σ : Rs), LenOk σ → LenOk (fillsQ n σ).2
  | 0, σ, h => h
  | n + 1, σ, h => by
    unfold fillsQ
    cases σ.2.2 == 0
    · exact h
    · exact fillsQ_len n _ (fillQ_len h)
theorem manyQ_len {σ : Rs} (h : LenOk σ) : LenOk (manyQ σ).2 := by
  unfold manyQ
  cases ((lit σ 1).2.2.2 == 0) && decide ((lit σ 1).1 > 15)
  · exact lit_len h 1
  · exact lit_len h 1
theorem manyQ_bound (σ : Rs) : 0 ≤ (manyQ σ).1 ∧ (manyQ σ).1 < 256 := ⟨lit_pos σ 1, lit1_lt σ⟩
theorem rtake_loop2 {n : Nat} (hn : n ≤ 255) (L : List Fill) (o1 : List UInt8) (o2 o3 : Int) : ∀ (j i : Nat) (pre : List Strk) (σ : Rs), i + j = n → pre.length = i → LenOk σ →
    rW f_celluloidref08_Take [] at_celluloidref08_Take_L2 (S_celluloidref08_Take_L2 n i (L.map Fill.e) (pre.map Strk.e) σ.1 σ.2.1 σ.2.2 o1 o2 o3) = some (encT (finT (L, pre ++ (strksQ j σ).1, (strksQ j σ).2)))
  | 0, i, pre, σ, hi, hp, hσ => by
    obtain rfl : i = n := hi
    rw [w_celluloidref08_Take_L2, decide_eq_false (by omega)]
    unfold finT encT
    simp only [Bool.and_true, Bool.true_and, Bool.and_false, Bool.false_and, Bool.or_true, Bool.true_or, Bool.or_false, Bool.false_or, Bool.not_true, Bool.not_false, Option.bind_some, Option.bind_none, andB, orB, orB2, List.getD_cons_zero, List.getD_cons_succ, toB_b, toI_i, toS_s, toL_l, cond_true, cond_false, List.length_map]
    by_cases h : σ.2.2 = 0
    · rw [show (σ.2.2 != 0) = false by simp [h], if_neg (by simp [strksQ, h])]
      simp [strksQ, h]
    · rw [show (σ.2.2 != 0) = true by simp [h], if_pos (by simp [strksQ, h])]; rfl
  | j + 1, i, pre, σ, hi, hp, hσ => by
    obtain ⟨h1, h2⟩ := step_i (i := i) (n := n) (by omega) (by omega)
    by_cases he : σ.2.2 = 0
    · have he' : (σ.2.2 == 0) = true := by simpa using he
      have ih := rtake_loop2 hn L o1 o2 o3 j (i + 1) (pre ++ [(strkP σ).1]) (strkP σ).2 (by omega) (by simp [hp]) (strkP_len hσ)
      rw [w_celluloidref08_Take_L2]
      simp only [h1, h2, he', rlit_c hσ, rcol_c (lit_len hσ 2), Bool.and_true, Bool.true_and, Bool.and_false, Bool.false_and, Bool.or_true, Bool.true_or, Bool.or_false, Bool.false_or, Bool.not_true, Bool.not_false, Option.bind_some, Option.bind_none, andB, orB, orB2, List.getD_cons_zero, List.getD_cons_succ, toB_b, toI_i, toS_s, toL_l, cond_true, cond_false, List.length_map]
      rw [room1 _ _ (by omega), cond_true, strk_row _ ⟨(lit σ 2).1, (col (lit σ 2).2).1⟩]
      refine ih.trans ?_
      rw [strksQ_yes he', List.append_assoc]; rfl
    · have he' : (σ.2.2 == 0) = false := by simpa using he
      rw [w_celluloidref08_Take_L2]
      have hne : (σ.2.2 != 0) = true := by simp [he]
      simp only [h1, he', hne, strksQ, List.append_nil, Bool.and_true, Bool.true_and, Bool.and_false, Bool.false_and, Bool.or_true, Bool.true_or, Bool.or_false, Bool.false_or, Bool.not_true, Bool.not_false, Option.bind_some, Option.bind_none, andB, orB, orB2, List.getD_cons_zero, List.getD_cons_succ, toB_b, toI_i, toS_s, toL_l, cond_true, cond_false, List.length_map]
      unfold finT encT
      rw [if_pos he]; rfl
theorem rtake_loop {n : Nat} (hn : n ≤ 255) (o1 : List UInt8) (o2 o3 : Int) : ∀ (j i : Nat) (pre : List Fill) (σ : Rs), i + j = n → pre.length = i → LenOk σ →
    rW f_celluloidref08_Take [] at_celluloidref08_Take_L0 (S_celluloidref08_Take_L0 n i (pre.map Fill.e) [] σ.1 σ.2.1 σ.2.2 o1 o2 o3) =
      some (encT (finT (pre ++ (fillsQ j σ).1, (strksQ (manyQ (fillsQ j σ).2).1.toNat (manyQ (fillsQ j σ).2).2).1, (strksQ (manyQ (fillsQ j σ).2).1.toNat (manyQ (fillsQ j σ).2).2).2))) := by
  have out : ∀ (pre : List Fill) (σ : Rs), LenOk σ → ((cW f_celluloidref08_Little [PV.s σ.1, PV.i σ.2.1, PV.i σ.2.2, PV.i 1] []).bind fun r =>
      (bif ((r.1.getD 3 PV.u).toI == 0) && decide ((r.1.getD 0 PV.u).toI > 15) then rW f_celluloidref08_Take [] at_celluloidref08_Take_L2 (S_celluloidref08_Take_L2 (r.1.getD 0 PV.u).toI 0 (pre.map Fill.e) [] (r.1.getD 1 PV.u).toS (r.1.getD 2 PV.u).toI 7 o1 o2 o3)
        else rW f_celluloidref08_Take [] at_celluloidref08_Take_L2 (S_celluloidref08_Take_L2 (r.1.getD 0 PV.u).toI 0 (pre.map Fill.e) [] (r.1.getD 1 PV.u).toS (r.1.getD 2 PV.u).toI (r.1.getD 3 PV.u).toI o1 o2 o3))) =
      some (encT (finT (pre, (strksQ (manyQ σ).1.toNat (manyQ σ).2).1, (strksQ (manyQ σ).1.toNat (manyQ σ).2).2))) := by
    intro pre σ hσ
    obtain ⟨m0, m1⟩ := manyQ_bound σ
    have e := rtake_loop2 (n := (manyQ σ).1.toNat) (by omega) pre o1 o2 o3 (manyQ σ).1.toNat 0 [] (manyQ σ).2 (by omega) rfl (manyQ_len hσ)
    rw [show (((manyQ σ).1.toNat : Nat) : Int) = (manyQ σ).1 by omega] at e
    simp only [rlit_c hσ, Option.bind_some, Option.bind_none, andB, orB, orB2, List.getD_cons_zero, List.getD_cons_succ, toB_b, toI_i, toS_s, toL_l, cond_true, cond_false, List.length_map]
    unfold manyQ at e ⊢
    cases hc : ((lit σ 1).2.2.2 == 0) && decide ((lit σ 1).1 > 15) with
    | false => rw [hc] at e; exact e
    | true => rw [hc] at e; exact e
  intro j
  induction j with
  | zero =>
    intro i pre σ hi hp hσ
    obtain rfl : i = n := hi
    have o := out pre σ hσ
    rw [w_celluloidref08_Take_L0, decide_eq_false (by omega)]
    simp only [fillsQ, List.append_nil, Bool.and_true, Bool.true_and, Bool.and_false, Bool.false_and, Bool.or_true, Bool.true_or, Bool.or_false, Bool.false_or, Bool.not_true, Bool.not_false, Option.bind_some, Option.bind_none, andB, orB, orB2, List.getD_cons_zero, List.getD_cons_succ, toB_b, toI_i, toS_s, toL_l, cond_true, cond_false, List.length_map] at o ⊢
    exact o
  | succ j IH =>
    intro i pre σ hi hp hσ
    obtain ⟨h1, h2⟩ := step_i (i := i) (n := n) (by omega) (by omega)
    by_cases he : σ.2.2 = 0
    · have he' : (σ.2.2 == 0) = true := by simpa using he
      have ih := IH (i + 1) (pre ++ [(fillQ σ).1]) (fillQ σ).2 (by omega) (by simp [hp]) (fillQ_len hσ)
      rw [w_celluloidref08_Take_L0]
      simp only [h1, h2, he', rfill_c hσ, Fill.e, List.cons_append, List.nil_append, Bool.and_true, Bool.true_and, Bool.and_false, Bool.false_and, Bool.or_true, Bool.true_or, Bool.or_false, Bool.false_or, Bool.not_true, Bool.not_false, Option.bind_some, Option.bind_none, andB, orB, orB2, List.getD_cons_zero, List.getD_cons_succ, toB_b, toI_i, toS_s, toL_l, cond_true, cond_false, List.length_map]
      rw [room1 _ _ (by omega), cond_true, fill_row]
      refine ih.trans ?_
      rw [fillsQ_yes he', List.append_assoc]; rfl
    · have he' : (σ.2.2 == 0) = false := by simpa using he
      have o := out pre σ hσ
      rw [w_celluloidref08_Take_L0]
      simp only [h1, he', fillsQ, List.append_nil, Bool.and_true, Bool.true_and, Bool.and_false, Bool.false_and, Bool.or_true, Bool.true_or, Bool.or_false, Bool.false_or, Bool.not_true, Bool.not_false, Option.bind_some, Option.bind_none, andB, orB, orB2, List.getD_cons_zero, List.getD_cons_succ, toB_b, toI_i, toS_s, toL_l, cond_true, cond_false, List.length_map] at o ⊢
      exact o
def listsQ (σ : Rs) : List Fill × List Strk × Rs :=
  let m := manyQ σ
  let a := fillsQ m.1.toNat m.2
  let k := manyQ a.2
  let b := strksQ k.1.toNat k.2
  (a.1, b.1, b.2)
theorem rTake_q {σ : Rs} (hσ : LenOk σ) : cW f_celluloidref08_Take [.s σ.1, .i σ.2.1, .i σ.2.2] [] = some (encT (finT (listsQ σ))) := by
  obtain ⟨m0, m1⟩ := manyQ_bound σ
  have e : ∀ o1 o2 o3, _ := fun o1 o2 o3 => rtake_loop (n := (manyQ σ).1.toNat) (by omega) o1 o2 o3 (manyQ σ).1.toNat 0 [] (manyQ σ).2 (by omega) rfl (manyQ_len hσ)
  rw [show (((manyQ σ).1.toNat : Nat) : Int) = (manyQ σ).1 by omega] at e
  rw [w_celluloidref08_Take]
  simp only [rlit_c hσ, Option.bind_some, Option.bind_none, andB, orB, orB2, List.getD_cons_zero, List.getD_cons_succ, toB_b, toI_i, toS_s, toL_l, cond_true, cond_false, List.length_map]
  unfold listsQ
  unfold manyQ at e ⊢
  cases hc : ((lit σ 1).2.2.2 == 0) && decide ((lit σ 1).1 > 15) with
  | false => rw [hc] at e; exact e ..
  | true => rw [hc] at e; exact e ..
/-! ### it is the program's -/
theorem fillsP_err : ∀ (n : Nat) {σ : Rs}, σ.2.2 ≠ 0 → (fillsP n σ).2 = σ
  | 0, _, _ => rfl
  | n + 1, σ, h => by
    show (fillsP n (fillP σ).2).2 = σ
    rw [fillP_err h]; exact fillsP_err n h
theorem strkP_err {σ : Rs} (h : σ.2.2 ≠ 0) : (strkP σ).2 = σ := by unfold strkP; rw [lit_err h, col_err h]
theorem strksP_err : ∀ (n : Nat) {σ : Rs}, σ.2.2 ≠ 0 → (strksP n σ).2 = σ
  | 0, _, _ => rfl
  | n + 1, σ, h => by
    show (strksP n (strkP σ).2).2 = σ
    rw [strkP_err h]; exact strksP_err n h
theorem fillsQ_err {n : Nat} {σ : Rs} (h : σ.2.2 ≠ 0) : fillsQ n σ = ([], σ) := by
  cases n with
  | zero => rfl
  | succ n => unfold fillsQ; rw [show (σ.2.2 == 0) = false by simpa using h]; rfl
theorem strksQ_err {n : Nat} {σ : Rs} (h : σ.2.2 ≠ 0) : strksQ n σ = ([], σ) := by
  cases n with
  | zero => rfl
  | succ n => unfold strksQ; rw [show (σ.2.2 == 0) = false by simpa using h]; rfl
theorem fillsQ_eq : ∀ (n : Nat) (σ : Rs), (fillsQ n σ).2 = (fillsP n σ).2 ∧ ((fillsP n σ).2.2.2 = 0 → fillsQ n σ = fillsP n σ)
  | 0, σ => ⟨rfl, fun _ => rfl⟩
  | n + 1, σ => by
    by_cases h : σ.2.2 = 0
    · obtain ⟨a, b⟩ := fillQ_eq σ
      obtain ⟨c, d⟩ := fillsQ_eq n (fillP σ).2
      unfold fillsQ fillsP
      rw [show (σ.2.2 == 0) = true by simpa using h, cond_true, a]
      refine ⟨c, fun e => ?_⟩
      have hz : (fillP σ).2.2.2 = 0 := by
        by_cases hz : (fillP σ).2.2.2 = 0
        · exact hz
        · rw [show (fillsP n (fillP σ).2).2 = (fillP σ).2 from fillsP_err n hz] at e; exact e
      rw [d e, b hz]
    · have e := fillsP_err (n + 1) h
      rw [fillsQ_err h, e]
      exact ⟨rfl, fun k => absurd k h⟩
theorem strksQ_eq : ∀ (n : Nat) (σ : Rs), (strksQ n σ).2 = (strksP n σ).2 ∧ ((strksP n σ).2.2.2 = 0 → strksQ n σ = strksP n σ)
  | 0, σ => ⟨rfl, fun _ => rfl⟩
  | n + 1, σ => by
    by_cases h : σ.2.2 = 0
    · obtain ⟨c, d⟩ := strksQ_eq n (strkP σ).2
      unfold strksQ strksP
      rw [show (σ.2.2 == 0) = true by simpa using h, cond_true]
      exact ⟨c, fun e => by rw [d e]⟩
    · have e := strksP_err (n + 1) h
      rw [strksQ_err h, e]
      exact ⟨rfl, fun k => absurd k h⟩
theorem manyQ_eq (σ : Rs) : manyQ σ = manyP σ ∨ ((manyQ σ).2 = (manyP σ).2 ∧ (manyP σ).1 = 0 ∧ (manyP σ).2.2.2 ≠ 0) := by
  unfold manyQ manyP
  cases h : decide ((lit σ 1).1 > 15) with
  | false => left; rw [Bool.and_false]; rfl
  | true =>
    right
    simp only [decide_eq_true_eq] at h
    obtain ⟨z, _⟩ := lit_val (σ := σ) (n := 1) (by omega)
    rw [show ((lit σ 1).2.2.2 == 0) = true by simpa using z]
    refine ⟨?_, rfl, ?_⟩
    · show ((lit σ 1).2.1, (lit σ 1).2.2.1, (7 : Int)) = failR (lit σ 1).2 7
      unfold failR; rw [if_pos z]
    · show (failR (lit σ 1).2 7).2.2 ≠ 0
      unfold failR; rw [if_pos z]
      show (7 : Int) ≠ 0; decide
theorem lists_eq (σ : Rs) : finT (listsQ σ) = finT (listsP σ) := by
  have key : ∀ a b : List Fill × List Strk × Rs, a.2.2 = b.2.2 → (b.2.2.2.2 = 0 → a = b) → finT a = finT b := by
    intro a b h1 h2
    unfold finT
    by_cases hz : b.2.2.2.2 = 0
    · rw [h2 hz]
    · rw [h1, if_pos hz, if_pos hz]
  have tail : ∀ (l l' : List Fill) (τ : Rs), (τ.2.2 = 0 → l = l') → finT (l, (strksQ (manyQ τ).1.toNat (manyQ τ).2).1, (strksQ (manyQ τ).1.toNat (manyQ τ).2).2) = finT (l', (strksP (manyP τ).1.toNat (manyP τ).2).1, (strksP (manyP τ).1.toNat (manyP τ).2).2) := by
    intro l l' τ hl
    apply key
    · show (strksQ (manyQ τ).1.toNat (manyQ τ).2).2 = (strksP (manyP τ).1.toNat (manyP τ).2).2
      rcases manyQ_eq τ with e | ⟨e1, e2, e3⟩
      · rw [e]; exact (strksQ_eq _ _).1
      · rw [e1, strksQ_err e3, strksP_err _ e3]
    · intro hz
      have hz : (strksP (manyP τ).1.toNat (manyP τ).2).2.2.2 = 0 := hz
      have hm : (manyP τ).2.2.2 = 0 := by
        by_cases hm : (manyP τ).2.2.2 = 0
        · exact hm
        · rwa [strksP_err _ hm] at hz
      have ht : τ.2.2 = 0 := by
        by_cases ht : τ.2.2 = 0
        · exact ht
        · unfold manyP at hm
          rw [lit_err ht] at hm
          exact absurd hm ht
      rcases manyQ_eq τ with e | ⟨_, _, e3⟩
      · rw [e, (strksQ_eq _ _).2 hz, hl ht]
      · exact absurd hm e3
  unfold listsQ listsP
  dsimp only
  rcases manyQ_eq σ with e | ⟨e1, e2, e3⟩
  · rw [e]
    obtain ⟨a, b⟩ := fillsQ_eq (manyP σ).1.toNat (manyP σ).2
    rw [a]
    exact tail _ _ _ (fun h => by rw [b h])
  · rw [e1, fillsQ_err e3]
    have e4 := fillsP_err (manyP σ).1.toNat e3
    rw [e4]
    exact tail _ _ _ (fun h => absurd h e3)
theorem rTake_c {s : List UInt8} (h : s.length ≤ 2 ^ 40) (a : Int) : cW f_celluloidref08_Take [.s s, .i a, .i 0] [] = some (encT (takeF s a)) := by
  have := rTake_q (σ := (s, a, 0)) h
  rw [lists_eq] at this
  exact this
end Go.AI
