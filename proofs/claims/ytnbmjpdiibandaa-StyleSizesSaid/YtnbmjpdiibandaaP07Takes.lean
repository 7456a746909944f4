/- Whatever stands at any reader is taken as the document says, or refused. -/
import Derived.Test.YtnbmjpdiibandaaP07A
import Derived.Test.YtnbmjpdiibandaaP07g
set_option linter.unusedVariables false
set_option linter.unusedSimpArgs false
set_option maxRecDepth 100000
namespace Go.AI
open Go Go.Proofs

theorem pl_err {σ : Rs} (h : σ.2.2 ≠ 0) (n : Int) : pl σ n = (0, σ) := by unfold pl; rw [if_pos h]
theorem sg_err {σ : Rs} (h : σ.2.2 ≠ 0) (n : Int) : sg σ n = (0, σ) := by unfold sg; rw [if_pos h]
theorem done_err {σ : Rs} (h : σ.2.2 ≠ 0) (b : Bool) : doneF σ b = ([], 0, σ.2.2) := by unfold doneF; rw [if_pos h]
theorem tk_err {σ : Rs} (h : σ.2.2 ≠ 0) (n : Int) : ∀ m, tk n m σ = (List.replicate m 0, σ) := by
  intro m
  unfold tk
  rw [pl_err h]
  induction m with
  | zero => rfl
  | succ m ih => simp only [sgs, sg_err h] at ih ⊢; rw [ih]; rfl
theorem rect_err {σ : Rs} (h : σ.2.2 ≠ 0) : takeRectF σ = ((0, 0, 0, 0), ([], 0, σ.2.2)) := by
  unfold takeRectF
  rw [tk_err h]
  simp only [done_err h]
  rw [if_pos h]
theorem mat_err {σ : Rs} (h : σ.2.2 ≠ 0) : takeMatF σ = ((0, 0, 0, 0, 0, 0), ([], 0, σ.2.2)) := by
  unfold takeMatF
  have o : ∀ da db, opt2 (pl σ 1) da db = ((da, db), σ) := fun da db => by unfold opt2; rw [pl_err h]; rfl
  rw [o]
  simp only
  rw [o]
  simp only
  unfold finM two
  rw [tk_err h]
  simp only [done_err h]
  rw [if_pos h]
theorem cx_err {σ : Rs} (h : σ.2.2 ≠ 0) : takeCxF σ = ((0, 0, 0, 0), (0, 0, 0, 0), ([], 0, σ.2.2)) := by
  unfold takeCxF cxOf
  simp only [pl_err h]
  have f : ∀ n d, four false n d σ = (d, σ) := fun n d => rfl
  rw [show ((0 : Int) == 1) = false from rfl, f, f]
  unfold finCx
  simp only [done_err h]
  rw [if_pos h]
theorem begin_same {s : List UInt8} {a : Int} (h : rightB s a = true) : beginP s a = beginR s a := by unfold beginP beginR; rw [if_pos h, if_pos h]
theorem beginP_err {s : List UInt8} {a : Int} (h : ¬ rightB s a = true) : (beginP s a).2.2 = 1 := by unfold beginP; rw [if_neg h]
theorem beginR_err {s : List UInt8} {a : Int} (h : ¬ rightB s a = true) : (beginR s a).2.2 = 1 := by unfold beginR; rw [if_neg h]
theorem rect_same (s : List UInt8) (a : Int) : takeRectF (beginP s a) = takeRectF (beginR s a) := by
  by_cases h : rightB s a = true
  · rw [begin_same h]
  · rw [rect_err (by rw [beginP_err h]; decide), rect_err (by rw [beginR_err h]; decide), beginP_err h, beginR_err h]
theorem mat_same (s : List UInt8) (a : Int) : takeMatF (beginP s a) = takeMatF (beginR s a) := by
  by_cases h : rightB s a = true
  · rw [begin_same h]
  · rw [mat_err (by rw [beginP_err h]; decide), mat_err (by rw [beginR_err h]; decide), beginP_err h, beginR_err h]
theorem cx_same (s : List UInt8) (a : Int) : takeCxF (beginP s a) = takeCxF (beginR s a) := by
  by_cases h : rightB s a = true
  · rw [begin_same h]
  · rw [cx_err (by rw [beginP_err h]; decide), cx_err (by rw [beginR_err h]; decide), beginP_err h, beginR_err h]

end Go.AI
