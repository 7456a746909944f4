/- Whatever stands at any reader is taken as the document says, or refused. -/
import Derived.Test.YtdfhhanbapkegaaP07A
import Derived.Test.YtdfhhanbapkegaaP07g
set_option linter.unusedVariables false
set_option linter.unusedSimpArgs false
set_option maxRecDepth 100000
namespace Go.AI
open Go Go.Proofs

theorem pl_err {σ : Rs} (h : σ.2.2 ≠ 0) (n : Int) : pl σ n = (0, σ) := by unfold pl; rw [if_pos h]
theorem sg_err {σ : Rs} (h : σ.2.2 ≠ 0) (n : Int) : sg σ n = (0, σ) := by unfold sg; rw [if_pos h]
theorem done_err {σ : Rs} (h : σ.2.2 ≠ 0) (b : Bool) : doneF σ b = ([], 0, σ.2.2) := by unfold doneF; rw [if_pos h]
theorem tk_err {σ : Rs} (h : σ.2.2 ≠ 0) (n : Int) : ∀ m, tk n m σ = (List.replicate m 0, σ) := by
  intro m
  unfold tk
  rw [pl_err h]
  induction m with
  | zero => rfl
  | succ m ih => simp only [sgs, sg_err h] at ih ⊢; rw [ih]; rfl
theorem rect_err {σ : Rs} (h : σ.2.2 ≠ 0) : takeRectF σ = ((0, 0, 0, 0), ([], 0, σ.2.2)) := by
  unfold takeRectF
  rw [tk_err h]
  simp only [done_err h]
  rw [if_pos h]
theorem mat_err {σ : Rs} (h : σ.2.2 ≠ 0) : takeMatF σ = ((0, 0, 0, 0, 0, 0), ([], 0, σ.2.2)) := by
  unfold takeMatF
  have o : ∀ da db, opt2 (pl σ 1) da db = ((da, db), σ) := fun da db => by unfold opt2; rw [pl_err h]; rfl
  rw [o]
  simp only
  rw [o]
  simp only
  unfold finM two
  rw [tk_err h]
  simp only [done_err h]
  rw [if_pos h]
theorem cx_err {σ : Rs} (h : σ.2.2 ≠ 0) : takeCxF σ = ((0, 0, 0, 0), (0, 0, 0, 0), ([], 0, σ.2.2)) := by
  unfold takeCxF cxOf
  simp only [pl_err h]
  have f : ∀ n d, four false n d σ = (d, σ) := fun n d => rfl
  rw [show ((0 : Int) == 1) = false from rfl, f, f]
  unfold finCx
  simp only [done_err h]
  rw [if_pos h]
theorem begin_same {s : List UInt8} {a : Int} (h : rightB s a = true) : beginP s a = beginR s a := by unfold beginP beginR; rw [if_pos h, if_pos h]
theorem beginP_err {s : List UInt8} {a : Int} (h : ¬ rightB s a = true) : (beginP s a).2.2 = 1 := by unfold beginP; rw [if_neg h]
theorem beginR_err {s : List UInt8} {a : Int} (h : ¬ rightB s a = true) : (beginR s a).2.2 = 1 := by unfold beginR; rw [if_neg h]
theorem rect_same (s : List UInt8) (a : Int) : takeRectF (beginP s a) = takeRectF (beginR s a) := by
  by_cases h : rightB s a = true
  · rw [begin_same h]
  · rw [rect_err (by rw [beginP_err h]; decide), rect_err (by rw [beginR_err h]; decide), beginP_err h, beginR_err h]
theorem mat_same (s : List UInt8) (a : Int) : takeMatF (beginP s a) = takeMatF (beginR s a) := by
  by_cases h : rightB s a = true
  · rw [begin_same h]
  · rw [mat_err (by rw [beginP_err h]; decide), mat_err (by rw [beginR_err h]; decide), beginP_err h, beginR_err h]
theorem cx_same (s : List UInt8) (a : Int) : takeCxF (beginP s a) = takeCxF (beginR s a) := by
  by_cases h : rightB s a = true
  · rw [begin_same h]
  · rw [cx_err (by rw [beginP_err h]; decide), cx_err (by rw [beginR_err h]; decide), beginP_err h, beginR_err h]

theorem in7_ans (s : List UInt8) (a : Int) : Ans (fun k => call k f_celluloidlaw07_in [.s s, .i a] []) ([.s s, .i a], []) := .succ (fun k => u_celluloidlaw07_in k s a) (.pure _)
theorem FieldTakes_ans (s : List UInt8) (a : Int) : Ans (fun k => call k f_celluloidlaw07_FieldTakes [.s s, .i a] []) ([.b true], []) := by
  refine Ans.succ (fun k => u_celluloidlaw07_FieldTakes k s a) ?_
  refine .ite (fun h => .bind awake07 (.pure _)) (fun h => ?_)
  have h : ¬ ((s.length : Int) > 1024) := by simpa using h
  have hs : s.length ≤ 2 ^ 40 := Nat.le_trans (by omega : s.length ≤ 1024) (by decide)
  refine .bind (takeRect_ans hs a) (.bind (takeMat_ans hs a) (.bind (takeCx_ans hs a) (.bind (takeK_ans hs a) ?_)))
  rw [rect_same, mat_same, cx_same]
  refine .bind (in7_ans s a) (.bind (qtakeRect_ans hs a) (.bind (in7_ans s a) (.bind (qtakeMat_ans hs a) (.bind (in7_ans s a) (.bind (qtakeCx_ans hs a) (.bind (in7_ans s a) (.bind (qtakeK_ans hs a) ?_)))))))
  generalize takeRectF (beginR s a) = q1
  generalize takeMatF (beginR s a) = q2
  generalize takeCxF (beginR s a) = q3
  generalize takeKF s a = q4
  simp only [encR, encM, encC, encK, encI4, encS, List.cons_append, List.nil_append, List.getD_cons_zero, List.getD_cons_succ, PV.toI, PV.toS, PV.toB]
  refine .bind (x := [.b false]) (.no (by simp) (.bind (in7_ans _ _) (.no (by simp [PV.toI, PV.toS]) (.no (by simp) (.no (by simp) (.bind (in7_ans _ _) (.no (by simp [PV.toI, PV.toS]) (.pure' (by simp))))))))) (.no rfl ?_)
  refine .bind (x := [.b true]) (.yes (by simp) (.bind (in7_ans _ _) (.yes (by simp [PV.toI, PV.toS]) (.yes (by simp) (.yes (by simp) (.bind (in7_ans _ _) (.yes (by simp [PV.toI, PV.toS]) (.yes (by simp) (.bind awake07 (.pure _))))))))))  (.pure _)
end Go.AI
