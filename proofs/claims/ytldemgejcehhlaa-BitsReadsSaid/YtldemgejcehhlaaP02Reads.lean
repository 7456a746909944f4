/- The next field of any reader is what the document says. -/
import Derived.Test.YtldemgejcehhlaaP02b
set_option linter.unusedVariables false
set_option linter.unusedSimpArgs false
set_option maxRecDepth 100000
namespace Go.AI
open Go Go.Proofs

theorem rref_ans (s : List UInt8) (a : Int) : Ans (fun k => call k f_celluloidlaw02_rref [.s s, .i a] []) ([.s s, .i a], []) := .succ (fun k => u_celluloidlaw02_rref k s a) (.pure _)
theorem BitsReads_ans (s : List UInt8) (a n : Int) : Ans (fun k => call k f_celluloidlaw02_BitsReads [.s s, .i a, .i n] []) ([.b true], []) := by
  refine Ans.succ (fun k => u_celluloidlaw02_BitsReads k s a n) ?_
  refine .ite (fun h => .bind awake02 (.pure _)) (fun h => ?_)
  have h : ¬ ((s.length : Int) > 1024) := by simpa using h
  have hs : s.length ≤ 2 ^ 40 := Nat.le_trans (by omega : s.length ≤ 1024) (by decide)
  refine .bind (plain_ans hs a n) (.bind (signed_ans hs a n) (.bind (rref_ans s a) ?_))
  simp only [encF, List.getD_cons_zero, List.getD_cons_succ, PV.toI, PV.toS]
  refine .bind (rplain_ans hs a n) (.bind (rref_ans s a) ?_)
  simp only [encF, List.getD_cons_zero, List.getD_cons_succ, PV.toI, PV.toS]
  refine .bind (rsigned_ans hs a n) ?_
  simp only [encF, List.getD_cons_zero, List.getD_cons_succ, PV.toI, PV.toS]
  refine .bind (x := [.b true]) (.yes (by simp) (.bind (rref_ans _ _) ?_)) (.pure _)
  simp only [List.getD_cons_zero, List.getD_cons_succ, PV.toI, PV.toS]
  refine .yes (by simp) (.yes (by simp) (.yes (by simp) (.bind (rref_ans _ _) ?_)))
  simp only [List.getD_cons_zero, List.getD_cons_succ, PV.toI, PV.toS]
  refine .yes (by simp) (.yes (by simp) (.bind (align_ans hs a) ?_))
  simp only [List.getD_cons_zero, List.getD_cons_succ, PV.toI, PV.toS]
  refine .bind (rref_ans _ _) (.bind (rref_ans _ _) ?_)
  simp only [List.getD_cons_zero, List.getD_cons_succ, PV.toI, PV.toS]
  refine .bind (ralign_ans hs a) ?_
  simp only [List.getD_cons_zero, List.getD_cons_succ, PV.toI, PV.toS]
  exact .yes (by simp) (.bind awake02 (.pure _))
end Go.AI
