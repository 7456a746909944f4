/- The next bytes of any reader, and the number of them, are what the document says. -/
import Derived.Test.YtldemgejcehhlaaP02c
set_option linter.unusedVariables false
set_option linter.unusedSimpArgs false
set_option maxRecDepth 100000
namespace Go.AI
open Go Go.Proofs

theorem rref_ans' (s : List UInt8) (a : Int) : Ans (fun k => call k f_celluloidlaw02_rref [.s s, .i a] []) ([.s s, .i a], []) := .succ (fun k => u_celluloidlaw02_rref k s a) (.pure _)
theorem BitsTakes_ans (s : List UInt8) (a n : Int) (hn : n ≤ 9223372036854775807) : Ans (fun k => call k f_celluloidlaw02_BitsTakes [.s s, .i a, .i n] []) ([.b true], []) := by
  refine Ans.succ (fun k => u_celluloidlaw02_BitsTakes k s a n) ?_
  refine .ite (fun h => .bind awake02 (.pure _)) (fun h => ?_)
  have h : ¬ ((s.length : Int) > 1024) := by simpa using h
  have hs : s.length ≤ 2 ^ 40 := Nat.le_trans (by omega : s.length ≤ 1024) (by decide)
  refine .bind (bytes_ans hs a n hn) (.bind (little_ans hs a n) (.bind (rref_ans' s a) ?_))
  simp only [encF, encB, List.getD_cons_zero, List.getD_cons_succ, PV.toI, PV.toS]
  refine .bind (rbytes_ans hs a n hn) (.bind (rref_ans' s a) ?_)
  simp only [encF, encB, List.getD_cons_zero, List.getD_cons_succ, PV.toI, PV.toS]
  refine .bind (rlittle_ans hs a n) ?_
  simp only [encF, encB, List.getD_cons_zero, List.getD_cons_succ, PV.toI, PV.toS]
  refine .bind (x := [.b true]) (.yes (by simp) (.bind (rref_ans' _ _) ?_)) (.pure _)
  simp only [List.getD_cons_zero, List.getD_cons_succ, PV.toI, PV.toS]
  refine .yes (by simp) (.yes (by simp) (.yes (by simp) (.bind (rref_ans' _ _) ?_)))
  simp only [List.getD_cons_zero, List.getD_cons_succ, PV.toI, PV.toS]
  exact .yes (by simp) (.yes (by simp) (.bind awake02 (.pure _)))
end Go.AI
