/- Any field behind any writer is what the document says, or refused. -/
import Derived.Test.YtldemgejcehhlaaP02h
set_option linter.unusedVariables false
set_option linter.unusedSimpArgs false
set_option maxRecDepth 100000
namespace Go.AI
open Go Go.Proofs

theorem wref_ans (s : List UInt8) (a : Int) : Ans (fun k => call k f_celluloidlaw02_wref [.s s, .i a] []) ([.s s, .i a], []) := .succ (fun k => u_celluloidlaw02_wref k s a) (.pure _)
theorem putPlainF_e (s : List UInt8) (f v n : Int) : (putPlainF s f v n).2.2 = 0 ∨ (putPlainF s f v n).2.2 = 1 := by
  unfold putPlainF; split
  · exact .inr rfl
  · exact .inl rfl
theorem putSignedF_e (s : List UInt8) (f v n : Int) : (putSignedF s f v n).2.2 = 0 ∨ (putSignedF s f v n).2.2 = 1 := by
  unfold putSignedF; split
  · exact .inr rfl
  · exact putPlainF_e _ _ _ _
theorem putLittleF_e (s : List UInt8) (v n : Int) : (putLittleF s v n).2.2 = 0 ∨ (putLittleF s v n).2.2 = 1 := by
  unfold putLittleF; split
  · exact .inr rfl
  · exact .inl rfl
theorem BitsPuts_ans (s : List UInt8) (f v n : Int) (hv : I64 v) : Ans (fun k => call k f_celluloidlaw02_BitsPuts [.s s, .i f, .i v, .i n] []) ([.b true], []) := by
  refine Ans.succ (fun k => u_celluloidlaw02_BitsPuts k s f v n) ?_
  refine .ite (fun h => .bind awake02 (.pure _)) (fun h => ?_)
  have h : ¬ ((s.length : Int) > 1024) := by simpa using h
  have hs : s.length ≤ 50000 := by omega
  refine .bind (putPlain_ans hs f v n hv.2) (.bind (putSigned_ans hs f v n hv) (.bind (putLittle_ans hs f v n hv.2) (.bind (wref_ans s f) ?_)))
  simp only [encW, List.getD_cons_zero, List.getD_cons_succ, PV.toI, PV.toS]
  refine .bind (rputPlain_ans hs f v n hv.2) (.bind (wref_ans s f) ?_)
  simp only [rputPlainF, encW, List.getD_cons_zero, List.getD_cons_succ, PV.toI, PV.toS]
  refine .bind (rputSigned_ans hs f v n hv) (.bind (wref_ans s f) ?_)
  simp only [rputSignedF, encW, List.getD_cons_zero, List.getD_cons_succ, PV.toI, PV.toS]
  refine .bind (rputLittle_ans hs f v n hv.2) ?_
  simp only [rputLittleF, encW, List.getD_cons_zero, List.getD_cons_succ, PV.toI, PV.toS, PV.toB]
  refine .bind (x := [.b false]) ?_ ?_
  · rcases putPlainF_e s f v n with e1 | e1 <;> rcases putSignedF_e s f v n with e2 | e2 <;> rcases putLittleF_e s v n with e3 | e3 <;> rw [e1, e2, e3] <;> exact .pure _
  · refine .no rfl (.bind (putBytes_ans (by simp; omega) f) (.bind (x := [.b true]) (.bind (wref_ans _ _) ?_) (.pure _)))
    simp only [List.getD_cons_zero, List.getD_cons_succ, PV.toI, PV.toS, PV.toB]
    refine .yes (by simp) (.bind (wref_ans _ _) ?_)
    simp only [List.getD_cons_zero, List.getD_cons_succ, PV.toI, PV.toS, PV.toB]
    refine .yes (by simp) (.bind (wref_ans _ _) ?_)
    simp only [List.getD_cons_zero, List.getD_cons_succ, PV.toI, PV.toS, PV.toB]
    refine .yes (by simp) (.yes (by simp; omega) (.yes (by simp) (.yes (by simp) (.bind (putAlign_ans s f) ?_))))
    simp only [List.getD_cons_zero, List.getD_cons_succ, PV.toI, PV.toS, PV.toB]
    exact .yes (by simp) (.bind awake02 (.pure _))
end Go.AI
