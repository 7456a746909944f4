/- Whether any fill, and any line, is right is told as the document says. -/
import Derived.Test.YtnbmjpdiibandaaP08a
import Derived.Test.YtnbmjpdiibandaaP08A
set_option linter.unusedVariables false
set_option linter.unusedSimpArgs false
set_option maxRecDepth 100000
namespace Go.AI
open Go Go.Proofs

theorem StyleRights_c (f g : Fill) (s : Strk) : cW f_celluloidlaw08_StyleRights (f.e ++ (g.e ++ s.e)) [] = some ([.b true], []) := by
  simp only [Fill.e, Strk.e, List.cons_append, List.nil_append]
  rw [w_celluloidlaw08_StyleRights]
  simp only [List.length_map, Option.bind_some, Option.bind_none, andB, orB, orB2, List.getD_cons_zero, List.getD_cons_succ, PV.toB, PV.toI, PV.toS, PV.toL, cond_true, cond_false]
  cases h : (decide (((f.stops.length : Nat) : Int) > 20) || decide (((g.stops.length : Nat) : Int) > 20)) with
  | true => simp only [awake08, Option.bind_some, Option.bind_none, andB, orB, orB2, List.getD_cons_zero, List.getD_cons_succ, PV.toB, PV.toI, PV.toS, PV.toL, cond_true, cond_false]
  | false =>
    simp only [Bool.or_eq_false_iff, decide_eq_false_iff_not] at h
    have hf : f.stops.length ≤ 2 ^ 40 := Nat.le_trans (by omega : _ ≤ 20) (by decide)
    have e1 := rightFill_c f hf
    have e2 := qFill_c f hf
    have e3 := rightStroke_c s
    have e4 := qStroke_c s
    have e5 := sameFill_c f g hf
    have e6 := qSame_c f g hf
    have e7 := sameFill_c f f hf
    simp only [Fill.e, Strk.e, List.cons_append, List.nil_append] at e1 e2 e3 e4 e5 e6 e7
    simp only [e1, e2, e3, e4, e5, e6, e7, awake08, beq_self_eq_true, decide_true, Bool.and_self, Bool.and_true, Option.bind_some, Option.bind_none, andB, orB, orB2, List.getD_cons_zero, List.getD_cons_succ, PV.toB, PV.toI, PV.toS, PV.toL, cond_true, cond_false]
end Go.AI
