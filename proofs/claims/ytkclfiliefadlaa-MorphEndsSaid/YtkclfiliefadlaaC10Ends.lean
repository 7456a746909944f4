/- At 0 a shape is the first one, at 65,535 the other one, in between no number leaves them, and it is a shape that is right, for every input: the law MorphEnds holds. -/
import Derived.Test.YtkclfiliefadlaaAiL
import Derived.Test.YtkclfiliefadlaaP08
import Derived.Test.YtkclfiliefadlaaP09
import Derived.Test.YtkclfiliefadlaaP10
import Derived.Test.YtkclfiliefadlaaRows
import Derived.KernelRfl
set_option linter.unusedVariables false
set_option maxRecDepth 100000
namespace Go.Proofs.Ytkclfiliefadlaa
open Go.AI

theorem morphEnds_count : NoCount Try.checked.prog := noCount_of (by kernel_rfl)
theorem morphEnds_lifted (os : Os) (started : os.Started) (H : Type) (enc : TypeId × Value → H) :
    ReturnsInHanded {} Try.checked os 7 .any (Rows.morphEndsSpec.pre6 enc Try.checked.prog Try.f7 [] false) (Rows.morphEndsSpec.post enc Try.checked.prog Try.f7 false true false false) := by
  refine law_lifted (C := Try.checked) (A := ann) (L := [.int .i64, .int .i64, .int .i64, .int .i64, .int .i64, .int .i64, .int .i64, .int .i64, .int .i64, .sl 66, .sl 66, .sl 54, .sl 54, .sl 46, .sl 46, .int .i64]) (tb := 4) (c := (Try.f7.body.getD .skip)) started (by kernel_rfl) (by kernel_rfl) (by kernel_rfl) (by kernel_rfl) morphEnds_count (by kernel_rfl) (by kernel_rfl) (by kernel_rfl) (by kernel_rfl) (by kernel_rfl) (by kernel_rfl) (by kernel_rfl) (by kernel_rfl)
    (by kernel_rfl) (by kernel_rfl) rfl ?_ ?_ ?_
  · intro ds hd
    match ds, hd with
    | [d1, d2], _ => rfl
  · exact ChangeSpec.witness6 (enc := enc) (C := Try.checked) false ⟨#[], #[.agg #[.int .i64 0, .int .i64 0, .int .i64 0, .int .i64 0, .int .i64 0, .int .i64 0, .int .i64 0, .int .i64 0, .int .i64 0, .slice none 0 0, .slice none 0 0, .slice none 0 0, .slice none 0 0, .slice none 0 0, .slice none 0 0], .int .i64 0], []⟩ 8 (by kernel_rfl) (by kernel_rfl) (by kernel_rfl) (by kernel_rfl)
  · intro ps h
    obtain ⟨n, q, rfl, wn, h⟩ := int_cons h
    obtain ⟨a1, q, rfl, wa1, h⟩ := int_cons h
    obtain ⟨a2, q, rfl, wa2, h⟩ := int_cons h
    obtain ⟨a3, q, rfl, wa3, h⟩ := int_cons h
    obtain ⟨a4, q, rfl, wa4, h⟩ := int_cons h
    obtain ⟨b1, q, rfl, wb1, h⟩ := int_cons h
    obtain ⟨b2, q, rfl, wb2, h⟩ := int_cons h
    obtain ⟨b3, q, rfl, wb3, h⟩ := int_cons h
    obtain ⟨b4, q, rfl, wb4, h⟩ := int_cons h
    obtain ⟨f, q, rfl, hlf, hwf, h⟩ := sl_cons (e := Fill.e) (wf := Fill.wf) (t := 66) (by kernel_rfl) (fill_of (t := 70) (by kernel_rfl)) h
    obtain ⟨g, q, rfl, hlg, hwg, h⟩ := sl_cons (e := Fill.e) (wf := Fill.wf) (t := 66) (by kernel_rfl) (fill_of (t := 70) (by kernel_rfl)) h
    obtain ⟨s, q, rfl, hls, hws, h⟩ := sl_cons (e := Strk.e) (wf := Strk.wf) (t := 54) (by kernel_rfl) strk_of h
    obtain ⟨u, q, rfl, hlu, hwu, h⟩ := sl_cons (e := Strk.e) (wf := Strk.wf) (t := 54) (by kernel_rfl) strk_of h
    obtain ⟨r, q, rfl, hlr, hwr, h⟩ := sl_cons (e := Rec.e) (wf := Rec.wf) (t := 46) (by kernel_rfl) (rec_of (f := 66) (t := 54) (k := 70) (by kernel_rfl) (by kernel_rfl) (by kernel_rfl)) h
    obtain ⟨v, q, rfl, hlv, hwv, h⟩ := sl_cons (e := Rec.e) (wf := Rec.wf) (t := 46) (by kernel_rfl) (rec_of (f := 66) (t := 54) (k := 70) (by kernel_rfl) (by kernel_rfl) (by kernel_rfl)) h
    obtain ⟨t, q, rfl, wt, h⟩ := int_cons h
    obtain rfl := h.nil
    exact ans_c (MorphEnds_c ⟨n, (a1, a2, a3, a4), (b1, b2, b3, b4), f, g, s, u, r, v⟩ ⟨hlf, hlg, hlr, hlv, fun x hx => (hwr x hx).1, fun x hx => (hwv x hx).1⟩ t)
theorem morphEnds_holds : Rows.MorphEndsSaid :=
  OpenClaim.holds_of_wide 7 Try.f7 rfl rfl rfl rfl rfl rfl rfl ⟨rfl, rfl, rfl, rfl, rfl⟩ rfl rfl rfl rfl rfl (by kernel_rfl) (by kernel_rfl) (by kernel_rfl)
    (of_decide_eq_true (by kernel_rfl)) (by unfold Func.isWrapper; first | (rw [if_pos (by decide +kernel)]; kernel_rfl) | (rw [if_neg (by decide +kernel)]; exact ⟨rfl, rfl⟩))
    (fun os started H enc _ => morphEnds_lifted os started H enc)
#print axioms morphEnds_holds
end Go.Proofs.Ytkclfiliefadlaa
