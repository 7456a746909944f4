/- A number that becomes a greater one never falls on the way, one that becomes a smaller one never rises, and at the ends it is both, for every input: the law MorphRises holds. -/
import Derived.Test.YtkclfiliefadlaaAiL
import Derived.Test.YtkclfiliefadlaaP08
import Derived.Test.YtkclfiliefadlaaP10
import Derived.Test.YtkclfiliefadlaaRows
import Derived.KernelRfl
set_option linter.unusedVariables false
set_option maxRecDepth 100000
namespace Go.Proofs.Ytkclfiliefadlaa
open Go.AI

theorem morphRises_count : NoCount Try.checked.prog := noCount_of (by kernel_rfl)
theorem morphRises_lifted (os : Os) (started : os.Started) (H : Type) (enc : TypeId × Value → H) :
    ReturnsInHanded {} Try.checked os 6 .any (Rows.morphRisesSpec.pre6 enc Try.checked.prog Try.f6 [] false) (Rows.morphRisesSpec.post enc Try.checked.prog Try.f6 false true false false) := by
  refine law_lifted (C := Try.checked) (A := ann) (L := [.int .i32, .int .i32, .int .u16, .int .u16]) (tb := 4) (c := (Try.f6.body.getD .skip)) started (by kernel_rfl) (by kernel_rfl) (by kernel_rfl) (by kernel_rfl) morphRises_count (by kernel_rfl) (by kernel_rfl) (by kernel_rfl) (by kernel_rfl) (by kernel_rfl) (by kernel_rfl) (by kernel_rfl) (by kernel_rfl)
    (by kernel_rfl) (by kernel_rfl) rfl ?_ ?_ ?_
  · intro ds hd
    match ds, hd with
    | [d1, d2, d3, d4], _ => rfl
  · exact ChangeSpec.witness6 (enc := enc) (C := Try.checked) false ⟨#[], #[.int .i32 0, .int .i32 0, .int .u16 0, .int .u16 0], []⟩ 8 (by kernel_rfl) (by kernel_rfl) (by kernel_rfl) (by kernel_rfl)
  · intro ps h
    obtain ⟨p1, q1, rfl, h1, h⟩ := h.cons
    obtain ⟨p2, q2, rfl, h2, h⟩ := h.cons
    obtain ⟨p3, q3, rfl, h3, h⟩ := h.cons
    obtain ⟨p4, q4, rfl, h4, h⟩ := h.cons
    obtain rfl := h.nil
    obtain ⟨a, rfl, wa⟩ := h1.int_of
    obtain ⟨b, rfl, wb⟩ := h2.int_of
    obtain ⟨t, rfl, wt⟩ := h3.int_of
    obtain ⟨m, rfl, wm⟩ := h4.int_of
    exact ans_c (MorphRises_c wa wb wt wm)
theorem morphRises_holds : Rows.MorphRisesSaid :=
  OpenClaim.holds_of_wide 6 Try.f6 rfl rfl rfl rfl rfl rfl rfl ⟨rfl, rfl, rfl, rfl, rfl⟩ rfl rfl rfl rfl rfl (by kernel_rfl) (by kernel_rfl) (by kernel_rfl)
    (of_decide_eq_true (by kernel_rfl)) (by unfold Func.isWrapper; first | (rw [if_pos (by decide +kernel)]; kernel_rfl) | (rw [if_neg (by decide +kernel)]; exact ⟨rfl, rfl⟩))
    (fun os started H enc _ => morphRises_lifted os started H enc)
#print axioms morphRises_holds
end Go.Proofs.Ytkclfiliefadlaa
