/- A number between two others at any ratio is what the document says, for every input: the law MorphBetween holds. -/
import Derived.Test.YtkclfiliefadlaaAiL
import Derived.Test.YtkclfiliefadlaaP08
import Derived.Test.YtkclfiliefadlaaP10
import Derived.Test.YtkclfiliefadlaaRows
import Derived.KernelRfl
set_option linter.unusedVariables false
set_option maxRecDepth 100000
namespace Go.Proofs.Ytkclfiliefadlaa
open Go.AI

theorem morphBetween_count : NoCount Try.checked.prog := noCount_of (by kernel_rfl)
theorem morphBetween_lifted (os : Os) (started : os.Started) (H : Type) (enc : TypeId × Value → H) :
    ReturnsInHanded {} Try.checked os 3 .any (Rows.morphBetweenSpec.pre6 enc Try.checked.prog Try.f3 [] false) (Rows.morphBetweenSpec.post enc Try.checked.prog Try.f3 false true false false) := by
  refine law_lifted (C := Try.checked) (A := ann) (L := [.int .i64, .int .i64, .int .i64]) (tb := 4) (c := (Try.f3.body.getD .skip)) started (by kernel_rfl) (by kernel_rfl) (by kernel_rfl) (by kernel_rfl) morphBetween_count (by kernel_rfl) (by kernel_rfl) (by kernel_rfl) (by kernel_rfl) (by kernel_rfl) (by kernel_rfl) (by kernel_rfl) (by kernel_rfl)
    (by kernel_rfl) (by kernel_rfl) rfl ?_ ?_ ?_
  · intro ds hd
    match ds, hd with
    | [d1, d2, d3], _ => rfl
  · exact ChangeSpec.witness6 (enc := enc) (C := Try.checked) false ⟨#[], #[.int .i64 0, .int .i64 0, .int .i64 0], []⟩ 8 (by kernel_rfl) (by kernel_rfl) (by kernel_rfl) (by kernel_rfl)
  · intro ps h
    obtain ⟨a, q, rfl, w1, h⟩ := int_cons h
    obtain ⟨b, q, rfl, w2, h⟩ := int_cons h
    obtain ⟨t, q, rfl, w3, h⟩ := int_cons h
    obtain rfl := h.nil
    exact ans_c (MorphBetween_c t w1 w2)
theorem morphBetween_holds : Rows.MorphBetweenSaid :=
  OpenClaim.holds_of_wide 3 Try.f3 rfl rfl rfl rfl rfl rfl rfl ⟨rfl, rfl, rfl, rfl, rfl⟩ rfl rfl rfl rfl rfl (by kernel_rfl) (by kernel_rfl) (by kernel_rfl)
    (of_decide_eq_true (by kernel_rfl)) (by unfold Func.isWrapper; first | (rw [if_pos (by decide +kernel)]; kernel_rfl) | (rw [if_neg (by decide +kernel)]; exact ⟨rfl, rfl⟩))
    (fun os started H enc _ => morphBetween_lifted os started H enc)
#print axioms morphBetween_holds
end Go.Proofs.Ytkclfiliefadlaa
