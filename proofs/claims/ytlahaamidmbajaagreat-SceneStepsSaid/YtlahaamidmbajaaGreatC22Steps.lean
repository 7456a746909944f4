/- The items of a frame are those of the frame ahead, with the steps between done: the law SceneSteps holds. -/
import Derived.Test.YtlahaamidmbajaaGreatAiL
import Derived.Test.YtlahaamidmbajaaGreatP22
import Derived.Test.YtlahaamidmbajaaGreatRows
import Derived.KernelRfl
set_option linter.unusedVariables false
set_option maxRecDepth 100000
namespace Go.Proofs.YtlahaamidmbajaaGreat
open Go.AI

theorem sceneSteps_count : NoCount Tryz.checked.prog := noCount_of (by kernel_rfl)
theorem sceneSteps_lifted (os : Os) (started : os.Started) (H : Type) (enc : TypeId × Value → H) :
    ReturnsInHanded {} Tryz.checked os 5 .any (Rows.sceneStepsSpec.pre6 enc Tryz.checked.prog Tryz.f5 [] false) (Rows.sceneStepsSpec.post enc Tryz.checked.prog Tryz.f5 false true false false) := by
  refine law_lifted (C := Tryz.checked) (S := [80]) (A := annP) (L := [.sl 80, .int .u8]) (tb := 4) (c := (Tryz.f5.body.getD .skip)) started (by kernel_rfl) (by kernel_rfl) (by kernel_rfl) (by kernel_rfl) (by kernel_rfl) sceneSteps_count (prim_ok) (by kernel_rfl) (by kernel_rfl) (by kernel_rfl) (by kernel_rfl) (by kernel_rfl) (by kernel_rfl) (by kernel_rfl) (by kernel_rfl)
    (by kernel_rfl) (by kernel_rfl) rfl ?_ ?_ ?_
  · intro ds hd
    match ds, hd with
    | [d1, d2], _ => rfl
  · exact ChangeSpec.witness6 (enc := enc) (C := Tryz.checked) false ⟨#[], #[.slice none 0 0, .int .u8 0], []⟩ 8 (by kernel_rfl) (by kernel_rfl) (by kernel_rfl) (by kernel_rfl)
  · intro ps h
    obtain ⟨p, q, rfl, hp, h⟩ := h.cons
    obtain ⟨r, s, rfl, hr, h⟩ := h.cons
    obtain rfl := h.nil
    obtain ⟨es, rfl, hz, ho⟩ := tags_of hp
    obtain ⟨m, rfl, m1, m2⟩ := hr.int_of
    have e1 : IntKind.max .u8 = 255 := by decide
    have e2 : IntKind.min .u8 = 0 := by decide
    rw [e1] at m2
    rw [e2] at m1
    exact ans_p (SceneSteps_c hz ho m1 m2)
theorem sceneSteps_holds : Rows.SceneStepsSaid :=
  OpenClaim.holds_of_wide 5 Tryz.f5 rfl rfl rfl rfl rfl rfl rfl ⟨rfl, rfl, rfl, rfl, rfl⟩ rfl rfl rfl rfl rfl (by kernel_rfl) (by kernel_rfl) (by kernel_rfl)
    (of_decide_eq_true (by kernel_rfl)) (by unfold Func.isWrapper; first | (rw [if_pos (by decide +kernel)]; kernel_rfl) | (rw [if_neg (by decide +kernel)]; exact ⟨rfl, rfl⟩))
    (fun os started H enc _ => sceneSteps_lifted os started H enc)
#print axioms sceneSteps_holds
end Go.Proofs.YtlahaamidmbajaaGreat
