/- The items of any frame of any tags are what the document says: the law SceneItems holds. -/
import Derived.Test.YtlahaamidmbajaaGreatAiL
import Derived.Test.YtlahaamidmbajaaGreatP22
import Derived.Test.YtlahaamidmbajaaGreatRows
import Derived.KernelRfl
set_option linter.unusedVariables false
set_option maxRecDepth 100000
namespace Go.Proofs.YtlahaamidmbajaaGreat
open Go.AI

theorem sceneItems_count : NoCount Tryz.checked.prog := noCount_of (by kernel_rfl)
theorem sceneItems_lifted (os : Os) (started : os.Started) (H : Type) (enc : TypeId × Value → H) :
    ReturnsInHanded {} Tryz.checked os 3 .any (Rows.sceneItemsSpec.pre6 enc Tryz.checked.prog Tryz.f3 [] false) (Rows.sceneItemsSpec.post enc Tryz.checked.prog Tryz.f3 false true false false) := by
  refine law_lifted (C := Tryz.checked) (S := [80]) (A := annP) (L := [.sl 80, .int .i64]) (tb := 4) (c := (Tryz.f3.body.getD .skip)) started (by kernel_rfl) (by kernel_rfl) (by kernel_rfl) (by kernel_rfl) (by kernel_rfl) sceneItems_count (prim_ok) (by kernel_rfl) (by kernel_rfl) (by kernel_rfl) (by kernel_rfl) (by kernel_rfl) (by kernel_rfl) (by kernel_rfl) (by kernel_rfl)
    (by kernel_rfl) (by kernel_rfl) rfl ?_ ?_ ?_
  · intro ds hd
    match ds, hd with
    | [d1, d2], _ => rfl
  · exact ChangeSpec.witness6 (enc := enc) (C := Tryz.checked) false ⟨#[], #[.slice none 0 0, .int .i64 0], []⟩ 8 (by kernel_rfl) (by kernel_rfl) (by kernel_rfl) (by kernel_rfl)
  · intro ps h
    obtain ⟨p, q, rfl, hp, h⟩ := h.cons
    obtain ⟨r, s, rfl, hr, h⟩ := h.cons
    obtain rfl := h.nil
    obtain ⟨es, rfl, hz, ho⟩ := tags_of hp
    obtain ⟨m, rfl, m1, m2⟩ := hr.int_of
    have e1 : IntKind.max .i64 = 9223372036854775807 := by decide
    rw [e1] at m2
    exact ans_p (SceneItems_c hz ho m2)
theorem sceneItems_holds : Rows.SceneItemsSaid :=
  OpenClaim.holds_of_wide 3 Tryz.f3 rfl rfl rfl rfl rfl rfl rfl ⟨rfl, rfl, rfl, rfl, rfl⟩ rfl rfl rfl rfl rfl (by kernel_rfl) (by kernel_rfl) (by kernel_rfl)
    (of_decide_eq_true (by kernel_rfl)) (by unfold Func.isWrapper; first | (rw [if_pos (by decide +kernel)]; kernel_rfl) | (rw [if_neg (by decide +kernel)]; exact ⟨rfl, rfl⟩))
    (fun os started H enc _ => sceneItems_lifted os started H enc)
#print axioms sceneItems_holds
end Go.Proofs.YtlahaamidmbajaaGreat
