/- What is taken of any bytes is a right shape, and is written as bytes that are taken as the same, for every input: the law ShapeAgain holds. -/
import Derived.Test.YtnbmjpdiibandaaAiL
import Derived.Test.YtnbmjpdiibandaaP08
import Derived.Test.YtnbmjpdiibandaaP09
import Derived.Test.YtnbmjpdiibandaaRows
import Derived.KernelRfl
set_option linter.unusedVariables false
set_option maxRecDepth 100000
namespace Go.Proofs.Ytnbmjpdiibandaa
open Go.AI

theorem shapeAgain_count : NoCount Try.checked.prog := noCount_of (by kernel_rfl)
theorem shapeAgain_lifted (os : Os) (started : os.Started) (H : Type) (enc : TypeId × Value → H) :
    ReturnsInHanded {} Try.checked os 9 .any (Rows.shapeAgainSpec.pre6 enc Try.checked.prog Try.f9 [] false) (Rows.shapeAgainSpec.post enc Try.checked.prog Try.f9 false true false false) := by
  refine law_lifted (C := Try.checked) (A := ann) (L := [.str]) (tb := 4) (c := (Try.f9.body.getD .skip)) started (by kernel_rfl) (by kernel_rfl) (by kernel_rfl) (by kernel_rfl) shapeAgain_count (by kernel_rfl) (by kernel_rfl) (by kernel_rfl) (by kernel_rfl) (by kernel_rfl) (by kernel_rfl) (by kernel_rfl) (by kernel_rfl)
    (by kernel_rfl) (by kernel_rfl) rfl ?_ ?_ ?_
  · intro ds hd
    match ds, hd with
    | [d1], _ => rfl
  · exact ChangeSpec.witness6 (enc := enc) (C := Try.checked) false ⟨#[], #[.string ByteArray.empty], []⟩ 8 (by kernel_rfl) (by kernel_rfl) (by kernel_rfl) (by kernel_rfl)
  · intro ps h
    obtain ⟨s, q, rfl, hs, h⟩ := str_cons h
    obtain rfl := h.nil
    exact ans_c (ShapeAgain_c s)
theorem shapeAgain_holds : Rows.ShapeAgainSaid :=
  OpenClaim.holds_of_wide 9 Try.f9 rfl rfl rfl rfl rfl rfl rfl ⟨rfl, rfl, rfl, rfl, rfl⟩ rfl rfl rfl rfl rfl (by kernel_rfl) (by kernel_rfl) (by kernel_rfl)
    (of_decide_eq_true (by kernel_rfl)) (by unfold Func.isWrapper; first | (rw [if_pos (by decide +kernel)]; kernel_rfl) | (rw [if_neg (by decide +kernel)]; exact ⟨rfl, rfl⟩))
    (fun os started H enc _ => shapeAgain_lifted os started H enc)
#print axioms shapeAgain_holds
end Go.Proofs.Ytnbmjpdiibandaa
