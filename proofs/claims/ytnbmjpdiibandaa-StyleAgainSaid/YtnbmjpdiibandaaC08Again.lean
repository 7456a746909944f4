/- What is taken of any bytes is right, and is written as bytes that are taken as the same, for every input: the law StyleAgain holds. -/
import Derived.Test.YtnbmjpdiibandaaAiL
import Derived.Test.YtnbmjpdiibandaaP08D
import Derived.Test.YtnbmjpdiibandaaP08Again
import Derived.Test.YtnbmjpdiibandaaRows
import Derived.KernelRfl
set_option linter.unusedVariables false
set_option maxRecDepth 100000
namespace Go.Proofs.Ytnbmjpdiibandaa
open Go.AI

theorem styleAgain_count : NoCount Try.checked.prog := noCount_of (by kernel_rfl)
theorem styleAgain_lifted (os : Os) (started : os.Started) (H : Type) (enc : TypeId × Value → H) :
    ReturnsInHanded {} Try.checked os 6 .any (Rows.styleAgainSpec.pre6 enc Try.checked.prog Try.f6 [] false) (Rows.styleAgainSpec.post enc Try.checked.prog Try.f6 false true false false) := by
  refine law_lifted (C := Try.checked) (A := ann) (L := [.str]) (tb := 4) (c := (Try.f6.body.getD .skip)) started (by kernel_rfl) (by kernel_rfl) (by kernel_rfl) (by kernel_rfl) styleAgain_count (by kernel_rfl) (by kernel_rfl) (by kernel_rfl) (by kernel_rfl) (by kernel_rfl) (by kernel_rfl) (by kernel_rfl) (by kernel_rfl)
    (by kernel_rfl) (by kernel_rfl) rfl ?_ ?_ ?_
  · intro ds hd
    match ds, hd with
    | [d1], _ => rfl
  · exact ChangeSpec.witness6 (enc := enc) (C := Try.checked) false ⟨#[], #[.string ByteArray.empty], []⟩ 8 (by kernel_rfl) (by kernel_rfl) (by kernel_rfl) (by kernel_rfl)
  · intro ps h
    obtain ⟨s, b, rfl, hs, h1⟩ := str_cons h
    obtain rfl := h1.nil
    exact ans_c (StyleAgain_c s)
theorem styleAgain_holds : Rows.StyleAgainSaid :=
  OpenClaim.holds_of_wide 6 Try.f6 rfl rfl rfl rfl rfl rfl rfl ⟨rfl, rfl, rfl, rfl, rfl⟩ rfl rfl rfl rfl rfl (by kernel_rfl) (by kernel_rfl) (by kernel_rfl)
    (of_decide_eq_true (by kernel_rfl)) (by unfold Func.isWrapper; first | (rw [if_pos (by decide +kernel)]; kernel_rfl) | (rw [if_neg (by decide +kernel)]; exact ⟨rfl, rfl⟩))
    (fun os started H enc _ => styleAgain_lifted os started H enc)
#print axioms styleAgain_holds
end Go.Proofs.Ytnbmjpdiibandaa

