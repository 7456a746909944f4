/- What is taken of any bytes, and written, is taken as the same again, of no more bytes, for every input: the law FieldAgain holds. -/
import Derived.Test.YtdfhhanbapkegaaAiL
import Derived.Test.YtdfhhanbapkegaaP07Again
import Derived.Test.YtdfhhanbapkegaaRows
import Derived.KernelRfl
set_option linter.unusedVariables false
set_option maxRecDepth 100000
namespace Go.Proofs.Ytdfhhanbapkegaa
open Go.AI

theorem fieldAgain_count : NoCount Try.checked.prog := noCount_of (by kernel_rfl)
theorem fieldAgain_lifted (os : Os) (started : os.Started) (H : Type) (enc : TypeId × Value → H) :
    ReturnsInHanded {} Try.checked os 6 .any (Rows.fieldAgainSpec.pre6 enc Try.checked.prog Try.f6 [] false) (Rows.fieldAgainSpec.post enc Try.checked.prog Try.f6 false true false false) := by
  refine law_lifted (C := Try.checked) (A := ann) (L := [.str]) (tb := 4) (c := (Try.f6.body.getD .skip)) started (by kernel_rfl) (by kernel_rfl) (by kernel_rfl) (by kernel_rfl) fieldAgain_count (by kernel_rfl) (by kernel_rfl) (by kernel_rfl) (by kernel_rfl) (by kernel_rfl) (by kernel_rfl) (by kernel_rfl) (by kernel_rfl)
    (by kernel_rfl) (by kernel_rfl) rfl ?_ ?_ ?_
  · intro ds hd
    match ds, hd with
    | [d1], _ => rfl
  · exact ChangeSpec.witness6 (enc := enc) (C := Try.checked) false ⟨#[], #[.string ByteArray.empty], []⟩ 8 (by kernel_rfl) (by kernel_rfl) (by kernel_rfl) (by kernel_rfl)
  · intro ps h
    obtain ⟨p1, q1, rfl, h1, r1⟩ := h.cons
    obtain rfl := r1.nil
    obtain ⟨x1, rfl, w1⟩ := h1.str_of
    exact FieldAgain_ans x1
theorem fieldAgain_holds : Rows.FieldAgainSaid :=
  OpenClaim.holds_of_wide 6 Try.f6 rfl rfl rfl rfl rfl rfl rfl ⟨rfl, rfl, rfl, rfl, rfl⟩ rfl rfl rfl rfl rfl (by kernel_rfl) (by kernel_rfl) (by kernel_rfl)
    (of_decide_eq_true (by kernel_rfl)) (by unfold Func.isWrapper; first | (rw [if_pos (by decide +kernel)]; kernel_rfl) | (rw [if_neg (by decide +kernel)]; exact ⟨rfl, rfl⟩))
    (fun os started H enc _ => fieldAgain_lifted os started H enc)
#print axioms fieldAgain_holds
end Go.Proofs.Ytdfhhanbapkegaa

