/- Whatever stands at any reader is taken for lists as the document says, or refused, for every input: the law StyleTakes holds. -/
import Derived.Test.YtnbmjpdiibandaaAiL
import Derived.Test.YtnbmjpdiibandaaP08D
import Derived.Test.YtnbmjpdiibandaaP08Takes
import Derived.Test.YtnbmjpdiibandaaRows
import Derived.KernelRfl
set_option linter.unusedVariables false
set_option maxRecDepth 100000
namespace Go.Proofs.Ytnbmjpdiibandaa
open Go.AI

theorem styleTakes_count : NoCount Try.checked.prog := noCount_of (by kernel_rfl)
theorem styleTakes_lifted (os : Os) (started : os.Started) (H : Type) (enc : TypeId × Value → H) :
    ReturnsInHanded {} Try.checked os 5 .any (Rows.styleTakesSpec.pre6 enc Try.checked.prog Try.f5 [] false) (Rows.styleTakesSpec.post enc Try.checked.prog Try.f5 false true false false) := by
  refine law_lifted (C := Try.checked) (A := ann) (L := [.str, .int .i64]) (tb := 4) (c := (Try.f5.body.getD .skip)) started (by kernel_rfl) (by kernel_rfl) (by kernel_rfl) (by kernel_rfl) styleTakes_count (by kernel_rfl) (by kernel_rfl) (by kernel_rfl) (by kernel_rfl) (by kernel_rfl) (by kernel_rfl) (by kernel_rfl) (by kernel_rfl)
    (by kernel_rfl) (by kernel_rfl) rfl ?_ ?_ ?_
  · intro ds hd
    match ds, hd with
    | [d1], _ => rfl
  · exact ChangeSpec.witness6 (enc := enc) (C := Try.checked) false ⟨#[], #[.agg #[.string ByteArray.empty, .int .i64 0]], []⟩ 8 (by kernel_rfl) (by kernel_rfl) (by kernel_rfl) (by kernel_rfl)
  · intro ps h
    obtain ⟨s, b, rfl, hs, h1⟩ := str_cons h
    obtain ⟨a, c, rfl, ha, h2⟩ := int_cons h1
    obtain rfl := h2.nil
    exact ans_c (StyleTakes_c s a)
theorem styleTakes_holds : Rows.StyleTakesSaid :=
  OpenClaim.holds_of_wide 5 Try.f5 rfl rfl rfl rfl rfl rfl rfl ⟨rfl, rfl, rfl, rfl, rfl⟩ rfl rfl rfl rfl rfl (by kernel_rfl) (by kernel_rfl) (by kernel_rfl)
    (of_decide_eq_true (by kernel_rfl)) (by unfold Func.isWrapper; first | (rw [if_pos (by decide +kernel)]; kernel_rfl) | (rw [if_neg (by decide +kernel)]; exact ⟨rfl, rfl⟩))
    (fun os started H enc _ => styleTakes_lifted os started H enc)
#print axioms styleTakes_holds
end Go.Proofs.Ytnbmjpdiibandaa

