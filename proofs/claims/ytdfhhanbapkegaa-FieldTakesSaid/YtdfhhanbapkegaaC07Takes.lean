/- Whatever stands at any reader is taken for a rectangle, a matrix, a change or a colour as the document says, or refused, for every input: the law FieldTakes holds. -/
import Derived.Test.YtdfhhanbapkegaaAiL
import Derived.Test.YtdfhhanbapkegaaP07Takes
import Derived.Test.YtdfhhanbapkegaaRows
import Derived.KernelRfl
set_option linter.unusedVariables false
set_option maxRecDepth 100000
namespace Go.Proofs.Ytdfhhanbapkegaa
open Go.AI

theorem fieldTakes_count : NoCount Try.checked.prog := noCount_of (by kernel_rfl)
theorem fieldTakes_lifted (os : Os) (started : os.Started) (H : Type) (enc : TypeId × Value → H) :
    ReturnsInHanded {} Try.checked os 5 .any (Rows.fieldTakesSpec.pre6 enc Try.checked.prog Try.f5 [] false) (Rows.fieldTakesSpec.post enc Try.checked.prog Try.f5 false true false false) := by
  refine law_lifted (C := Try.checked) (A := ann) (L := [.str, .int .i64]) (tb := 4) (c := (Try.f5.body.getD .skip)) started (by kernel_rfl) (by kernel_rfl) (by kernel_rfl) (by kernel_rfl) fieldTakes_count (by kernel_rfl) (by kernel_rfl) (by kernel_rfl) (by kernel_rfl) (by kernel_rfl) (by kernel_rfl) (by kernel_rfl) (by kernel_rfl)
    (by kernel_rfl) (by kernel_rfl) rfl ?_ ?_ ?_
  · intro ds hd
    match ds, hd with
    | [d1], _ => rfl
  · exact ChangeSpec.witness6 (enc := enc) (C := Try.checked) false ⟨#[], #[.agg #[.string ByteArray.empty, .int .i64 0]], []⟩ 8 (by kernel_rfl) (by kernel_rfl) (by kernel_rfl) (by kernel_rfl)
  · intro ps h
    obtain ⟨p1, q1, rfl, h1, r1⟩ := h.cons
    obtain ⟨p2, q2, rfl, h2, r2⟩ := r1.cons
    obtain rfl := r2.nil
    obtain ⟨x1, rfl, w1⟩ := h1.str_of
    obtain ⟨x2, rfl, w2⟩ := h2.i64_of
    exact FieldTakes_ans x1 x2
theorem fieldTakes_holds : Rows.FieldTakesSaid :=
  OpenClaim.holds_of_wide 5 Try.f5 rfl rfl rfl rfl rfl rfl rfl ⟨rfl, rfl, rfl, rfl, rfl⟩ rfl rfl rfl rfl rfl (by kernel_rfl) (by kernel_rfl) (by kernel_rfl)
    (of_decide_eq_true (by kernel_rfl)) (by unfold Func.isWrapper; first | (rw [if_pos (by decide +kernel)]; kernel_rfl) | (rw [if_neg (by decide +kernel)]; exact ⟨rfl, rfl⟩))
    (fun os started H enc _ => fieldTakes_lifted os started H enc)
#print axioms fieldTakes_holds
end Go.Proofs.Ytdfhhanbapkegaa

