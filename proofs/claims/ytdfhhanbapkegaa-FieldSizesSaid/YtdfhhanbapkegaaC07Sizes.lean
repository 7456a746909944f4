/- A rectangle, and a matrix that turns and stretches nothing, have as many bytes as the document says, for every input: the law FieldSizes holds. -/
import Derived.Test.YtdfhhanbapkegaaAiL
import Derived.Test.YtdfhhanbapkegaaP07Sizes
import Derived.Test.YtdfhhanbapkegaaRows
import Derived.KernelRfl
set_option linter.unusedVariables false
set_option maxRecDepth 100000
namespace Go.Proofs.Ytdfhhanbapkegaa
open Go.AI

theorem fieldSizes_count : NoCount Try.checked.prog := noCount_of (by kernel_rfl)
theorem fieldSizes_lifted (os : Os) (started : os.Started) (H : Type) (enc : TypeId × Value → H) :
    ReturnsInHanded {} Try.checked os 3 .any (Rows.fieldSizesSpec.pre6 enc Try.checked.prog Try.f3 [] false) (Rows.fieldSizesSpec.post enc Try.checked.prog Try.f3 false true false false) := by
  refine law_lifted (C := Try.checked) (A := ann) (L := [.int .i64, .int .i64, .int .i64, .int .i64, .int .i64, .int .i64]) (tb := 4) (c := (Try.f3.body.getD .skip)) started (by kernel_rfl) (by kernel_rfl) (by kernel_rfl) (by kernel_rfl) fieldSizes_count (by kernel_rfl) (by kernel_rfl) (by kernel_rfl) (by kernel_rfl) (by kernel_rfl) (by kernel_rfl) (by kernel_rfl) (by kernel_rfl)
    (by kernel_rfl) (by kernel_rfl) rfl ?_ ?_ ?_
  · intro ds hd
    match ds, hd with
    | [d1, d2, d3], _ => rfl
  · exact ChangeSpec.witness6 (enc := enc) (C := Try.checked) false ⟨#[], #[.agg #[.int .i64 0, .int .i64 0, .int .i64 0, .int .i64 0], .int .i64 0, .int .i64 0], []⟩ 8 (by kernel_rfl) (by kernel_rfl) (by kernel_rfl) (by kernel_rfl)
  · intro ps h
    obtain ⟨p1, q1, rfl, h1, r1⟩ := h.cons
    obtain ⟨p2, q2, rfl, h2, r2⟩ := r1.cons
    obtain ⟨p3, q3, rfl, h3, r3⟩ := r2.cons
    obtain ⟨p4, q4, rfl, h4, r4⟩ := r3.cons
    obtain ⟨p5, q5, rfl, h5, r5⟩ := r4.cons
    obtain ⟨p6, q6, rfl, h6, r6⟩ := r5.cons
    obtain rfl := r6.nil
    obtain ⟨x1, rfl, w1⟩ := h1.i64_of
    obtain ⟨x2, rfl, w2⟩ := h2.i64_of
    obtain ⟨x3, rfl, w3⟩ := h3.i64_of
    obtain ⟨x4, rfl, w4⟩ := h4.i64_of
    obtain ⟨x5, rfl, w5⟩ := h5.i64_of
    obtain ⟨x6, rfl, w6⟩ := h6.i64_of
    exact FieldSizes_ans x1 x2 x3 x4 x5 x6 w1 w2 w3 w4 w5 w6
theorem fieldSizes_holds : Rows.FieldSizesSaid :=
  OpenClaim.holds_of_wide 3 Try.f3 rfl rfl rfl rfl rfl rfl rfl ⟨rfl, rfl, rfl, rfl, rfl⟩ rfl rfl rfl rfl rfl (by kernel_rfl) (by kernel_rfl) (by kernel_rfl)
    (of_decide_eq_true (by kernel_rfl)) (by unfold Func.isWrapper; first | (rw [if_pos (by decide +kernel)]; kernel_rfl) | (rw [if_neg (by decide +kernel)]; exact ⟨rfl, rfl⟩))
    (fun os started H enc _ => fieldSizes_lifted os started H enc)
#print axioms fieldSizes_holds
end Go.Proofs.Ytdfhhanbapkegaa

