/- The widths of any numbers are the greatest of what the document says, for every input: the law BitsWidths holds. -/
import Derived.Test.YtldemgejcehhlaaAiL
import Derived.Test.YtldemgejcehhlaaP02Widths
import Derived.Test.YtldemgejcehhlaaRows
import Derived.KernelRfl
set_option linter.unusedVariables false
set_option maxRecDepth 100000
namespace Go.Proofs.Ytldemgejcehhlaa
open Go.AI

theorem bitsWidths_count : NoCount Try.checked.prog := noCount_of (by kernel_rfl)
theorem bitsWidths_lifted (os : Os) (started : os.Started) (H : Type) (enc : TypeId × Value → H) :
    ReturnsInHanded {} Try.checked os 5 .any (Rows.bitsWidthsSpec.pre6 enc Try.checked.prog Try.f5 [] false) (Rows.bitsWidthsSpec.post enc Try.checked.prog Try.f5 false true false false) := by
  refine law_lifted (C := Try.checked) (A := ann) (L := [.sl 3]) (tb := 4) (c := (Try.f5.body.getD .skip)) started (by kernel_rfl) (by kernel_rfl) (by kernel_rfl) (by kernel_rfl) bitsWidths_count (by kernel_rfl) (by kernel_rfl) (by kernel_rfl) (by kernel_rfl) (by kernel_rfl) (by kernel_rfl) (by kernel_rfl) (by kernel_rfl)
    (by kernel_rfl) (by kernel_rfl) rfl ?_ ?_ ?_
  · intro ds hd
    match ds, hd with
    | [d1], _ => rfl
  · exact ChangeSpec.witness6 (enc := enc) (C := Try.checked) false ⟨#[], #[.slice none 0 0], []⟩ 8 (by kernel_rfl) (by kernel_rfl) (by kernel_rfl) (by kernel_rfl)
  · intro ps h
    obtain ⟨p1, q1, rfl, h1, r1⟩ := h.cons
    obtain rfl := r1.nil
    obtain ⟨x1, t1, rfl, l1, m1, w1⟩ := h1.sl_of
    have e1 : leaves Try.checked.prog 3 = some [.int .i64] := by kernel_rfl
    rw [e1] at l1
    cases l1
    exact BitsWidths_ans x1 (elem_i64 w1)
theorem bitsWidths_holds : Rows.BitsWidthsSaid :=
  OpenClaim.holds_of_wide 5 Try.f5 rfl rfl rfl rfl rfl rfl rfl ⟨rfl, rfl, rfl, rfl, rfl⟩ rfl rfl rfl rfl rfl (by kernel_rfl) (by kernel_rfl) (by kernel_rfl)
    (of_decide_eq_true (by kernel_rfl)) (by unfold Func.isWrapper; first | (rw [if_pos (by decide +kernel)]; kernel_rfl) | (rw [if_neg (by decide +kernel)]; exact ⟨rfl, rfl⟩))
    (fun os started H enc _ => bitsWidths_lifted os started H enc)
#print axioms bitsWidths_holds
end Go.Proofs.Ytldemgejcehhlaa

