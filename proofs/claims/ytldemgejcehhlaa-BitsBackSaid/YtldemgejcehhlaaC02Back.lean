/- Fields that are written, one behind the other, are read back, in their order, for every input: the law BitsBack holds. -/
import Derived.Test.YtldemgejcehhlaaAiL
import Derived.Test.YtldemgejcehhlaaConv02
import Derived.Test.YtldemgejcehhlaaRows
import Derived.KernelRfl
set_option linter.unusedVariables false
set_option maxRecDepth 100000
namespace Go.Proofs.Ytldemgejcehhlaa
open Go.AI

theorem bitsBack_count : NoCount Try.checked.prog := noCount_of (by kernel_rfl)
theorem bitsBack_lifted (os : Os) (started : os.Started) (H : Type) (enc : TypeId × Value → H) :
    ReturnsInHanded {} Try.checked os 12 .any (Rows.bitsBackSpec.pre6 enc Try.checked.prog Try.f12 [] false) (Rows.bitsBackSpec.post enc Try.checked.prog Try.f12 false true false false) := by
  refine law_lifted (C := Try.checked) (A := ann) (L := [.sl 79]) (tb := 4) (c := (Try.f12.body.getD .skip)) started (by kernel_rfl) (by kernel_rfl) (by kernel_rfl) (by kernel_rfl) bitsBack_count (by kernel_rfl) (by kernel_rfl) (by kernel_rfl) (by kernel_rfl) (by kernel_rfl) (by kernel_rfl) (by kernel_rfl) (by kernel_rfl)
    (by kernel_rfl) (by kernel_rfl) rfl ?_ ?_ ?_
  · intro ds hd
    match ds, hd with
    | [d1], _ => rfl
  · exact ChangeSpec.witness6 (enc := enc) (C := Try.checked) false ⟨#[], #[.slice none 0 0], []⟩ 8 (by kernel_rfl) (by kernel_rfl) (by kernel_rfl) (by kernel_rfl)
  · intro ps h
    obtain ⟨p1, q1, rfl, h1, r1⟩ := h.cons
    obtain rfl := r1.nil
    obtain ⟨x1, t1, rfl, l1, m1, w1⟩ := h1.sl_of
    have e1 : leaves Try.checked.prog 79 = some [.int .i64, .int .i64, .int .i64] := by kernel_rfl
    rw [e1] at l1
    cases l1
    exact (by obtain ⟨l, rfl, hI⟩ := fds_of x1 w1; exact BitsBack_ans l hI (by rw [List.length_map] at m1; exact m1))
theorem bitsBack_holds : Rows.BitsBackSaid :=
  OpenClaim.holds_of_wide 12 Try.f12 rfl rfl rfl rfl rfl rfl rfl ⟨rfl, rfl, rfl, rfl, rfl⟩ rfl rfl rfl rfl rfl (by kernel_rfl) (by kernel_rfl) (by kernel_rfl)
    (of_decide_eq_true (by kernel_rfl)) (by unfold Func.isWrapper; first | (rw [if_pos (by decide +kernel)]; kernel_rfl) | (rw [if_neg (by decide +kernel)]; exact ⟨rfl, rfl⟩))
    (fun os started H enc _ => bitsBack_lifted os started H enc)
#print axioms bitsBack_holds
end Go.Proofs.Ytldemgejcehhlaa

