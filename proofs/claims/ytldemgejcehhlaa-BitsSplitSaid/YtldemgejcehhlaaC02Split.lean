/- A field of bits is one of its first bits, and one of the others, for every input: the law BitsSplit holds. -/
import Derived.Test.YtldemgejcehhlaaAiL
import Derived.Test.YtldemgejcehhlaaP02Split
import Derived.Test.YtldemgejcehhlaaRows
import Derived.KernelRfl
set_option linter.unusedVariables false
set_option maxRecDepth 100000
namespace Go.Proofs.Ytldemgejcehhlaa
open Go.AI

theorem noCount : NoCount Try.checked.prog := noCount_of (by kernel_rfl)
theorem bitsSplit_lifted (os : Os) (started : os.Started) (H : Type) (enc : TypeId × Value → H) :
    ReturnsInHanded {} Try.checked os 3 .any (Rows.bitsSplitSpec.pre6 enc Try.checked.prog Try.f3 [] false) (Rows.bitsSplitSpec.post enc Try.checked.prog Try.f3 false true false false) := by
  refine law_lifted (C := Try.checked) (A := ann) (L := [.str, .int .i64, .int .i64, .int .i64]) (tb := 4) (c := (Try.f3.body.getD .skip)) started (by kernel_rfl) (by kernel_rfl) (by kernel_rfl) (by kernel_rfl) noCount (by kernel_rfl) (by kernel_rfl) (by kernel_rfl) (by kernel_rfl) (by kernel_rfl) (by kernel_rfl) (by kernel_rfl) (by kernel_rfl)
    (by kernel_rfl) (by kernel_rfl) rfl ?_ ?_ ?_
  · intro ds hd
    match ds, hd with
    | [d1, d2, d3], _ => rfl
  · exact ChangeSpec.witness6 (enc := enc) (C := Try.checked) false ⟨#[], #[.agg #[.string ByteArray.empty, .int .i64 0], .int .i64 0, .int .i64 0], []⟩ 8 (by kernel_rfl) (by kernel_rfl) (by kernel_rfl) (by kernel_rfl)
  · intro ps h
    obtain ⟨p1, q1, rfl, h1, r1⟩ := h.cons
    obtain ⟨p2, q2, rfl, h2, r2⟩ := r1.cons
    obtain ⟨p3, q3, rfl, h3, r3⟩ := r2.cons
    obtain ⟨p4, q4, rfl, h4, r4⟩ := r3.cons
    obtain rfl := r4.nil
    obtain ⟨s, rfl, _⟩ := h1.str_of
    obtain ⟨a, rfl, _⟩ := h2.i64_of
    obtain ⟨n, rfl, w1⟩ := h3.i64_of
    obtain ⟨m, rfl, w2⟩ := h4.i64_of
    exact BitsSplit_ans s a n m w1 w2
theorem bitsSplit_holds : Rows.BitsSplitSaid :=
  OpenClaim.holds_of_wide 3 Try.f3 rfl rfl rfl rfl rfl rfl rfl ⟨rfl, rfl, rfl, rfl, rfl⟩ rfl rfl rfl rfl rfl (by kernel_rfl) (by kernel_rfl) (by kernel_rfl)
    (of_decide_eq_true (by kernel_rfl)) (by unfold Func.isWrapper; first | (rw [if_pos (by decide +kernel)]; kernel_rfl) | (rw [if_neg (by decide +kernel)]; exact ⟨rfl, rfl⟩))
    (fun os started H enc _ => bitsSplit_lifted os started H enc)
#print axioms bitsSplit_holds
end Go.Proofs.Ytldemgejcehhlaa
