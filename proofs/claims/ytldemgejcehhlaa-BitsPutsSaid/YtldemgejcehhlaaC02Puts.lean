/- Any field behind any writer, with a sign or without, is what the document says, or refused, for every input: the law BitsPuts holds. -/
import Derived.Test.YtldemgejcehhlaaAiL
import Derived.Test.YtldemgejcehhlaaP02Puts
import Derived.Test.YtldemgejcehhlaaRows
import Derived.KernelRfl
set_option linter.unusedVariables false
set_option maxRecDepth 100000
namespace Go.Proofs.Ytldemgejcehhlaa
open Go.AI

theorem bitsPuts_count : NoCount Try.checked.prog := noCount_of (by kernel_rfl)
theorem bitsPuts_lifted (os : Os) (started : os.Started) (H : Type) (enc : TypeId × Value → H) :
    ReturnsInHanded {} Try.checked os 6 .any (Rows.bitsPutsSpec.pre6 enc Try.checked.prog Try.f6 [] false) (Rows.bitsPutsSpec.post enc Try.checked.prog Try.f6 false true false false) := by
  refine law_lifted (C := Try.checked) (A := ann) (L := [.str, .int .i64, .int .i64, .int .i64]) (tb := 4) (c := (Try.f6.body.getD .skip)) started (by kernel_rfl) (by kernel_rfl) (by kernel_rfl) (by kernel_rfl) bitsPuts_count (by kernel_rfl) (by kernel_rfl) (by kernel_rfl) (by kernel_rfl) (by kernel_rfl) (by kernel_rfl) (by kernel_rfl) (by kernel_rfl)
    (by kernel_rfl) (by kernel_rfl) rfl ?_ ?_ ?_
  · intro ds hd
    match ds, hd with
    | [d1, d2, d3], _ => rfl
  · exact ChangeSpec.witness6 (enc := enc) (C := Try.checked) false ⟨#[], #[.agg #[.string ByteArray.empty, .int .i64 0], .int .i64 0, .int .i64 0], []⟩ 8 (by kernel_rfl) (by kernel_rfl) (by kernel_rfl) (by kernel_rfl)
  · intro ps h
    obtain ⟨p1, q1, rfl, h1, r1⟩ := h.cons
    obtain ⟨p2, q2, rfl, h2, r2⟩ := r1.cons
    obtain ⟨p3, q3, rfl, h3, r3⟩ := r2.cons
    obtain ⟨p4, q4, rfl, h4, r4⟩ := r3.cons
    obtain rfl := r4.nil
    obtain ⟨x1, rfl, w1⟩ := h1.str_of
    obtain ⟨x2, rfl, w2⟩ := h2.i64_of
    obtain ⟨x3, rfl, w3⟩ := h3.i64_of
    obtain ⟨x4, rfl, w4⟩ := h4.i64_of
    exact BitsPuts_ans x1 x2 x3 x4 w3
theorem bitsPuts_holds : Rows.BitsPutsSaid :=
  OpenClaim.holds_of_wide 6 Try.f6 rfl rfl rfl rfl rfl rfl rfl ⟨rfl, rfl, rfl, rfl, rfl⟩ rfl rfl rfl rfl rfl (by kernel_rfl) (by kernel_rfl) (by kernel_rfl)
    (of_decide_eq_true (by kernel_rfl)) (by unfold Func.isWrapper; first | (rw [if_pos (by decide +kernel)]; kernel_rfl) | (rw [if_neg (by decide +kernel)]; exact ⟨rfl, rfl⟩))
    (fun os started H enc _ => bitsPuts_lifted os started H enc)
#print axioms bitsPuts_holds
end Go.Proofs.Ytldemgejcehhlaa

