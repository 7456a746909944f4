/- So many plain fills and lines have five and six bytes each, and two for how many there are, for every input: the law StyleSizes holds. -/
import Derived.Test.YtnbmjpdiibandaaAiL
import Derived.Test.YtnbmjpdiibandaaP08D
import Derived.Test.YtnbmjpdiibandaaP08Sizes
import Derived.Test.YtnbmjpdiibandaaRows
import Derived.KernelRfl
set_option linter.unusedVariables false
set_option maxRecDepth 100000
namespace Go.Proofs.Ytnbmjpdiibandaa
open Go.AI

theorem styleSizes_count : NoCount Try.checked.prog := noCount_of (by kernel_rfl)
theorem styleSizes_lifted (os : Os) (started : os.Started) (H : Type) (enc : TypeId × Value → H) :
    ReturnsInHanded {} Try.checked os 7 .any (Rows.styleSizesSpec.pre6 enc Try.checked.prog Try.f7 [] false) (Rows.styleSizesSpec.post enc Try.checked.prog Try.f7 false true false false) := by
  refine law_lifted (C := Try.checked) (A := ann) (L := [.int .u8, .int .u8, .int .i64, .int .i64, .int .i64, .int .i64, .int .u16]) (tb := 4) (c := (Try.f7.body.getD .skip)) started (by kernel_rfl) (by kernel_rfl) (by kernel_rfl) (by kernel_rfl) styleSizes_count (by kernel_rfl) (by kernel_rfl) (by kernel_rfl) (by kernel_rfl) (by kernel_rfl) (by kernel_rfl) (by kernel_rfl) (by kernel_rfl)
    (by kernel_rfl) (by kernel_rfl) rfl ?_ ?_ ?_
  · intro ds hd
    match ds, hd with
    | [d1, d2, d3, d4], _ => rfl
  · exact ChangeSpec.witness6 (enc := enc) (C := Try.checked) false ⟨#[], #[.int .u8 0, .int .u8 0, .agg #[.int .i64 0, .int .i64 0, .int .i64 0, .int .i64 0], .int .u16 0], []⟩ 8 (by kernel_rfl) (by kernel_rfl) (by kernel_rfl) (by kernel_rfl)
  · intro ps h
    obtain ⟨p1, q1, rfl, h1, r1⟩ := h.cons
    obtain ⟨p2, q2, rfl, h2, r2⟩ := r1.cons
    obtain ⟨a, b, rfl, h3, r3⟩ := PWL.split (ts := L4) (us := [.int .u16]) r2
    obtain ⟨p4, q4, rfl, h4, r4⟩ := r3.cons
    obtain rfl := r4.nil
    obtain ⟨x1, rfl, w1⟩ := h1.int_of
    obtain ⟨x2, rfl, w2⟩ := h2.int_of
    obtain ⟨c, rfl, hc⟩ := i4_of h3
    obtain ⟨x4, rfl, w4⟩ := h4.int_of
    have m1 : IntKind.max .u8 = 255 := by decide
    have m2 : IntKind.min .u8 = 0 := by decide
    have m3 : IntKind.max .u16 = 65535 := by decide
    have m4 : IntKind.min .u16 = 0 := by decide
    rw [m1, m2] at w1 w2
    rw [m3, m4] at w4
    exact ans_c (StyleSizes_c x1 x2 w1.1 (by omega) w2.1 (by omega) c x4 w4.1 (by omega))
theorem styleSizes_holds : Rows.StyleSizesSaid :=
  OpenClaim.holds_of_wide 7 Try.f7 rfl rfl rfl rfl rfl rfl rfl ⟨rfl, rfl, rfl, rfl, rfl⟩ rfl rfl rfl rfl rfl (by kernel_rfl) (by kernel_rfl) (by kernel_rfl)
    (of_decide_eq_true (by kernel_rfl)) (by unfold Func.isWrapper; first | (rw [if_pos (by decide +kernel)]; kernel_rfl) | (rw [if_neg (by decide +kernel)]; exact ⟨rfl, rfl⟩))
    (fun os started H enc _ => styleSizes_lifted os started H enc)
#print axioms styleSizes_holds
end Go.Proofs.Ytnbmjpdiibandaa

