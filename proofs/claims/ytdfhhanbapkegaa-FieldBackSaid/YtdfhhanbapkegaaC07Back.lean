/- What is written, one behind the other, is taken back, in its order, for every input: the law FieldBack holds. -/
import Derived.Test.YtdfhhanbapkegaaAiL
import Derived.Test.YtdfhhanbapkegaaP07Back
import Derived.Test.YtdfhhanbapkegaaRows
import Derived.KernelRfl
set_option linter.unusedVariables false
set_option maxRecDepth 100000
namespace Go.Proofs.Ytdfhhanbapkegaa
open Go.AI

theorem fieldBack_count : NoCount Try.checked.prog := noCount_of (by kernel_rfl)
theorem fieldBack_lifted (os : Os) (started : os.Started) (H : Type) (enc : TypeId × Value → H) :
    ReturnsInHanded {} Try.checked os 7 .any (Rows.fieldBackSpec.pre6 enc Try.checked.prog Try.f7 [] false) (Rows.fieldBackSpec.post enc Try.checked.prog Try.f7 false true false false) := by
  refine law_lifted (C := Try.checked) (A := ann) (L := [.int .i64, .int .i64, .int .i64, .int .i64, .int .i64, .int .i64, .int .i64, .int .i64, .int .i64, .int .i64, .int .i64, .int .i64, .int .i64, .int .i64, .int .i64, .int .i64, .int .i64, .int .i64, .int .i64, .int .i64, .int .i64, .int .i64]) (tb := 4) (c := (Try.f7.body.getD .skip)) started (by kernel_rfl) (by kernel_rfl) (by kernel_rfl) (by kernel_rfl) fieldBack_count (by kernel_rfl) (by kernel_rfl) (by kernel_rfl) (by kernel_rfl) (by kernel_rfl) (by kernel_rfl) (by kernel_rfl) (by kernel_rfl)
    (by kernel_rfl) (by kernel_rfl) rfl ?_ ?_ ?_
  · intro ds hd
    match ds, hd with
    | [d1, d2, d3, d4], _ => rfl
  · exact ChangeSpec.witness6 (enc := enc) (C := Try.checked) false ⟨#[], #[.agg #[.int .i64 0, .int .i64 0, .int .i64 0, .int .i64 0], .agg #[.int .i64 0, .int .i64 0, .int .i64 0, .int .i64 0, .int .i64 0, .int .i64 0], .agg #[.int .i64 0, .int .i64 0, .int .i64 0, .int .i64 0, .int .i64 0, .int .i64 0, .int .i64 0, .int .i64 0], .agg #[.int .i64 0, .int .i64 0, .int .i64 0, .int .i64 0]], []⟩ 8 (by kernel_rfl) (by kernel_rfl) (by kernel_rfl) (by kernel_rfl)
  · intro ps h
    obtain ⟨p1, q1, rfl, h1, r1⟩ := h.cons
    obtain ⟨p2, q2, rfl, h2, r2⟩ := r1.cons
    obtain ⟨p3, q3, rfl, h3, r3⟩ := r2.cons
    obtain ⟨p4, q4, rfl, h4, r4⟩ := r3.cons
    obtain ⟨p5, q5, rfl, h5, r5⟩ := r4.cons
    obtain ⟨p6, q6, rfl, h6, r6⟩ := r5.cons
    obtain ⟨p7, q7, rfl, h7, r7⟩ := r6.cons
    obtain ⟨p8, q8, rfl, h8, r8⟩ := r7.cons
    obtain ⟨p9, q9, rfl, h9, r9⟩ := r8.cons
    obtain ⟨p10, q10, rfl, h10, r10⟩ := r9.cons
    obtain ⟨p11, q11, rfl, h11, r11⟩ := r10.cons
    obtain ⟨p12, q12, rfl, h12, r12⟩ := r11.cons
    obtain ⟨p13, q13, rfl, h13, r13⟩ := r12.cons
    obtain ⟨p14, q14, rfl, h14, r14⟩ := r13.cons
    obtain ⟨p15, q15, rfl, h15, r15⟩ := r14.cons
    obtain ⟨p16, q16, rfl, h16, r16⟩ := r15.cons
    obtain ⟨p17, q17, rfl, h17, r17⟩ := r16.cons
    obtain ⟨p18, q18, rfl, h18, r18⟩ := r17.cons
    obtain ⟨p19, q19, rfl, h19, r19⟩ := r18.cons
    obtain ⟨p20, q20, rfl, h20, r20⟩ := r19.cons
    obtain ⟨p21, q21, rfl, h21, r21⟩ := r20.cons
    obtain ⟨p22, q22, rfl, h22, r22⟩ := r21.cons
    obtain rfl := r22.nil
    obtain ⟨x1, rfl, w1⟩ := h1.i64_of
    obtain ⟨x2, rfl, w2⟩ := h2.i64_of
    obtain ⟨x3, rfl, w3⟩ := h3.i64_of
    obtain ⟨x4, rfl, w4⟩ := h4.i64_of
    obtain ⟨x5, rfl, w5⟩ := h5.i64_of
    obtain ⟨x6, rfl, w6⟩ := h6.i64_of
    obtain ⟨x7, rfl, w7⟩ := h7.i64_of
    obtain ⟨x8, rfl, w8⟩ := h8.i64_of
    obtain ⟨x9, rfl, w9⟩ := h9.i64_of
    obtain ⟨x10, rfl, w10⟩ := h10.i64_of
    obtain ⟨x11, rfl, w11⟩ := h11.i64_of
    obtain ⟨x12, rfl, w12⟩ := h12.i64_of
    obtain ⟨x13, rfl, w13⟩ := h13.i64_of
    obtain ⟨x14, rfl, w14⟩ := h14.i64_of
    obtain ⟨x15, rfl, w15⟩ := h15.i64_of
    obtain ⟨x16, rfl, w16⟩ := h16.i64_of
    obtain ⟨x17, rfl, w17⟩ := h17.i64_of
    obtain ⟨x18, rfl, w18⟩ := h18.i64_of
    obtain ⟨x19, rfl, w19⟩ := h19.i64_of
    obtain ⟨x20, rfl, w20⟩ := h20.i64_of
    obtain ⟨x21, rfl, w21⟩ := h21.i64_of
    obtain ⟨x22, rfl, w22⟩ := h22.i64_of
    exact FieldBack_ans x1 x2 x3 x4 x5 x6 x7 x8 x9 x10 (x11, x12, x13, x14) (x15, x16, x17, x18) (x19, x20, x21, x22)
theorem fieldBack_holds : Rows.FieldBackSaid :=
  OpenClaim.holds_of_wide 7 Try.f7 rfl rfl rfl rfl rfl rfl rfl ⟨rfl, rfl, rfl, rfl, rfl⟩ rfl rfl rfl rfl rfl (by kernel_rfl) (by kernel_rfl) (by kernel_rfl)
    (of_decide_eq_true (by kernel_rfl)) (by unfold Func.isWrapper; first | (rw [if_pos (by decide +kernel)]; kernel_rfl) | (rw [if_neg (by decide +kernel)]; exact ⟨rfl, rfl⟩))
    (fun os started H enc _ => fieldBack_lifted os started H enc)
#print axioms fieldBack_holds
end Go.Proofs.Ytdfhhanbapkegaa

