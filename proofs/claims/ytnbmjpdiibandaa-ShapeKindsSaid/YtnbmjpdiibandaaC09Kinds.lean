/- Records right for a character are right for a button and a mask but for their styles, for every input: the law ShapeKinds holds. -/
import Derived.Test.YtnbmjpdiibandaaAiL
import Derived.Test.YtnbmjpdiibandaaP08
import Derived.Test.YtnbmjpdiibandaaP09
import Derived.Test.YtnbmjpdiibandaaRows
import Derived.KernelRfl
set_option linter.unusedVariables false
set_option maxRecDepth 100000
namespace Go.Proofs.Ytnbmjpdiibandaa
open Go.AI

theorem shapeKinds_count : NoCount Try.checked.prog := noCount_of (by kernel_rfl)
theorem shapeKinds_lifted (os : Os) (started : os.Started) (H : Type) (enc : TypeId × Value → H) :
    ReturnsInHanded {} Try.checked os 8 .any (Rows.shapeKindsSpec.pre6 enc Try.checked.prog Try.f8 [] false) (Rows.shapeKindsSpec.post enc Try.checked.prog Try.f8 false true false false) := by
  refine law_lifted (C := Try.checked) (A := ann) (L := [.int .i64, .int .i64, .sl 65]) (tb := 4) (c := (Try.f8.body.getD .skip)) started (by kernel_rfl) (by kernel_rfl) (by kernel_rfl) (by kernel_rfl) shapeKinds_count (by kernel_rfl) (by kernel_rfl) (by kernel_rfl) (by kernel_rfl) (by kernel_rfl) (by kernel_rfl) (by kernel_rfl) (by kernel_rfl)
    (by kernel_rfl) (by kernel_rfl) rfl ?_ ?_ ?_
  · intro ds hd
    match ds, hd with
    | [d1, d2, d3], _ => rfl
  · exact ChangeSpec.witness6 (enc := enc) (C := Try.checked) false ⟨#[], #[.int .i64 0, .int .i64 0, .slice none 0 0], []⟩ 8 (by kernel_rfl) (by kernel_rfl) (by kernel_rfl) (by kernel_rfl)
  · intro ps h
    obtain ⟨f, q, rfl, w1, h⟩ := int_cons h
    obtain ⟨s, q, rfl, w2, h⟩ := int_cons h
    obtain ⟨l, q, rfl, hl, hw, h⟩ := sl_cons (e := Rec.e) (wf := Rec.wf) (t := 65) (by kernel_rfl) (rec_of (f := 28) (t := 30) (k := 81) (by kernel_rfl) (by kernel_rfl) (by kernel_rfl)) h
    obtain rfl := h.nil
    exact ans_c (ShapeKinds_c f s l hl (fun r hr => (hw r hr).1))
theorem shapeKinds_holds : Rows.ShapeKindsSaid :=
  OpenClaim.holds_of_wide 8 Try.f8 rfl rfl rfl rfl rfl rfl rfl ⟨rfl, rfl, rfl, rfl, rfl⟩ rfl rfl rfl rfl rfl (by kernel_rfl) (by kernel_rfl) (by kernel_rfl)
    (of_decide_eq_true (by kernel_rfl)) (by unfold Func.isWrapper; first | (rw [if_pos (by decide +kernel)]; kernel_rfl) | (rw [if_neg (by decide +kernel)]; exact ⟨rfl, rfl⟩))
    (fun os started H enc _ => shapeKinds_lifted os started H enc)
#print axioms shapeKinds_holds
end Go.Proofs.Ytnbmjpdiibandaa
