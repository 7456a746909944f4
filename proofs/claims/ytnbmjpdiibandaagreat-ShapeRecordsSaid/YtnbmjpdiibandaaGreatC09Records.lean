/- Any records are written as the document says, or refused, and taken back, for every input: the law ShapeRecords holds. -/
import Derived.Test.YtnbmjpdiibandaaGreatAiL
import Derived.Test.YtnbmjpdiibandaaGreatP08
import Derived.Test.YtnbmjpdiibandaaGreatP09
import Derived.Test.YtnbmjpdiibandaaGreatRows
import Derived.KernelRfl
set_option linter.unusedVariables false
set_option maxRecDepth 100000
namespace Go.Proofs.YtnbmjpdiibandaaGreat
open Go.AI

theorem shapeRecords_count : NoCount Tryz.checked.prog := noCount_of (by kernel_rfl)
theorem shapeRecords_lifted (os : Os) (started : os.Started) (H : Type) (enc : TypeId × Value → H) :
    ReturnsInHanded {} Tryz.checked os 4 .any (Rows.shapeRecordsSpec.pre6 enc Tryz.checked.prog Tryz.f4 [] false) (Rows.shapeRecordsSpec.post enc Tryz.checked.prog Tryz.f4 false true false false) := by
  refine law_lifted (C := Tryz.checked) (A := ann) (L := [.str, .int .i64, .int .i64, .sl 63, .int .i64]) (tb := 4) (c := (Tryz.f4.body.getD .skip)) started (by kernel_rfl) (by kernel_rfl) (by kernel_rfl) (by kernel_rfl) shapeRecords_count (by kernel_rfl) (by kernel_rfl) (by kernel_rfl) (by kernel_rfl) (by kernel_rfl) (by kernel_rfl) (by kernel_rfl) (by kernel_rfl)
    (by kernel_rfl) (by kernel_rfl) rfl ?_ ?_ ?_
  · intro ds hd
    match ds, hd with
    | [d1, d2, d3, d4, d5], _ => rfl
  · exact ChangeSpec.witness6 (enc := enc) (C := Tryz.checked) false ⟨#[], #[.string ByteArray.empty, .int .i64 0, .int .i64 0, .slice none 0 0, .int .i64 0], []⟩ 8 (by kernel_rfl) (by kernel_rfl) (by kernel_rfl) (by kernel_rfl)
  · intro ps h
    obtain ⟨S, q, rfl, hs, h⟩ := str_cons h
    obtain ⟨f, q, rfl, w1, h⟩ := int_cons h
    obtain ⟨s, q, rfl, w2, h⟩ := int_cons h
    obtain ⟨l, q, rfl, hl, hw, h⟩ := sl_cons (e := Rec.e) (wf := Rec.wf) (t := 63) (by kernel_rfl) (rec_of (f := 125) (t := 129) (k := 142) (by kernel_rfl) (by kernel_rfl) (by kernel_rfl)) h
    obtain ⟨k, q, rfl, w3, h⟩ := int_cons h
    obtain rfl := h.nil
    exact ans_c (ShapeRecords_c S f s k l hl (fun r hr => (hw r hr).1))
theorem shapeRecords_holds : Rows.ShapeRecordsSaid :=
  OpenClaim.holds_of_wide 4 Tryz.f4 rfl rfl rfl rfl rfl rfl rfl ⟨rfl, rfl, rfl, rfl, rfl⟩ rfl rfl rfl rfl rfl (by kernel_rfl) (by kernel_rfl) (by kernel_rfl)
    (of_decide_eq_true (by kernel_rfl)) (by unfold Func.isWrapper; first | (rw [if_pos (by decide +kernel)]; kernel_rfl) | (rw [if_neg (by decide +kernel)]; exact ⟨rfl, rfl⟩))
    (fun os started H enc _ => shapeRecords_lifted os started H enc)
#print axioms shapeRecords_holds
end Go.Proofs.YtnbmjpdiibandaaGreat
