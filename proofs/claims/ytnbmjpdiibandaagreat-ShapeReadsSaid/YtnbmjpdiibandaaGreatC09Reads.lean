/- Whatever stands at any reader is taken for a shape as the document says, or refused, for every input: the law ShapeReads holds. -/
import Derived.Test.YtnbmjpdiibandaaGreatAiL
import Derived.Test.YtnbmjpdiibandaaGreatP08
import Derived.Test.YtnbmjpdiibandaaGreatP09
import Derived.Test.YtnbmjpdiibandaaGreatRows
import Derived.KernelRfl
set_option linter.unusedVariables false
set_option maxRecDepth 100000
namespace Go.Proofs.YtnbmjpdiibandaaGreat
open Go.AI

theorem shapeReads_count : NoCount Tryz.checked.prog := noCount_of (by kernel_rfl)
theorem shapeReads_lifted (os : Os) (started : os.Started) (H : Type) (enc : TypeId × Value → H) :
    ReturnsInHanded {} Tryz.checked os 5 .any (Rows.shapeReadsSpec.pre6 enc Tryz.checked.prog Tryz.f5 [] false) (Rows.shapeReadsSpec.post enc Tryz.checked.prog Tryz.f5 false true false false) := by
  refine law_lifted (C := Tryz.checked) (A := ann) (L := [.str, .int .i64]) (tb := 4) (c := (Tryz.f5.body.getD .skip)) started (by kernel_rfl) (by kernel_rfl) (by kernel_rfl) (by kernel_rfl) shapeReads_count (by kernel_rfl) (by kernel_rfl) (by kernel_rfl) (by kernel_rfl) (by kernel_rfl) (by kernel_rfl) (by kernel_rfl) (by kernel_rfl)
    (by kernel_rfl) (by kernel_rfl) rfl ?_ ?_ ?_
  · intro ds hd
    match ds, hd with
    | [d1], _ => rfl
  · exact ChangeSpec.witness6 (enc := enc) (C := Tryz.checked) false ⟨#[], #[.agg #[.string ByteArray.empty, .int .i64 0]], []⟩ 8 (by kernel_rfl) (by kernel_rfl) (by kernel_rfl) (by kernel_rfl)
  · intro ps h
    obtain ⟨s, b, rfl, hs, h1⟩ := str_cons h
    obtain ⟨a, c, rfl, ha, h2⟩ := int_cons h1
    obtain rfl := h2.nil
    exact ans_c (ShapeReads_c s a)
theorem shapeReads_holds : Rows.ShapeReadsSaid :=
  OpenClaim.holds_of_wide 5 Tryz.f5 rfl rfl rfl rfl rfl rfl rfl ⟨rfl, rfl, rfl, rfl, rfl⟩ rfl rfl rfl rfl rfl (by kernel_rfl) (by kernel_rfl) (by kernel_rfl)
    (of_decide_eq_true (by kernel_rfl)) (by unfold Func.isWrapper; first | (rw [if_pos (by decide +kernel)]; kernel_rfl) | (rw [if_neg (by decide +kernel)]; exact ⟨rfl, rfl⟩))
    (fun os started H enc _ => shapeReads_lifted os started H enc)
#print axioms shapeReads_holds
end Go.Proofs.YtnbmjpdiibandaaGreat
