/- Whatever stands at any reader is taken for records as the document says, or refused, for every input: the law ShapeTakes holds. -/
import Derived.Test.YtnbmjpdiibandaaGreatAiL
import Derived.Test.YtnbmjpdiibandaaGreatP08
import Derived.Test.YtnbmjpdiibandaaGreatP09
import Derived.Test.YtnbmjpdiibandaaGreatRows
import Derived.KernelRfl
set_option linter.unusedVariables false
set_option maxRecDepth 100000
namespace Go.Proofs.YtnbmjpdiibandaaGreat
open Go.AI

theorem shapeTakes_count : NoCount Tryz.checked.prog := noCount_of (by kernel_rfl)
theorem shapeTakes_lifted (os : Os) (started : os.Started) (H : Type) (enc : TypeId × Value → H) :
    ReturnsInHanded {} Tryz.checked os 3 .any (Rows.shapeTakesSpec.pre6 enc Tryz.checked.prog Tryz.f3 [] false) (Rows.shapeTakesSpec.post enc Tryz.checked.prog Tryz.f3 false true false false) := by
  refine law_lifted (C := Tryz.checked) (A := ann) (L := [.str, .int .i64, .int .i64, .int .i64, .int .i64]) (tb := 4) (c := (Tryz.f3.body.getD .skip)) started (by kernel_rfl) (by kernel_rfl) (by kernel_rfl) (by kernel_rfl) shapeTakes_count (by kernel_rfl) (by kernel_rfl) (by kernel_rfl) (by kernel_rfl) (by kernel_rfl) (by kernel_rfl) (by kernel_rfl) (by kernel_rfl)
    (by kernel_rfl) (by kernel_rfl) rfl ?_ ?_ ?_
  · intro ds hd
    match ds, hd with
    | [d1, d2, d3, d4], _ => rfl
  · exact ChangeSpec.witness6 (enc := enc) (C := Tryz.checked) false ⟨#[], #[.agg #[.string ByteArray.empty, .int .i64 0], .int .i64 0, .int .i64 0, .int .i64 0], []⟩ 8 (by kernel_rfl) (by kernel_rfl) (by kernel_rfl) (by kernel_rfl)
  · intro ps h
    obtain ⟨s, b, rfl, hs, h1⟩ := str_cons h
    obtain ⟨a, c, rfl, ha, h2⟩ := int_cons h1
    obtain ⟨fs, d, rfl, hf, h3⟩ := int_cons h2
    obtain ⟨ss, e, rfl, hs2, h4⟩ := int_cons h3
    obtain ⟨kind, g, rfl, hk, h5⟩ := int_cons h4
    obtain rfl := h5.nil
    exact ans_c (ShapeTakes_c s a fs ss kind)
theorem shapeTakes_holds : Rows.ShapeTakesSaid :=
  OpenClaim.holds_of_wide 3 Tryz.f3 rfl rfl rfl rfl rfl rfl rfl ⟨rfl, rfl, rfl, rfl, rfl⟩ rfl rfl rfl rfl rfl (by kernel_rfl) (by kernel_rfl) (by kernel_rfl)
    (of_decide_eq_true (by kernel_rfl)) (by unfold Func.isWrapper; first | (rw [if_pos (by decide +kernel)]; kernel_rfl) | (rw [if_neg (by decide +kernel)]; exact ⟨rfl, rfl⟩))
    (fun os started H enc _ => shapeTakes_lifted os started H enc)
#print axioms shapeTakes_holds
end Go.Proofs.YtnbmjpdiibandaaGreat
