/- Whatever stands at any reader is taken for a morph as the document says, or refused, for every input: the law MorphTakes holds. -/
import Derived.Test.YtkclfiliefadlaaGreatAiL
import Derived.Test.YtkclfiliefadlaaGreatP08
import Derived.Test.YtkclfiliefadlaaGreatP10
import Derived.Test.YtkclfiliefadlaaGreatRows
import Derived.KernelRfl
set_option linter.unusedVariables false
set_option maxRecDepth 100000
namespace Go.Proofs.YtkclfiliefadlaaGreat
open Go.AI

theorem morphTakes_count : NoCount Tryz.checked.prog := noCount_of (by kernel_rfl)
theorem morphTakes_lifted (os : Os) (started : os.Started) (H : Type) (enc : TypeId × Value → H) :
    ReturnsInHanded {} Tryz.checked os 3 .any (Rows.morphTakesSpec.pre6 enc Tryz.checked.prog Tryz.f3 [] false) (Rows.morphTakesSpec.post enc Tryz.checked.prog Tryz.f3 false true false false) := by
  refine law_lifted (C := Tryz.checked) (A := ann) (L := [.str, .int .i64]) (tb := 4) (c := (Tryz.f3.body.getD .skip)) started (by kernel_rfl) (by kernel_rfl) (by kernel_rfl) (by kernel_rfl) morphTakes_count (by kernel_rfl) (by kernel_rfl) (by kernel_rfl) (by kernel_rfl) (by kernel_rfl) (by kernel_rfl) (by kernel_rfl) (by kernel_rfl)
    (by kernel_rfl) (by kernel_rfl) rfl ?_ ?_ ?_
  · intro ds hd
    match ds, hd with
    | [d1], _ => rfl
  · exact ChangeSpec.witness6 (enc := enc) (C := Tryz.checked) false ⟨#[], #[.agg #[.string ByteArray.empty, .int .i64 0]], []⟩ 8 (by kernel_rfl) (by kernel_rfl) (by kernel_rfl) (by kernel_rfl)
  · intro ps h
    obtain ⟨s, b, rfl, hs, h⟩ := str_cons h
    obtain ⟨a, c, rfl, ha, h⟩ := int_cons h
    obtain rfl := h.nil
    exact ans_c (MorphTakes_c s a)
theorem morphTakes_holds : Rows.MorphTakesSaid :=
  OpenClaim.holds_of_wide 3 Tryz.f3 rfl rfl rfl rfl rfl rfl rfl ⟨rfl, rfl, rfl, rfl, rfl⟩ rfl rfl rfl rfl rfl (by kernel_rfl) (by kernel_rfl) (by kernel_rfl)
    (of_decide_eq_true (by kernel_rfl)) (by unfold Func.isWrapper; first | (rw [if_pos (by decide +kernel)]; kernel_rfl) | (rw [if_neg (by decide +kernel)]; exact ⟨rfl, rfl⟩))
    (fun os started H enc _ => morphTakes_lifted os started H enc)
#print axioms morphTakes_holds
end Go.Proofs.YtkclfiliefadlaaGreat
