/- How many bytes a tag, and a list, have, for every input: the law TagSizes holds. -/
import Derived.Test.YtebldidbdhjgjaaAiL
import Derived.Test.YtebldidbdhjgjaaP12
import Derived.Test.YtebldidbdhjgjaaRows
import Derived.KernelRfl
set_option linter.unusedVariables false
set_option maxRecDepth 100000
namespace Go.Proofs.Ytebldidbdhjgjaa
open Go.AI

theorem tagSizes_count : NoCount Try.checked.prog := noCount_of (by kernel_rfl)
theorem tagSizes_lifted (os : Os) (started : os.Started) (H : Type) (enc : TypeId × Value → H) :
    ReturnsInHanded {} Try.checked os 6 .any (Rows.tagSizesSpec.pre6 enc Try.checked.prog Try.f6 [] false) (Rows.tagSizesSpec.post enc Try.checked.prog Try.f6 false true false false) := by
  refine law_lifted (C := Try.checked) (A := annP) (L := [.sl 23]) (tb := 4) (c := (Try.f6.body.getD .skip)) started (by kernel_rfl) (by kernel_rfl) (by kernel_rfl) (by kernel_rfl) tagSizes_count (prim_ok) (by kernel_rfl) (by kernel_rfl) (by kernel_rfl) (by kernel_rfl) (by kernel_rfl) (by kernel_rfl) (by kernel_rfl) (by kernel_rfl)
    (by kernel_rfl) (by kernel_rfl) rfl ?_ ?_ ?_
  · intro ds hd
    match ds, hd with
    | [d1], _ => rfl
  · exact ChangeSpec.witness6 (enc := enc) (C := Try.checked) false ⟨#[], #[.slice none 0 0], []⟩ 8 (by kernel_rfl) (by kernel_rfl) (by kernel_rfl) (by kernel_rfl)
  · intro ps h
    obtain ⟨l, q, rfl, hl, hw, h⟩ := sl_cons12 (e := tgP) (wf := fun t => t.2.length ≤ maxLen) (t := 23) (by kernel_rfl) tg_of h
    obtain rfl := h.nil
    exact ans_p (TagSizes_c hl)
theorem tagSizes_holds : Rows.TagSizesSaid :=
  OpenClaim.holds_of_wide 6 Try.f6 rfl rfl rfl rfl rfl rfl rfl ⟨rfl, rfl, rfl, rfl, rfl⟩ rfl rfl rfl rfl rfl (by kernel_rfl) (by kernel_rfl) (by kernel_rfl)
    (of_decide_eq_true (by kernel_rfl)) (by unfold Func.isWrapper; first | (rw [if_pos (by decide +kernel)]; kernel_rfl) | (rw [if_neg (by decide +kernel)]; exact ⟨rfl, rfl⟩))
    (fun os started H enc _ => tagSizes_lifted os started H enc)
#print axioms tagSizes_holds
end Go.Proofs.Ytebldidbdhjgjaa
