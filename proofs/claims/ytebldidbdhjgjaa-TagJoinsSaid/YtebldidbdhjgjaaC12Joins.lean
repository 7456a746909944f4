/- Any list of tags is written as the document says, or refused, and split again, for every input: the law TagJoins holds. -/
import Derived.Test.YtebldidbdhjgjaaAiL
import Derived.Test.YtebldidbdhjgjaaP12
import Derived.Test.YtebldidbdhjgjaaRows
import Derived.KernelRfl
set_option linter.unusedVariables false
set_option maxRecDepth 100000
namespace Go.Proofs.Ytebldidbdhjgjaa
open Go.AI

theorem tagJoins_count : NoCount Try.checked.prog := noCount_of (by kernel_rfl)
theorem tagJoins_lifted (os : Os) (started : os.Started) (H : Type) (enc : TypeId × Value → H) :
    ReturnsInHanded {} Try.checked os 4 .any (Rows.tagJoinsSpec.pre6 enc Try.checked.prog Try.f4 [] false) (Rows.tagJoinsSpec.post enc Try.checked.prog Try.f4 false true false false) := by
  refine law_lifted (C := Try.checked) (A := annP) (L := [.sl 23, .str]) (tb := 4) (c := (Try.f4.body.getD .skip)) started (by kernel_rfl) (by kernel_rfl) (by kernel_rfl) (by kernel_rfl) tagJoins_count (prim_ok) (by kernel_rfl) (by kernel_rfl) (by kernel_rfl) (by kernel_rfl) (by kernel_rfl) (by kernel_rfl) (by kernel_rfl) (by kernel_rfl)
    (by kernel_rfl) (by kernel_rfl) rfl ?_ ?_ ?_
  · intro ds hd
    match ds, hd with
    | [d1, d2], _ => rfl
  · exact ChangeSpec.witness6 (enc := enc) (C := Try.checked) false ⟨#[], #[.slice none 0 0, .string .empty], []⟩ 8 (by kernel_rfl) (by kernel_rfl) (by kernel_rfl) (by kernel_rfl)
  · intro ps h
    obtain ⟨l, q, rfl, hl, hw, h⟩ := sl_cons12 (e := tgP) (wf := fun t => t.2.length ≤ maxLen) (t := 23) (by kernel_rfl) tg_of h
    obtain ⟨m, q, rfl, hm, h⟩ := str_cons12 h
    obtain rfl := h.nil
    exact ans_p (TagJoins_c hl m)
theorem tagJoins_holds : Rows.TagJoinsSaid :=
  OpenClaim.holds_of_wide 4 Try.f4 rfl rfl rfl rfl rfl rfl rfl ⟨rfl, rfl, rfl, rfl, rfl⟩ rfl rfl rfl rfl rfl (by kernel_rfl) (by kernel_rfl) (by kernel_rfl)
    (of_decide_eq_true (by kernel_rfl)) (by unfold Func.isWrapper; first | (rw [if_pos (by decide +kernel)]; kernel_rfl) | (rw [if_neg (by decide +kernel)]; exact ⟨rfl, rfl⟩))
    (fun os started H enc _ => tagJoins_lifted os started H enc)
#print axioms tagJoins_holds
end Go.Proofs.Ytebldidbdhjgjaa
