/- What is split and joined is split to the same, for every input: the law TagAgain holds. -/
import Derived.Test.YtebldidbdhjgjaaAiL
import Derived.Test.YtebldidbdhjgjaaP12
import Derived.Test.YtebldidbdhjgjaaRows
import Derived.KernelRfl
set_option linter.unusedVariables false
set_option maxRecDepth 100000
namespace Go.Proofs.Ytebldidbdhjgjaa
open Go.AI

theorem tagAgain_count : NoCount Try.checked.prog := noCount_of (by kernel_rfl)
theorem tagAgain_lifted (os : Os) (started : os.Started) (H : Type) (enc : TypeId × Value → H) :
    ReturnsInHanded {} Try.checked os 5 .any (Rows.tagAgainSpec.pre6 enc Try.checked.prog Try.f5 [] false) (Rows.tagAgainSpec.post enc Try.checked.prog Try.f5 false true false false) := by
  refine law_lifted (C := Try.checked) (A := annP) (L := [.str]) (tb := 4) (c := (Try.f5.body.getD .skip)) started (by kernel_rfl) (by kernel_rfl) (by kernel_rfl) (by kernel_rfl) tagAgain_count (prim_ok) (by kernel_rfl) (by kernel_rfl) (by kernel_rfl) (by kernel_rfl) (by kernel_rfl) (by kernel_rfl) (by kernel_rfl) (by kernel_rfl)
    (by kernel_rfl) (by kernel_rfl) rfl ?_ ?_ ?_
  · intro ds hd
    match ds, hd with
    | [d1], _ => rfl
  · exact ChangeSpec.witness6 (enc := enc) (C := Try.checked) false ⟨#[], #[.string .empty], []⟩ 8 (by kernel_rfl) (by kernel_rfl) (by kernel_rfl) (by kernel_rfl)
  · intro ps h
    obtain ⟨s, q, rfl, hs, h⟩ := str_cons12 h
    obtain rfl := h.nil
    exact ans_p (TagAgain_c s)
theorem tagAgain_holds : Rows.TagAgainSaid :=
  OpenClaim.holds_of_wide 5 Try.f5 rfl rfl rfl rfl rfl rfl rfl ⟨rfl, rfl, rfl, rfl, rfl⟩ rfl rfl rfl rfl rfl (by kernel_rfl) (by kernel_rfl) (by kernel_rfl)
    (of_decide_eq_true (by kernel_rfl)) (by unfold Func.isWrapper; first | (rw [if_pos (by decide +kernel)]; kernel_rfl) | (rw [if_neg (by decide +kernel)]; exact ⟨rfl, rfl⟩))
    (fun os started H enc _ => tagAgain_lifted os started H enc)
#print axioms tagAgain_holds
end Go.Proofs.Ytebldidbdhjgjaa
