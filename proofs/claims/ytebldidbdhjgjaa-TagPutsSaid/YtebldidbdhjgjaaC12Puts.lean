/- Any tag is written as the document says, or refused, and taken back, for every input: the law TagPuts holds. -/
import Derived.Test.YtebldidbdhjgjaaAiL
import Derived.Test.YtebldidbdhjgjaaP12
import Derived.Test.YtebldidbdhjgjaaRows
import Derived.KernelRfl
set_option linter.unusedVariables false
set_option maxRecDepth 100000
namespace Go.Proofs.Ytebldidbdhjgjaa
open Go.AI

theorem tagPuts_count : NoCount Try.checked.prog := noCount_of (by kernel_rfl)
theorem tagPuts_lifted (os : Os) (started : os.Started) (H : Type) (enc : TypeId × Value → H) :
    ReturnsInHanded {} Try.checked os 3 .any (Rows.tagPutsSpec.pre6 enc Try.checked.prog Try.f3 [] false) (Rows.tagPutsSpec.post enc Try.checked.prog Try.f3 false true false false) := by
  refine law_lifted (C := Try.checked) (A := annP) (L := [.int .i64, .str, .str]) (tb := 4) (c := (Try.f3.body.getD .skip)) started (by kernel_rfl) (by kernel_rfl) (by kernel_rfl) (by kernel_rfl) tagPuts_count (prim_ok) (by kernel_rfl) (by kernel_rfl) (by kernel_rfl) (by kernel_rfl) (by kernel_rfl) (by kernel_rfl) (by kernel_rfl) (by kernel_rfl)
    (by kernel_rfl) (by kernel_rfl) rfl ?_ ?_ ?_
  · intro ds hd
    match ds, hd with
    | [d1, d2], _ => rfl
  · exact ChangeSpec.witness6 (enc := enc) (C := Try.checked) false ⟨#[], #[.agg #[.int .i64 0, .string .empty], .string .empty], []⟩ 8 (by kernel_rfl) (by kernel_rfl) (by kernel_rfl) (by kernel_rfl)
  · intro ps h
    obtain ⟨c, q, rfl, hc, h⟩ := int_cons12 h
    obtain ⟨s, q, rfl, hs, h⟩ := str_cons12 h
    obtain ⟨m, q, rfl, hm, h⟩ := str_cons12 h
    obtain rfl := h.nil
    exact ans_p (TagPuts_c c s m)
theorem tagPuts_holds : Rows.TagPutsSaid :=
  OpenClaim.holds_of_wide 3 Try.f3 rfl rfl rfl rfl rfl rfl rfl ⟨rfl, rfl, rfl, rfl, rfl⟩ rfl rfl rfl rfl rfl (by kernel_rfl) (by kernel_rfl) (by kernel_rfl)
    (of_decide_eq_true (by kernel_rfl)) (by unfold Func.isWrapper; first | (rw [if_pos (by decide +kernel)]; kernel_rfl) | (rw [if_neg (by decide +kernel)]; exact ⟨rfl, rfl⟩))
    (fun os started H enc _ => tagPuts_lifted os started H enc)
#print axioms tagPuts_holds
end Go.Proofs.Ytebldidbdhjgjaa
