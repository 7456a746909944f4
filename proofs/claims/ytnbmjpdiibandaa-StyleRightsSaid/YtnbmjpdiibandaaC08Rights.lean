/- Whether any fill, and any line, is right, and whether two fills are the same, is told as the document says, for every input: the law StyleRights holds. -/
import Derived.Test.YtnbmjpdiibandaaAiL
import Derived.Test.YtnbmjpdiibandaaP08D
import Derived.Test.YtnbmjpdiibandaaP08Rights
import Derived.Test.YtnbmjpdiibandaaRows
import Derived.KernelRfl
set_option linter.unusedVariables false
set_option maxRecDepth 100000
namespace Go.Proofs.Ytnbmjpdiibandaa
open Go.AI

theorem styleRights_count : NoCount Try.checked.prog := noCount_of (by kernel_rfl)
theorem styleRights_lifted (os : Os) (started : os.Started) (H : Type) (enc : TypeId × Value → H) :
    ReturnsInHanded {} Try.checked os 3 .any (Rows.styleRightsSpec.pre6 enc Try.checked.prog Try.f3 [] false) (Rows.styleRightsSpec.post enc Try.checked.prog Try.f3 false true false false) := by
  refine law_lifted (C := Try.checked) (A := ann) (L := LFill 81 ++ (LFill 81 ++ (.int .i64 :: L4))) (tb := 4) (c := (Try.f3.body.getD .skip)) started (by kernel_rfl) (by kernel_rfl) (by kernel_rfl) (by kernel_rfl) styleRights_count (by kernel_rfl) (by kernel_rfl) (by kernel_rfl) (by kernel_rfl) (by kernel_rfl) (by kernel_rfl) (by kernel_rfl) (by kernel_rfl)
    (by kernel_rfl) (by kernel_rfl) rfl ?_ ?_ ?_
  · intro ds hd
    match ds, hd with
    | [d1, d2, d3], _ => rfl
  · exact ChangeSpec.witness6 (enc := enc) (C := Try.checked) false ⟨#[], #[.agg #[.int .i64 0, .int .i64 0, .int .i64 0, .int .i64 0, .int .i64 0, .int .i64 0, .int .i64 0, .int .i64 0, .int .i64 0, .int .i64 0, .int .i64 0, .int .i64 0, .slice none 0 0, .int .i64 0], .agg #[.int .i64 0, .int .i64 0, .int .i64 0, .int .i64 0, .int .i64 0, .int .i64 0, .int .i64 0, .int .i64 0, .int .i64 0, .int .i64 0, .int .i64 0, .int .i64 0, .slice none 0 0, .int .i64 0], .agg #[.int .i64 0, .int .i64 0, .int .i64 0, .int .i64 0, .int .i64 0]], []⟩ 8 (by kernel_rfl) (by kernel_rfl) (by kernel_rfl) (by kernel_rfl)
  · intro ps h
    obtain ⟨a, b, rfl, h1, h2⟩ := PWL.split (ts := LFill 81) (us := LFill 81 ++ (.int .i64 :: L4)) h
    obtain ⟨b, c, rfl, h3, h4⟩ := PWL.split (ts := LFill 81) (us := .int .i64 :: L4) h2
    obtain ⟨f, rfl, hf⟩ := fill_of (t := 81) (by kernel_rfl) _ h1
    obtain ⟨g, rfl, hg⟩ := fill_of (t := 81) (by kernel_rfl) _ h3
    obtain ⟨s, rfl, hs⟩ := strk_of _ h4
    exact ans_c (StyleRights_c f g s)
theorem styleRights_holds : Rows.StyleRightsSaid :=
  OpenClaim.holds_of_wide 3 Try.f3 rfl rfl rfl rfl rfl rfl rfl ⟨rfl, rfl, rfl, rfl, rfl⟩ rfl rfl rfl rfl rfl (by kernel_rfl) (by kernel_rfl) (by kernel_rfl)
    (of_decide_eq_true (by kernel_rfl)) (by unfold Func.isWrapper; first | (rw [if_pos (by decide +kernel)]; kernel_rfl) | (rw [if_neg (by decide +kernel)]; exact ⟨rfl, rfl⟩))
    (fun os started H enc _ => styleRights_lifted os started H enc)
#print axioms styleRights_holds
end Go.Proofs.Ytnbmjpdiibandaa

