/- Any lists are written as the document says, or refused, and taken back, for every input: the law StylePuts holds. -/
import Derived.Test.YtnbmjpdiibandaaAiL
import Derived.Test.YtnbmjpdiibandaaP08D
import Derived.Test.YtnbmjpdiibandaaP08Puts
import Derived.Test.YtnbmjpdiibandaaRows
import Derived.KernelRfl
set_option linter.unusedVariables false
set_option maxRecDepth 100000
namespace Go.Proofs.Ytnbmjpdiibandaa
open Go.AI

theorem stylePuts_count : NoCount Try.checked.prog := noCount_of (by kernel_rfl)
theorem stylePuts_lifted (os : Os) (started : os.Started) (H : Type) (enc : TypeId × Value → H) :
    ReturnsInHanded {} Try.checked os 4 .any (Rows.stylePutsSpec.pre6 enc Try.checked.prog Try.f4 [] false) (Rows.stylePutsSpec.post enc Try.checked.prog Try.f4 false true false false) := by
  refine law_lifted (C := Try.checked) (A := ann) (L := [.str, .sl 28, .sl 30]) (tb := 4) (c := (Try.f4.body.getD .skip)) started (by kernel_rfl) (by kernel_rfl) (by kernel_rfl) (by kernel_rfl) stylePuts_count (by kernel_rfl) (by kernel_rfl) (by kernel_rfl) (by kernel_rfl) (by kernel_rfl) (by kernel_rfl) (by kernel_rfl) (by kernel_rfl)
    (by kernel_rfl) (by kernel_rfl) rfl ?_ ?_ ?_
  · intro ds hd
    match ds, hd with
    | [d1, d2, d3], _ => rfl
  · exact ChangeSpec.witness6 (enc := enc) (C := Try.checked) false ⟨#[], #[.string ByteArray.empty, .slice none 0 0, .slice none 0 0], []⟩ 8 (by kernel_rfl) (by kernel_rfl) (by kernel_rfl) (by kernel_rfl)
  · intro ps h
    obtain ⟨s, b, rfl, hs, h1⟩ := str_cons h
    obtain ⟨l, c, rfl, hl, hw, h2⟩ := sl_cons (e := Fill.e) (t := 28) (by kernel_rfl) (fill_of (t := 81) (by kernel_rfl)) h1
    obtain ⟨m, d, rfl, hm, hv, h3⟩ := sl_cons (e := Strk.e) (t := 30) (by kernel_rfl) strk_of h2
    obtain rfl := h3.nil
    exact ans_c (StylePuts_c s l m hl)
theorem stylePuts_holds : Rows.StylePutsSaid :=
  OpenClaim.holds_of_wide 4 Try.f4 rfl rfl rfl rfl rfl rfl rfl ⟨rfl, rfl, rfl, rfl, rfl⟩ rfl rfl rfl rfl rfl (by kernel_rfl) (by kernel_rfl) (by kernel_rfl)
    (of_decide_eq_true (by kernel_rfl)) (by unfold Func.isWrapper; first | (rw [if_pos (by decide +kernel)]; kernel_rfl) | (rw [if_neg (by decide +kernel)]; exact ⟨rfl, rfl⟩))
    (fun os started H enc _ => stylePuts_lifted os started H enc)
#print axioms stylePuts_holds
end Go.Proofs.Ytnbmjpdiibandaa

