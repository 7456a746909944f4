/- Any shape is written as the document says, or refused, and taken back, for every input: the law ShapePuts holds. -/
import Derived.Test.YtnbmjpdiibandaaGreatAiL
import Derived.Test.YtnbmjpdiibandaaGreatP08
import Derived.Test.YtnbmjpdiibandaaGreatP09
import Derived.Test.YtnbmjpdiibandaaGreatRows
import Derived.KernelRfl
set_option linter.unusedVariables false
set_option maxRecDepth 100000
namespace Go.Proofs.YtnbmjpdiibandaaGreat
open Go.AI

theorem shapePuts_count : NoCount Tryz.checked.prog := noCount_of (by kernel_rfl)
theorem shapePuts_lifted (os : Os) (started : os.Started) (H : Type) (enc : TypeId × Value → H) :
    ReturnsInHanded {} Tryz.checked os 6 .any (Rows.shapePutsSpec.pre6 enc Tryz.checked.prog Tryz.f6 [] false) (Rows.shapePutsSpec.post enc Tryz.checked.prog Tryz.f6 false true false false) := by
  refine law_lifted (C := Tryz.checked) (A := ann) (L := [.int .i64, .int .i64, .int .i64, .int .i64, .int .i64, .sl 125, .sl 129, .sl 63]) (tb := 4) (c := (Tryz.f6.body.getD .skip)) started (by kernel_rfl) (by kernel_rfl) (by kernel_rfl) (by kernel_rfl) shapePuts_count (by kernel_rfl) (by kernel_rfl) (by kernel_rfl) (by kernel_rfl) (by kernel_rfl) (by kernel_rfl) (by kernel_rfl) (by kernel_rfl)
    (by kernel_rfl) (by kernel_rfl) rfl ?_ ?_ ?_
  · intro ds hd
    match ds, hd with
    | [d1], _ => rfl
  · exact ChangeSpec.witness6 (enc := enc) (C := Tryz.checked) false ⟨#[], #[.agg #[.int .i64 0, .int .i64 0, .int .i64 0, .int .i64 0, .int .i64 0, .slice none 0 0, .slice none 0 0, .slice none 0 0]], []⟩ 8 (by kernel_rfl) (by kernel_rfl) (by kernel_rfl) (by kernel_rfl)
  · intro ps h
    obtain ⟨n, q, rfl, w1, h⟩ := int_cons h
    obtain ⟨c1, q, rfl, w2, h⟩ := int_cons h
    obtain ⟨c2, q, rfl, w3, h⟩ := int_cons h
    obtain ⟨c3, q, rfl, w4, h⟩ := int_cons h
    obtain ⟨c4, q, rfl, w5, h⟩ := int_cons h
    obtain ⟨l, q, rfl, hl, hw, h⟩ := sl_cons (e := Fill.e) (wf := Fill.wf) (t := 125) (by kernel_rfl) (fill_of (t := 142) (by kernel_rfl)) h
    obtain ⟨m, q, rfl, hm, hv, h⟩ := sl_cons (e := Strk.e) (wf := Strk.wf) (t := 129) (by kernel_rfl) strk_of h
    obtain ⟨k, q, rfl, hk, hx, h⟩ := sl_cons (e := Rec.e) (wf := Rec.wf) (t := 63) (by kernel_rfl) (rec_of (f := 125) (t := 129) (k := 142) (by kernel_rfl) (by kernel_rfl) (by kernel_rfl)) h
    obtain rfl := h.nil
    exact ans_c (ShapePuts_c (n, (c1, c2, c3, c4), l, m, k) hl hk (fun r hr => (hx r hr).1))
theorem shapePuts_holds : Rows.ShapePutsSaid :=
  OpenClaim.holds_of_wide 6 Tryz.f6 rfl rfl rfl rfl rfl rfl rfl ⟨rfl, rfl, rfl, rfl, rfl⟩ rfl rfl rfl rfl rfl (by kernel_rfl) (by kernel_rfl) (by kernel_rfl)
    (of_decide_eq_true (by kernel_rfl)) (by unfold Func.isWrapper; first | (rw [if_pos (by decide +kernel)]; kernel_rfl) | (rw [if_neg (by decide +kernel)]; exact ⟨rfl, rfl⟩))
    (fun os started H enc _ => shapePuts_lifted os started H enc)
#print axioms shapePuts_holds
end Go.Proofs.YtnbmjpdiibandaaGreat
