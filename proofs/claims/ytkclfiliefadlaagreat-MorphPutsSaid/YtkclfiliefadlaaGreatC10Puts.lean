/- Any morph is written as the document says, or refused, and taken back, for every input: the law MorphPuts holds. -/
import Derived.Test.YtkclfiliefadlaaGreatAiL
import Derived.Test.YtkclfiliefadlaaGreatP08
import Derived.Test.YtkclfiliefadlaaGreatP09
import Derived.Test.YtkclfiliefadlaaGreatP10
import Derived.Test.YtkclfiliefadlaaGreatRows
import Derived.KernelRfl
set_option linter.unusedVariables false
set_option maxRecDepth 100000
namespace Go.Proofs.YtkclfiliefadlaaGreat
open Go.AI

theorem morphPuts_count : NoCount Tryz.checked.prog := noCount_of (by kernel_rfl)
theorem morphPuts_lifted (os : Os) (started : os.Started) (H : Type) (enc : TypeId × Value → H) :
    ReturnsInHanded {} Tryz.checked os 4 .any (Rows.morphPutsSpec.pre6 enc Tryz.checked.prog Tryz.f4 [] false) (Rows.morphPutsSpec.post enc Tryz.checked.prog Tryz.f4 false true false false) := by
  refine law_lifted (C := Tryz.checked) (A := ann) (L := [.int .i64, .int .i64, .int .i64, .int .i64, .int .i64, .int .i64, .int .i64, .int .i64, .int .i64, .sl 70, .sl 70, .sl 74, .sl 74, .sl 52, .sl 52]) (tb := 4) (c := (Tryz.f4.body.getD .skip)) started (by kernel_rfl) (by kernel_rfl) (by kernel_rfl) (by kernel_rfl) morphPuts_count (by kernel_rfl) (by kernel_rfl) (by kernel_rfl) (by kernel_rfl) (by kernel_rfl) (by kernel_rfl) (by kernel_rfl) (by kernel_rfl)
    (by kernel_rfl) (by kernel_rfl) rfl ?_ ?_ ?_
  · intro ds hd
    match ds, hd with
    | [d1], _ => rfl
  · exact ChangeSpec.witness6 (enc := enc) (C := Tryz.checked) false ⟨#[], #[.agg #[.int .i64 0, .int .i64 0, .int .i64 0, .int .i64 0, .int .i64 0, .int .i64 0, .int .i64 0, .int .i64 0, .int .i64 0, .slice none 0 0, .slice none 0 0, .slice none 0 0, .slice none 0 0, .slice none 0 0, .slice none 0 0]], []⟩ 8 (by kernel_rfl) (by kernel_rfl) (by kernel_rfl) (by kernel_rfl)
  · intro ps h
    obtain ⟨n, q, rfl, wn, h⟩ := int_cons h
    obtain ⟨a1, q, rfl, wa1, h⟩ := int_cons h
    obtain ⟨a2, q, rfl, wa2, h⟩ := int_cons h
    obtain ⟨a3, q, rfl, wa3, h⟩ := int_cons h
    obtain ⟨a4, q, rfl, wa4, h⟩ := int_cons h
    obtain ⟨b1, q, rfl, wb1, h⟩ := int_cons h
    obtain ⟨b2, q, rfl, wb2, h⟩ := int_cons h
    obtain ⟨b3, q, rfl, wb3, h⟩ := int_cons h
    obtain ⟨b4, q, rfl, wb4, h⟩ := int_cons h
    obtain ⟨f, q, rfl, hlf, hwf, h⟩ := sl_cons (e := Fill.e) (wf := Fill.wf) (t := 70) (by kernel_rfl) (fill_of (t := 107) (by kernel_rfl)) h
    obtain ⟨g, q, rfl, hlg, hwg, h⟩ := sl_cons (e := Fill.e) (wf := Fill.wf) (t := 70) (by kernel_rfl) (fill_of (t := 107) (by kernel_rfl)) h
    obtain ⟨s, q, rfl, hls, hws, h⟩ := sl_cons (e := Strk.e) (wf := Strk.wf) (t := 74) (by kernel_rfl) strk_of h
    obtain ⟨u, q, rfl, hlu, hwu, h⟩ := sl_cons (e := Strk.e) (wf := Strk.wf) (t := 74) (by kernel_rfl) strk_of h
    obtain ⟨r, q, rfl, hlr, hwr, h⟩ := sl_cons (e := Rec.e) (wf := Rec.wf) (t := 52) (by kernel_rfl) (rec_of (f := 70) (t := 74) (k := 107) (by kernel_rfl) (by kernel_rfl) (by kernel_rfl)) h
    obtain ⟨v, q, rfl, hlv, hwv, h⟩ := sl_cons (e := Rec.e) (wf := Rec.wf) (t := 52) (by kernel_rfl) (rec_of (f := 70) (t := 74) (k := 107) (by kernel_rfl) (by kernel_rfl) (by kernel_rfl)) h
    obtain rfl := h.nil
    exact ans_c (MorphPuts_c ⟨n, (a1, a2, a3, a4), (b1, b2, b3, b4), f, g, s, u, r, v⟩ ⟨hlf, hlg, hlr, hlv, fun x hx => (hwr x hx).1, fun x hx => (hwv x hx).1⟩)
theorem morphPuts_holds : Rows.MorphPutsSaid :=
  OpenClaim.holds_of_wide 4 Tryz.f4 rfl rfl rfl rfl rfl rfl rfl ⟨rfl, rfl, rfl, rfl, rfl⟩ rfl rfl rfl rfl rfl (by kernel_rfl) (by kernel_rfl) (by kernel_rfl)
    (of_decide_eq_true (by kernel_rfl)) (by unfold Func.isWrapper; first | (rw [if_pos (by decide +kernel)]; kernel_rfl) | (rw [if_neg (by decide +kernel)]; exact ⟨rfl, rfl⟩))
    (fun os started H enc _ => morphPuts_lifted os started H enc)
#print axioms morphPuts_holds
end Go.Proofs.YtkclfiliefadlaaGreat
