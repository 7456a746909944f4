/- A movie's first letter says whether it is packed; four bytes how long it is: the law MovieHeads holds. -/
import Derived.Test.YtbaajplajjfgcaaGreatAiL
import Derived.Test.YtbaajplajjfgcaaGreatP13
import Derived.Test.YtbaajplajjfgcaaGreatRows
import Derived.KernelRfl
set_option linter.unusedVariables false
set_option maxRecDepth 100000
namespace Go.Proofs.YtbaajplajjfgcaaGreat
open Go.AI

theorem movieHeads_count : NoCount Tryz.checked.prog := noCount_of (by kernel_rfl)
theorem movieHeads_lifted (os : Os) (started : os.Started) (H : Type) (enc : TypeId × Value → H) :
    ReturnsInHanded {} Tryz.checked os 3 .any (Rows.movieHeadsSpec.pre6 enc Tryz.checked.prog Tryz.f3 [] false) (Rows.movieHeadsSpec.post enc Tryz.checked.prog Tryz.f3 false true false false) := by
  refine law_lifted (C := Tryz.checked) (S := [60]) (A := annM) (L := [.bool, .int .i64, .int .i64, .int .i64, .int .i64, .int .i64, .int .i64, .int .i64, .sl 60]) (tb := 4) (c := (Tryz.f3.body.getD .skip)) started (by kernel_rfl) (by kernel_rfl) (by kernel_rfl) (by kernel_rfl) (by kernel_rfl) movieHeads_count (primM_ok) (by kernel_rfl) (by kernel_rfl) (by kernel_rfl) (by kernel_rfl) (by kernel_rfl) (by kernel_rfl) (by kernel_rfl) (by kernel_rfl)
    (by kernel_rfl) (by kernel_rfl) rfl ?_ ?_ ?_
  · intro ds hd
    match ds, hd with
    | [d1], _ => rfl
  · exact ChangeSpec.witness6 (enc := enc) (C := Tryz.checked) false ⟨#[], #[.agg #[.bool false, .int .i64 0, .int .i64 0, .int .i64 0, .int .i64 0, .int .i64 0, .int .i64 0, .int .i64 0, .slice none 0 0]], []⟩ 8 (by kernel_rfl) (by kernel_rfl) (by kernel_rfl) (by kernel_rfl)
  · intro ps h
    obtain ⟨pk, q, rfl, h1⟩ := bool_cons h
    clear h
    have h := h1
    clear h1
    obtain ⟨v, q, rfl, _, h⟩ := int_cons h
    obtain ⟨r, q, rfl, _, h⟩ := int_cons h
    obtain ⟨f, q, rfl, _, h⟩ := int_cons h
    obtain ⟨s1, q, rfl, _, h⟩ := int_cons h
    obtain ⟨s2, q, rfl, _, h⟩ := int_cons h
    obtain ⟨s3, q, rfl, _, h⟩ := int_cons h
    obtain ⟨s4, q, rfl, _, h⟩ := int_cons h
    obtain ⟨p, q, rfl, hp, h2⟩ := h.cons
    obtain rfl := h2.nil
    obtain ⟨es, rfl, hl, _, ho⟩ := rows_any leafTag2 hp
    exact ans_m (MovieHeads_c ⟨pk, v, r, f, (s1, s2, s3, s4)⟩ hl ho)
theorem movieHeads_holds : Rows.MovieHeadsSaid :=
  OpenClaim.holds_of_wide 3 Tryz.f3 rfl rfl rfl rfl rfl rfl rfl ⟨rfl, rfl, rfl, rfl, rfl⟩ rfl rfl rfl rfl rfl (by kernel_rfl) (by kernel_rfl) (by kernel_rfl)
    (of_decide_eq_true (by kernel_rfl)) (by unfold Func.isWrapper; first | (rw [if_pos (by decide +kernel)]; kernel_rfl) | (rw [if_neg (by decide +kernel)]; exact ⟨rfl, rfl⟩))
    (fun os started H enc _ => movieHeads_lifted os started H enc)
#print axioms movieHeads_holds
end Go.Proofs.YtbaajplajjfgcaaGreat
