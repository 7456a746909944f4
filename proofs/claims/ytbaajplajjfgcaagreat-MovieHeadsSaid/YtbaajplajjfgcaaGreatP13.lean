/- Tags and movies by the program: whether they are right, and that there is an answer. -/
import Derived.Test.YtbaajplajjfgcaaGreatU13
import Derived.Test.YtbaajplajjfgcaaGreatP22
import Derived.Test.YtbaajplajjfgcaaGreatP10
import Derived.Test.YtbaajplajjfgcaaGreatP09
import Derived.Test.YtbaajplajjfgcaaGreatP08
import Derived.Test.YtbaajplajjfgcaaGreatU13M
import Derived.KernelRfl
import Derived.Test.YtbaajplajjfgcaaGreatU13E
import Derived.Test.YtbaajplajjfgcaaGreatU13L
set_option linter.unusedVariables false
set_option linter.unusedSimpArgs false
set_option maxRecDepth 100000
namespace Go.AI
open Go Go.Proofs

theorem idxIntM_loop {l : List Int} (hl : l.length ≤ 2 ^ 40) (a b : Int) : ∀ (rest pre : List Int), l = pre ++ rest → ∃ n : Int,
    rW f_slices_IndexFunc___int_int_ [t_int, t_int] at_movie_slices_IndexFunc___int_int__L0 (S_movie_slices_IndexFunc___int_int__L0 (l.map intE) l.length pre.length a b) = some ([.i n], [(t_int, [.i a]), (t_int, [.i b])]) ∧ decide (n ≥ 0) = !rest.all (inB2 a b)
  | [], pre, h => by
    refine ⟨-1, ?_, rfl⟩
    rw [w_movie_slices_IndexFunc___int_int__L0]; simp only [el_end h, Option.bind_some, Option.bind_none, andB, orB, orB2, List.getD_cons_zero, List.getD_cons_succ, toB_b, toI_i, toS_s, toL_l, cond_true, cond_false, List.length_map]
  | x :: rest, pre, h => by
    obtain ⟨h1, h2, h3, h4, h5⟩ := el_step intE h hl
    rw [w_movie_slices_IndexFunc___int_int__L0]
    simp only [h1, h2, h3, h4, intE, w_movie_within_1, List.all_cons, Option.bind_some, Option.bind_none, andB, orB, orB2, List.getD_cons_zero, List.getD_cons_succ, toB_b, toI_i, toS_s, toL_l, cond_true, cond_false, List.length_map]
    cases hx : (decide (x < a) || decide (x > b)) with
    | true =>
      refine ⟨_, rfl, ?_⟩
      have : inB2 a b x = false := by
        unfold inB2
        simp only [Bool.or_eq_true, decide_eq_true_eq] at hx
        simp; omega
      rw [this]; simp
    | false =>
      have : inB2 a b x = true := by
        unfold inB2
        simp only [Bool.or_eq_false_iff, decide_eq_false_iff_not] at hx
        simp; omega
      rw [this, cond_false, Bool.true_and]
      exact idxIntM_loop hl a b rest _ h5
theorem mwithin_c {l : List Int} (hl : l.length ≤ 2 ^ 40) (a b : Int) : cW f_movie_within [.i a, .i b, .l (l.map intE)] [] = some ([.b (l.all (inB2 a b))], []) := by
  obtain ⟨n, h1, h2⟩ := idxIntM_loop hl a b l [] rfl
  rw [w_movie_within]
  simp only [List.length_cons, List.length_nil]
  rw [w_movie_slices_ContainsFunc___int_int_, w_movie_slices_IndexFunc___int_int_]
  simp only [List.length_map]
  rw [show (0 : Int) = ((([] : List Int).length : Nat) : Int) from rfl, h1]
  simp only [Option.bind_some, Option.bind_none, andB, orB, orB2, List.getD_cons_zero, List.getD_cons_succ, toB_b, toI_i, toS_s, toL_l, cond_true, cond_false, List.length_map]
  rw [show decide (n ≥ ((([] : List Int).length : Nat) : Int)) = decide (n ≥ 0) from rfl, h2, Bool.not_not]
theorem mwithin1_c (a b x : Int) : cW f_movie_within [.i a, .i b, .l (List.set [[PV.i 0]] 0 [PV.i x])] [] = some ([.b (inB2 a b x)], []) := by
  have := mwithin_c (l := [x]) (by show (1 : Nat) ≤ _; decide) a b
  simpa [intE] using this
theorem mwithin2_c (a b x y : Int) : cW f_movie_within [.i a, .i b, .l (List.set (List.set [[PV.i 0], [PV.i 0]] 0 [PV.i x]) 1 [PV.i y])] [] = some ([.b (inB2 a b x && inB2 a b y)], []) := by
  have := mwithin_c (l := [x, y]) (by show (2 : Nat) ≤ _; decide) a b
  simpa [intE] using this

theorem noShape_tot (i l r t b : Int) (f s c : List (List PV)) : Tot (cW f_movie_noShape [.i i, .i l, .i r, .i t, .i b, .l f, .l s, .l c] []) := by
  rw [w_movie_noShape]
  repeat' first
    | exact ⟨_, rfl⟩
    | apply tot_bif
    | apply tot_bind_bif
    | apply tot_some
    | apply tot_assoc
theorem noMorph_tot (i a1 a2 a3 a4 b1 b2 b3 b4 : Int) (f g s t c d : List (List PV)) : Tot (cW f_movie_noMorph [.i i, .i a1, .i a2, .i a3, .i a4, .i b1, .i b2, .i b3, .i b4, .l f, .l g, .l s, .l t, .l c, .l d] []) := by
  rw [w_movie_noMorph]
  repeat' first
    | exact ⟨_, rfl⟩
    | apply tot_bif
    | apply tot_bind_bif
    | apply tot_some
    | apply tot_assoc
set_option maxHeartbeats 2000000 in
theorem empty_tot (h : Hd) (subs : List (List PV)) : Tot (cW f_movie_empty (h.e subs) []) := by
  unfold Hd.e itE e9 Mor.e
  simp only [List.cons_append, List.nil_append]
  rw [w_movie_empty]
  obtain ⟨b1, e1⟩ := noShape_tot h.sh.1 h.sh.2.1.1 h.sh.2.1.2.1 h.sh.2.1.2.2.1 h.sh.2.1.2.2.2 (h.sh.2.2.1.map Fill.e) (h.sh.2.2.2.1.map Strk.e) (h.sh.2.2.2.2.map Rec.e)
  obtain ⟨b2, e2⟩ := noMorph_tot h.mo.id h.mo.fr.1 h.mo.fr.2.1 h.mo.fr.2.2.1 h.mo.fr.2.2.2 h.mo.to.1 h.mo.to.2.1 h.mo.to.2.2.1 h.mo.to.2.2.2 (h.mo.fills.map Fill.e) (h.mo.tofl.map Fill.e) (h.mo.strks.map Strk.e) (h.mo.tost.map Strk.e) (h.mo.recs.map Rec.e) (h.mo.targ.map Rec.e)
  simp only [e1, e2]
  repeat' first
    | exact ⟨_, rfl⟩
    | apply tot_bif
    | apply tot_bind_bif
    | apply tot_some
    | apply tot_assoc
set_option maxHeartbeats 2000000 in
theorem told_tot (p : Nat → Int) : ∃ l, cW f_movie_told (itE p) [] = some (l, []) := by
  unfold itE
  rw [w_movie_told]
  cases (bitsOp BinOp.and .i64 (p 0) 2 != 0) <;> cases (bitsOp BinOp.and .i64 (p 0) 4 != 0) <;> cases (bitsOp BinOp.and .i64 (p 0) 8 != 0) <;> cases (bitsOp BinOp.and .i64 (p 0) 16 != 0) <;> cases (bitsOp BinOp.and .i64 (p 0) 64 != 0) <;> exact ⟨_, rfl⟩
theorem faint_tot (a b c d : Int) : Tot (cW f_pixel_Right_1 [.i a, .i b, .i c, .i d] []) := by
  rw [w_pixel_Right_1, w_pixel_faint]
  rw [(rightK_ans (a, b, c, d)).c]
  generalize (bif decide (c > bif decide (b > a) then b else a) then c else bif decide (b > a) then b else a) = mx
  simp only [Option.bind_some, Option.bind_none, andB, orB, orB2, List.getD_cons_zero, List.getD_cons_succ, toB_b, toI_i, toS_s, toL_l, cond_true, cond_false, List.length_map]
  cases rgbaB (a, b, c, d) with
  | true => exact ⟨_, rfl⟩
  | false => exact ⟨_, rfl⟩
end Go.AI
set_option linter.unusedVariables false
set_option linter.unusedSimpArgs false
set_option maxRecDepth 100000
namespace Go.AI
open Go Go.Proofs

/-- an answer that, where TRUE, says P -/
def TQ (P : Prop) (o : Option Res) : Prop := ∃ b, o = some ([.b b], []) ∧ (b = true → P)
theorem tq_no {P : Prop} : TQ P (some ([.b false], [])) := ⟨false, rfl, fun h => by cases h⟩
theorem tq_of {P : Prop} {o : Option Res} (hp : P) (h : Tot o) : TQ P o := by
  obtain ⟨b, hb⟩ := h
  exact ⟨b, hb, fun _ => hp⟩
theorem tq_b {P : Prop} {b : Bool} (h : b = true → P) : TQ P (some ([.b b], [])) := ⟨b, rfl, h⟩
structure PlOk (p : Nat → Int) : Prop where
  f : p 0 ≥ 0
  d : 1 ≤ p 1 ∧ p 1 ≤ 255
  id : 0 ≤ p 2 ∧ p 2 ≤ 65535
  ra : 0 ≤ p 17 ∧ p 17 ≤ 65535
  m : mB (p 3, p 4, p 5, p 6, p 7, p 8) = true
  x : cxB (I4.l (p 9, p 10, p 11, p 12)) (I4.l (p 13, p 14, p 15, p 16)) = true
  c : (bitsOp .and .i64 (p 0) 64 != 0) = true → 1 ≤ p 18 ∧ p 18 ≤ 255
theorem placeRight_tq (p : Nat → Int) : TQ (PlOk p) (cW f__celluloid_movie_Place__right (itE p) []) := by
  obtain ⟨l, e⟩ := told_tot p
  have em := rightMatrix_c (p 3) (p 4) (p 5) (p 6) (p 7) (p 8)
  have ec := (rightCx_ans (p 9, p 10, p 11, p 12) (p 13, p 14, p 15, p 16)).c
  unfold itE at e ⊢
  rw [w__celluloid_movie_Place__right]
  simp only [mwithin1_c, mwithin2_c, e, em, ec, Option.bind_some, Option.bind_none, andB, orB, orB2, List.getD_cons_zero, List.getD_cons_succ, toB_b, toI_i, toS_s, toL_l, cond_true, cond_false, List.length_map]
  refine tq_b fun h => ?_
  simp only [Bool.and_eq_true, Bool.or_eq_true, inB2_iff] at h
  obtain ⟨a1, _, _, a2, _, ⟨a3, a4⟩, a5, a7, a6⟩ := h
  refine ⟨of_decide_eq_true a1, a2, a3, a4, a5, a7, fun h => ?_⟩
  rcases a6 with a6 | a6
  · rw [beq_iff_eq] at a6; rw [bne_iff_ne] at h; exact absurd a6 h
  · exact a6
theorem idxRGBA_loop (l : List (List PV)) (hl : l.length ≤ 9223372036854775807) : ∀ (rest pre : List (List PV)), l = pre ++ rest → ∃ n : Int,
    rW f_slices_IndexFunc___celluloid_api_RGBA_celluloid_api_RGBA_ [] at_slices_IndexFunc___celluloid_api_RGBA_celluloid_api_RGBA__L0 (S_slices_IndexFunc___celluloid_api_RGBA_celluloid_api_RGBA__L0 l l.length pre.length) = some ([.i n], [])
  | [], pre, h => by
    rw [w_slices_IndexFunc___celluloid_api_RGBA_celluloid_api_RGBA__L0]
    subst h
    rw [List.append_nil, decide_eq_false (by omega), cond_false]
    exact ⟨_, rfl⟩
  | x :: rest, pre, h => by
    rw [w_slices_IndexFunc___celluloid_api_RGBA_celluloid_api_RGBA__L0]
    obtain ⟨h1, h2, _, h3, h4⟩ := el_stepM (id : List PV → List PV) h hl
    obtain ⟨n, ih⟩ := idxRGBA_loop l hl rest (pre ++ [x]) h4
    obtain ⟨b, e⟩ := faint_tot ((elemAt l pre.length).getD 0 PV.u).toI ((elemAt l pre.length).getD 1 PV.u).toI ((elemAt l pre.length).getD 2 PV.u).toI ((elemAt l pre.length).getD 3 PV.u).toI
    simp only [h1, h2, h3, e, ih, Option.bind_some, Option.bind_none, andB, orB, orB2, List.getD_cons_zero, List.getD_cons_succ, toB_b, toI_i, toS_s, toL_l, cond_true, cond_false, List.length_map]
    cases b with
    | true => exact ⟨_, rfl⟩
    | false => exact ⟨_, rfl⟩
theorem pixRight_tq (a b c : Int) (l : List (List PV)) : TQ (l.length ≤ 4096 ∧ (0 ≤ a ∧ a ≤ 65535) ∧ (1 ≤ b ∧ b ≤ 64) ∧ (1 ≤ c ∧ c ≤ 64)) (cW f_pixel_Right [.i a, .i b, .i c, .l l] []) := by
  rw [w_pixel_Right]
  by_cases h : (a ≥ 0 ∧ a < 65536 ∧ b ≥ 1 ∧ b ≤ 64 ∧ c ≥ 1 ∧ c ≤ 64) ∧ ((l.length : Nat) : Int) = IntKind.wrap .i64 (b * c)
  · obtain ⟨⟨h1, h2, h3, h4, h5, h6⟩, h7⟩ := h
    have hm : 0 ≤ b * c ∧ b * c ≤ 64 * 64 := ⟨Int.mul_nonneg (by omega) (by omega), Int.mul_le_mul h4 h6 (by omega) (by omega)⟩
    have hw : IntKind.wrap .i64 (b * c) = b * c := wrap64 (by omega) (by omega)
    rw [hw] at h7
    have hl : l.length ≤ 4096 := by omega
    obtain ⟨n, e⟩ := idxRGBA_loop l (by omega) l [] rfl
    refine tq_of ⟨hl, by omega, by omega, by omega⟩ ?_
    rw [hw, w_slices_ContainsFunc___celluloid_api_RGBA_celluloid_api_RGBA_, w_slices_IndexFunc___celluloid_api_RGBA_celluloid_api_RGBA_, show (0 : Int) = ((([] : List (List PV)).length : Nat) : Int) from rfl, e]
    simp only [Option.bind_some, Option.bind_none, andB, orB, orB2, List.getD_cons_zero, List.getD_cons_succ, toB_b, toI_i, toS_s, toL_l, cond_true, cond_false, List.length_map]
    exact ⟨_, rfl⟩
  · refine ⟨false, ?_, fun h => by cases h⟩
    have : (decide (a ≥ 0) && (decide (a < 65536) && (decide (b ≥ 1) && (decide (b ≤ 64) && (decide (c ≥ 1) && (decide (c ≤ 64) && (((l.length : Nat) : Int) == IntKind.wrap .i64 (b * c)))))))) = false := by
      rw [Bool.eq_false_iff]
      intro h'
      simp only [Bool.and_eq_true, decide_eq_true_eq, beq_iff_eq] at h'
      obtain ⟨h1, h2, h3, h4, h5, h6, h7⟩ := h'
      exact h ⟨⟨h1, h2, h3, h4, h5, h6⟩, h7⟩
    cases x1 : decide (a ≥ 0) with
    | false => rfl
    | true =>
    cases x2 : decide (a < 65536) with
    | false => rfl
    | true =>
    cases x3 : decide (b ≥ 1) with
    | false => rfl
    | true =>
    cases x4 : decide (b ≤ 64) with
    | false => rfl
    | true =>
    cases x5 : decide (c ≥ 1) with
    | false => rfl
    | true =>
    cases x6 : decide (c ≤ 64) with
    | false => rfl
    | true =>
    rw [x1, x2, x3, x4, x5, x6] at this
    rw [show (((l.length : Nat) : Int) == IntKind.wrap .i64 (b * c)) = false from this]
    rfl
end Go.AI
set_option linter.unusedVariables false
set_option linter.unusedSimpArgs false
set_option maxRecDepth 100000
namespace Go.AI
open Go Go.Proofs

/-- a tag and its sprite's tags, as they lie there -/
abbrev Sub := Hd × List (List PV)
def Sub.e (u : Sub) : List PV := u.1.e u.2
def StepK (k : Int) : Prop := k = 1 ∨ k = 26 ∨ k = 28
structure Fit (h : Hd) (us : List Sub) : Prop where
  pl : h.kind = 26 → PlOk h.pl
  dp : h.kind = 28 → 1 ≤ h.dep ∧ h.dep ≤ 255
  co : h.kind = 9 → rgbaB h.col = true
  sh : h.kind = 32 → right9 h.sh = true
  mo : h.kind = 46 → right10 h.mo = true
  px : h.kind = 36 → h.px.length ≤ 4096 ∧ (0 ≤ h.bid ∧ h.bid ≤ 65535) ∧ (1 ≤ h.bw ∧ h.bw ≤ 64) ∧ (1 ≤ h.bh ∧ h.bh ≤ 64)
  sp : h.kind = 39 → ((0 ≤ h.sid ∧ h.sid ≤ 65535) ∧ (0 ≤ h.sfr ∧ h.sfr ≤ 65535)) ∧ us.length ≤ 256 ∧ ∀ u, u ∈ us → StepK u.1.kind
/-- what is asked of a tag's sizes -/
structure Rdy (h : Hd) : Prop where
  sh : h.kind = 32 → sh9M h.sh
  mo : h.kind = 46 → h.mo.sh
theorem fit_step {h : Hd} {us : List Sub} (k : StepK h.kind) (a : h.kind = 26 → PlOk h.pl) (b : h.kind = 28 → 1 ≤ h.dep ∧ h.dep ≤ 255) : Fit h us := by
  unfold StepK at k
  exact ⟨a, b, fun e => by omega, fun e => by omega, fun e => by omega, fun e => by omega, fun e => by omega⟩
theorem eqF {a b : Int} (h : a ≠ b) : (a == b) = false := by rw [beq_eq_false_iff_ne]; exact h
set_option maxHeartbeats 1000000 in
theorem step_tq (h : Hd) (subs : List (List PV)) (us : List Sub) (k : StepK h.kind) : TQ (Fit h us) (cW f_movie_RightTag (h.e subs) []) := by
  obtain ⟨b, e⟩ := empty_tot h subs
  have hp := placeRight_tq h.pl
  unfold Hd.e itE e9 Mor.e at e ⊢
  unfold itE at hp
  simp only [List.cons_append, List.nil_append] at e ⊢
  rw [w_movie_RightTag, e]
  simp only [mwithin1_c, Option.bind_some, Option.bind_none, andB, orB, orB2, List.getD_cons_zero, List.getD_cons_succ, toB_b, toI_i, toS_s, toL_l, cond_true, cond_false, List.length_map]
  cases b with
  | false => exact tq_no
  | true =>
    unfold StepK at k
    by_cases k1 : h.kind = 1
    · rw [k1]
      exact tq_of (fit_step (.inl k1) (fun e => by omega) (fun e => by omega)) ⟨_, rfl⟩
    by_cases k2 : h.kind = 26
    · obtain ⟨b, e, hb⟩ := hp
      rw [e, k2]
      exact tq_b fun h => fit_step (.inr (.inl k2)) (fun _ => hb h) (fun e => by omega)
    have k3 : h.kind = 28 := by omega
    rw [k3]
    exact tq_b fun h => fit_step (.inr (.inr k3)) (fun e => by omega) (fun _ => inB2_iff.1 h)
set_option maxHeartbeats 1000000 in
theorem idxTag_step {us : List (List PV)} {n : Int} (x : Sub) (h1 : decide (n < ((us.length : Nat) : Int)) = true) (h2 : inB n us.length = true) (h3 : elemAt us n = x.e) :
    rW f_slices_IndexFunc___celluloid_movie_Tag_celluloid_movie_Tag_ [] at_slices_IndexFunc___celluloid_movie_Tag_celluloid_movie_Tag__L0 (S_slices_IndexFunc___celluloid_movie_Tag_celluloid_movie_Tag__L0 us us.length n) = some ([.i n], []) ∨
    (StepK x.1.kind ∧ rW f_slices_IndexFunc___celluloid_movie_Tag_celluloid_movie_Tag_ [] at_slices_IndexFunc___celluloid_movie_Tag_celluloid_movie_Tag__L0 (S_slices_IndexFunc___celluloid_movie_Tag_celluloid_movie_Tag__L0 us us.length n) = rW f_slices_IndexFunc___celluloid_movie_Tag_celluloid_movie_Tag_ [] at_slices_IndexFunc___celluloid_movie_Tag_celluloid_movie_Tag__L0 (S_slices_IndexFunc___celluloid_movie_Tag_celluloid_movie_Tag__L0 us us.length (IntKind.wrap .i64 (n + 1)))) := by
  have hs := step_tq x.1 x.2 []
  unfold Sub.e Hd.e itE e9 Mor.e at h3
  unfold Hd.e itE e9 Mor.e at hs
  simp only [List.cons_append, List.nil_append] at h3 hs
  rw [w_slices_IndexFunc___celluloid_movie_Tag_celluloid_movie_Tag__L0, h1, h2, h3, cond_true, cond_true]
  simp only [List.getD_cons_zero, List.getD_cons_succ, toI_i, toL_l]
  rw [w_movie_RightTag_1, w_movie_step]
  by_cases hk : StepK x.1.kind
  · obtain ⟨b, e, _⟩ := hs hk
    rw [e]
    have hst : ((bif x.1.kind == 1 then some [PV.b true] else bif x.1.kind == 26 then some [PV.b true] else some [PV.b (x.1.kind == 28)]).bind fun r1 => some ([PV.b (r1.getD 0 PV.u).toB], ([] : List BX))) = some ([PV.b true], []) := by
      unfold StepK at hk
      rcases hk with hk | hk | hk <;> rw [hk] <;> rfl
    rw [hst]
    cases b with
    | false => exact .inl rfl
    | true => exact .inr ⟨hk, rfl⟩
  · left
    have hst : ((bif x.1.kind == 1 then some [PV.b true] else bif x.1.kind == 26 then some [PV.b true] else some [PV.b (x.1.kind == 28)]).bind fun r1 => some ([PV.b (r1.getD 0 PV.u).toB], ([] : List BX))) = some ([PV.b false], []) := by
      rw [eqF fun h => hk (.inl h), eqF fun h => hk (.inr (.inl h)), eqF fun h => hk (.inr (.inr h))]; rfl
    rw [hst]
    rfl
theorem idxTag_loop {us : List Sub} (hl : us.length ≤ 9223372036854775807) : ∀ (rest pre : List Sub), us = pre ++ rest → ∃ n : Int,
    rW f_slices_IndexFunc___celluloid_movie_Tag_celluloid_movie_Tag_ [] at_slices_IndexFunc___celluloid_movie_Tag_celluloid_movie_Tag__L0 (S_slices_IndexFunc___celluloid_movie_Tag_celluloid_movie_Tag__L0 (us.map Sub.e) (us.map Sub.e).length pre.length) = some ([.i n], []) ∧ (decide (n ≥ 0) = false → ∀ u, u ∈ rest → StepK u.1.kind)
  | [], pre, h => by
    rw [w_slices_IndexFunc___celluloid_movie_Tag_celluloid_movie_Tag__L0]
    subst h
    rw [List.append_nil, List.length_map, decide_eq_false (by omega), cond_false]
    exact ⟨_, rfl, fun _ u hu => by cases hu⟩
  | x :: rest, pre, h => by
    obtain ⟨h1, h2, h3, h4, h5⟩ := el_stepM Sub.e h hl
    obtain ⟨n, ih, hn⟩ := idxTag_loop hl rest (pre ++ [x]) h5
    rcases idxTag_step (us := us.map Sub.e) (n := (pre.length : Nat)) x (by rw [List.length_map]; exact h1) (by rw [List.length_map]; exact h2) h3 with e | ⟨hk, e⟩
    · exact ⟨_, e, fun h => absurd h (by simp)⟩
    · rw [h4] at e
      exact ⟨n, e.trans ih, fun h u hu => by
        rcases List.mem_cons.1 hu with rfl | hu
        · exact hk
        · exact hn h u hu⟩
end Go.AI
set_option linter.unusedVariables false
set_option linter.unusedSimpArgs false
set_option maxRecDepth 100000
namespace Go.AI
open Go Go.Proofs

theorem eqStops_loopM {l m : List Stop} (hl : l.length ≤ 9223372036854775807) : ∀ (r r' p p' : List Stop), l = p ++ r → m = p' ++ r' → p.length = p'.length → r.length = r'.length →
    rW f_slices_Equal___celluloid_api_Stop_celluloid_api_Stop_ [] at_slices_Equal___celluloid_api_Stop_celluloid_api_Stop__L0 (S_slices_Equal___celluloid_api_Stop_celluloid_api_Stop__L0 (l.map Stop.e) (m.map Stop.e) l.length p.length) = some ([.b (decide (r = r'))], [])
  | [], [], p, p', h, h', hp, hr => by
    rw [w_slices_Equal___celluloid_api_Stop_celluloid_api_Stop__L0]; simp only [el_end h, Option.bind_some, Option.bind_none, andB, orB, orB2, List.getD_cons_zero, List.getD_cons_succ, toB_b, toI_i, toS_s, toL_l, cond_true, cond_false, List.length_map]; rfl
  | x :: r, y :: r', p, p', h, h', hp, hr => by
    have hm : m.length ≤ 9223372036854775807 := by rw [h']; rw [h] at hl; simp at hl hr ⊢; omega
    obtain ⟨h1, h2, h3, h4, h5⟩ := el_stepM Stop.e h hl
    obtain ⟨_, k2, k3, _, k5⟩ := el_stepM Stop.e h' hm
    rw [← hp] at k2 k3
    rw [w_slices_Equal___celluloid_api_Stop_celluloid_api_Stop__L0]
    simp only [h1, h2, h3, h4, k2, k3, Stop.e, Option.bind_some, Option.bind_none, andB, orB, orB2, List.getD_cons_zero, List.getD_cons_succ, toB_b, toI_i, toS_s, toL_l, cond_true, cond_false, List.length_map]
    rw [stop_eq, list_eq_step p]
    cases h : decide (x = y) with
    | false => simp only [Bool.not_false, cond_true, Bool.false_and]
    | true =>
      rw [Bool.not_true, cond_false, Bool.true_and]
      exact eqStops_loopM hl r r' _ _ h5 k5 (by simp [hp]) (by simpa using hr)
theorem eqStops_cM {l m : List Stop} (hl : l.length ≤ 9223372036854775807) : cW f_slices_Equal___celluloid_api_Stop_celluloid_api_Stop_ [.l (l.map Stop.e), .l (m.map Stop.e)] [] = some ([.b (decide (l = m))], []) := by
  rw [w_slices_Equal___celluloid_api_Stop_celluloid_api_Stop_]
  simp only [List.length_map]
  by_cases h : l.length = m.length
  · rw [show (((l.length : Nat) : Int) != ((m.length : Nat) : Int)) = false by simp [h], cond_false]
    exact eqStops_loopM hl l m [] [] rfl rfl rfl h
  · rw [show (((l.length : Nat) : Int) != ((m.length : Nat) : Int)) = true by simp [h]; omega, cond_true]
    rw [decide_eq_false (fun e => h (by rw [e]))]
theorem sameFill_cM (a b : Fill) (hl : a.stops.length ≤ 9223372036854775807) : cW f_style_SameFill (a.e ++ b.e) [] = some ([.b (decide (a = b))], []) := by
  simp only [Fill.e, List.cons_append, List.nil_append]
  rw [w_style_SameFill]
  simp only [eqStops_cM hl, Option.bind_some, Option.bind_none, andB, orB, orB2, List.getD_cons_zero, List.getD_cons_succ, toB_b, toI_i, toS_s, toL_l, cond_true, cond_false, List.length_map]
  rw [i4_eq, mat_eq, fill_eq]
theorem rightFill_loopM (f : Fill) (hl : f.stops.length ≤ 9223372036854775807) : ∀ (rest pre : List Stop) (last : Int), f.stops = pre ++ rest →
    rW f_style_RightFill [] at_style_RightFill_L1 (S_style_RightFill_L1 last (f.stops.map Stop.e) f.stops.length pre.length f.kind f.color.1 f.color.2.1 f.color.2.2.1 f.color.2.2.2 f.mat.1 f.mat.2.1 f.mat.2.2.1 f.mat.2.2.2.1 f.mat.2.2.2.2.1 f.mat.2.2.2.2.2 f.spread (f.stops.map Stop.e) f.id) = some ([.b (stopsB last rest && gradB f)], [])
  | [], pre, last, h => by
    rw [w_style_RightFill_L1]
    simp only [el_end h, rightMatrix_c, Option.bind_some, Option.bind_none, andB, orB, orB2, List.getD_cons_zero, List.getD_cons_succ, toB_b, toI_i, toS_s, toL_l, cond_true, cond_false, List.length_map]
    rfl
  | x :: rest, pre, last, h => by
    obtain ⟨h1, h2, h3, h4, h5⟩ := el_stepM Stop.e h hl
    have hs := stop_c x last
    simp only [Stop.e, List.cons_append, List.nil_append] at hs
    rw [w_style_RightFill_L1]
    simp only [h1, h2, h3, h4, Stop.e, hs, Option.bind_some, Option.bind_none, andB, orB, orB2, List.getD_cons_zero, List.getD_cons_succ, toB_b, toI_i, toS_s, toL_l, cond_true, cond_false, List.length_map]
    unfold stopsB
    cases h : stopB x last with
    | false => simp only [Bool.not_false, cond_true, Bool.false_and]
    | true =>
      rw [Bool.not_true, cond_false, Bool.true_and]
      exact rightFill_loopM f hl rest _ _ h5
theorem rightFill_cM (f : Fill) (hl : f.stops.length ≤ 9223372036854775807) : cW f_style_RightFill f.e [] = some ([.b (fillB f)], []) := by
  have e1 := sameFill_cM f ⟨0, f.color, (0, 0, 0, 0, 0, 0), 0, [], 0⟩ hl
  have e2 := sameFill_cM f ⟨f.kind, (0, 0, 0, 0), f.mat, 0, [], f.id⟩ hl
  have e3 := sameFill_cM f ⟨f.kind, (0, 0, 0, 0), f.mat, f.spread, f.stops, 0⟩ hl
  have el := rightFill_loopM f hl f.stops [] 0 rfl
  simp only [Fill.e, List.cons_append, List.nil_append, List.map_nil] at e1 e2 e3 ⊢
  rw [w_style_RightFill]
  simp only [rightK_c, rightMatrix_c, picture_c, gradient_c, e1, e2, e3, Option.bind_some, Option.bind_none, andB, orB, orB2, List.getD_cons_zero, List.getD_cons_succ, toB_b, toI_i, toS_s, toL_l, cond_true, cond_false, List.length_map]
  unfold fillB
  show (bif kindS f.kind then _ else _) = _
  cases kindS f.kind with
  | true => rfl
  | false =>
    cases kindP f.kind with
    | true => rfl
    | false =>
      simp only [cond_false]
      cases kindG f.kind with
      | false => rfl
      | true =>
        cases h : decide (f = ⟨f.kind, (0, 0, 0, 0), f.mat, f.spread, f.stops, 0⟩) with
        | false => rfl
        | true => exact el
theorem right1_cM (f : Fill) (hl : f.stops.length ≤ 9223372036854775807) : cW f_style_Right_1 f.e [] = some ([.b (!fillB f)], []) := by
  have h := rightFill_cM f hl
  unfold Fill.e at h ⊢
  rw [w_style_Right_1]
  simp only [h, Option.bind_some, Option.bind_none, andB, orB, orB2, List.getD_cons_zero, List.getD_cons_succ, toB_b, toI_i, toS_s, toL_l, cond_true, cond_false, List.length_map]
theorem idxFill_loopM {l : List Fill} (hl : l.length ≤ 9223372036854775807) (hs : ShortsM l) : ∀ (rest pre : List Fill), l = pre ++ rest → ∃ n : Int,
    rW f_slices_IndexFunc___celluloid_api_Fill_celluloid_api_Fill_ [] at_slices_IndexFunc___celluloid_api_Fill_celluloid_api_Fill__L0 (S_slices_IndexFunc___celluloid_api_Fill_celluloid_api_Fill__L0 (l.map Fill.e) l.length pre.length) = some ([.i n], []) ∧ decide (n ≥ 0) = !rest.all fillB
  | [], pre, h => by
    refine ⟨-1, ?_, rfl⟩
    rw [w_slices_IndexFunc___celluloid_api_Fill_celluloid_api_Fill__L0]; simp only [el_end h, Option.bind_some, Option.bind_none, andB, orB, orB2, List.getD_cons_zero, List.getD_cons_succ, toB_b, toI_i, toS_s, toL_l, cond_true, cond_false, List.length_map]
  | x :: rest, pre, h => by
    obtain ⟨h1, h2, h3, h4, h5⟩ := el_stepM Fill.e h hl
    have hx := right1_cM x (hs x (by rw [h]; simp))
    rw [w_slices_IndexFunc___celluloid_api_Fill_celluloid_api_Fill__L0]
    unfold Fill.e at hx
    simp only [h1, h2, h3, h4, Fill.e, hx, List.all_cons, Option.bind_some, Option.bind_none, andB, orB, orB2, List.getD_cons_zero, List.getD_cons_succ, toB_b, toI_i, toS_s, toL_l, cond_true, cond_false, List.length_map]
    cases hf : fillB x with
    | false => exact ⟨_, rfl, by simp⟩
    | true => simpa [hf] using idxFill_loopM hl hs rest _ h5
theorem anyFill_cM {l : List Fill} (hl : l.length ≤ 9223372036854775807) (hs : ShortsM l) : cW f_slices_ContainsFunc___celluloid_api_Fill_celluloid_api_Fill_ [.l (l.map Fill.e), .f f_style_Right_1 0] [] = some ([.b (!l.all fillB)], []) := by
  obtain ⟨n, h1, h2⟩ := idxFill_loopM hl hs l [] rfl
  rw [w_slices_ContainsFunc___celluloid_api_Fill_celluloid_api_Fill_, w_slices_IndexFunc___celluloid_api_Fill_celluloid_api_Fill_]
  simp only [List.length_map]
  rw [show (0 : Int) = ((([] : List Fill).length : Nat) : Int) from rfl, h1]
  simp only [Option.bind_some, Option.bind_none, andB, orB, orB2, List.getD_cons_zero, List.getD_cons_succ, toB_b, toI_i, toS_s, toL_l, cond_true, cond_false, List.length_map]
  rw [← h2]; rfl
theorem idxStrk_loopM {l : List Strk} (hl : l.length ≤ 9223372036854775807) : ∀ (rest pre : List Strk), l = pre ++ rest → ∃ n : Int,
    rW f_slices_IndexFunc___celluloid_api_Stroke_celluloid_api_Stroke_ [] at_slices_IndexFunc___celluloid_api_Stroke_celluloid_api_Stroke__L0 (S_slices_IndexFunc___celluloid_api_Stroke_celluloid_api_Stroke__L0 (l.map Strk.e) l.length pre.length) = some ([.i n], []) ∧ decide (n ≥ 0) = !rest.all strkB
  | [], pre, h => by
    refine ⟨-1, ?_, rfl⟩
    rw [w_slices_IndexFunc___celluloid_api_Stroke_celluloid_api_Stroke__L0]; simp only [el_end h, Option.bind_some, Option.bind_none, andB, orB, orB2, List.getD_cons_zero, List.getD_cons_succ, toB_b, toI_i, toS_s, toL_l, cond_true, cond_false, List.length_map]
  | x :: rest, pre, h => by
    obtain ⟨h1, h2, h3, h4, h5⟩ := el_stepM Strk.e h hl
    have hx := right2_c x
    rw [w_slices_IndexFunc___celluloid_api_Stroke_celluloid_api_Stroke__L0]
    unfold Strk.e at hx
    simp only [h1, h2, h3, h4, Strk.e, hx, List.all_cons, Option.bind_some, Option.bind_none, andB, orB, orB2, List.getD_cons_zero, List.getD_cons_succ, toB_b, toI_i, toS_s, toL_l, cond_true, cond_false, List.length_map]
    cases hf : strkB x with
    | false => exact ⟨_, rfl, by simp⟩
    | true => simpa [hf] using idxStrk_loopM hl rest _ h5
theorem anyStrk_cM {l : List Strk} (hl : l.length ≤ 9223372036854775807) : cW f_slices_ContainsFunc___celluloid_api_Stroke_celluloid_api_Stroke_ [.l (l.map Strk.e), .f f_style_Right_2 0] [] = some ([.b (!l.all strkB)], []) := by
  obtain ⟨n, h1, h2⟩ := idxStrk_loopM hl l [] rfl
  rw [w_slices_ContainsFunc___celluloid_api_Stroke_celluloid_api_Stroke_, w_slices_IndexFunc___celluloid_api_Stroke_celluloid_api_Stroke_]
  simp only [List.length_map]
  rw [show (0 : Int) = ((([] : List Strk).length : Nat) : Int) from rfl, h1]
  simp only [Option.bind_some, Option.bind_none, andB, orB, orB2, List.getD_cons_zero, List.getD_cons_succ, toB_b, toI_i, toS_s, toL_l, cond_true, cond_false, List.length_map]
  rw [← h2]; rfl
theorem right_cM {l : List Fill} {m : List Strk} (hl : l.length ≤ 9223372036854775807) (hm : m.length ≤ 9223372036854775807) (hs : ShortsM l) : cW f_style_Right [.l (l.map Fill.e), .l (m.map Strk.e)] [] = some ([.b (listsB l m)], []) := by
  rw [w_style_Right]
  simp only [anyFill_cM hl hs, anyStrk_cM hm, Bool.not_not, Option.bind_some, Option.bind_none, andB, orB, orB2, List.getD_cons_zero, List.getD_cons_succ, toB_b, toI_i, toS_s, toL_l, cond_true, cond_false, List.length_map]
  rfl
theorem Right9_cM (t : T9) (h : sh9M t) : cW f_shape_Right (e9 t) [] = some ([.b (right9 t)], []) := by
  obtain ⟨a1, a2, a3, a4, a5⟩ := h
  unfold e9
  rw [w_shape_Right]
  simp only [within1_c, (rightRect_ans _ _ _ _).c, right_cM a1 a3 a2, rightRecs_c a4 a5, Option.bind_some, Option.bind_none, andB, orB, orB2, List.getD_cons_zero, List.getD_cons_succ, toB_b, toI_i, toS_s, toL_l, cond_true, cond_false, List.length_map]
  unfold right9 frB
  rfl
end Go.AI
set_option linter.unusedVariables false
set_option linter.unusedSimpArgs false
set_option maxRecDepth 100000
namespace Go.AI
open Go Go.Proofs

theorem anyTag_tq {us : List Sub} (hl : us.length ≤ 9223372036854775807) : ∃ b, cW f_slices_ContainsFunc___celluloid_movie_Tag_celluloid_movie_Tag_ [.l (us.map Sub.e), .f f_movie_RightTag_1 0] [] = some ([.b b], []) ∧ (b = false → ∀ u, u ∈ us → StepK u.1.kind) := by
  obtain ⟨n, e, h⟩ := idxTag_loop hl us [] rfl
  rw [w_slices_ContainsFunc___celluloid_movie_Tag_celluloid_movie_Tag_, w_slices_IndexFunc___celluloid_movie_Tag_celluloid_movie_Tag_]
  rw [show (0 : Int) = ((([] : List Sub).length : Nat) : Int) from rfl, e]
  simp only [Option.bind_some, Option.bind_none, andB, orB, orB2, List.getD_cons_zero, List.getD_cons_succ, toB_b, toI_i, toS_s, toL_l, cond_true, cond_false, List.length_map]
  exact ⟨_, rfl, h⟩
set_option maxHeartbeats 2000000 in
theorem rightTag_tq (h : Hd) (w : Rdy h) (us : List Sub) : TQ (Fit h us) (cW f_movie_RightTag (h.e (us.map Sub.e)) []) := by
  by_cases k : StepK h.kind
  · exact step_tq h _ us k
  have k1 : h.kind ≠ 1 := fun e => k (.inl e)
  have k2 : h.kind ≠ 26 := fun e => k (.inr (.inl e))
  have k3 : h.kind ≠ 28 := fun e => k (.inr (.inr e))
  obtain ⟨b, e⟩ := empty_tot h (us.map Sub.e)
  unfold Hd.e itE e9 Mor.e at e ⊢
  simp only [List.cons_append, List.nil_append] at e ⊢
  rw [w_movie_RightTag, e]
  simp only [mwithin2_c, Option.bind_some, Option.bind_none, andB, orB, orB2, List.getD_cons_zero, List.getD_cons_succ, toB_b, toI_i, toS_s, toL_l, cond_true, cond_false, List.length_map]
  rw [eqF k1, eqF k2, eqF k3]
  cases b with
  | false => exact tq_no
  | true =>
    simp only [Option.bind_some, Option.bind_none, andB, orB, orB2, List.getD_cons_zero, List.getD_cons_succ, toB_b, toI_i, toS_s, toL_l, cond_true, cond_false, List.length_map, Bool.not_true]
    have fit0 : h.kind ≠ 9 → h.kind ≠ 32 → h.kind ≠ 46 → h.kind ≠ 36 → h.kind ≠ 39 → Fit h us := fun x a b c d => ⟨fun e => absurd e k2, fun e => absurd e k3, fun e => absurd e x, fun e => absurd e a, fun e => absurd e b, fun e => absurd e c, fun e => absurd e d⟩
    by_cases k4 : h.kind = 9
    · rw [show (h.kind == 9) = true by rw [beq_iff_eq]; exact k4, cond_true, (rightK_ans h.col).c]
      simp only [Option.bind_some, Option.bind_none, andB, orB, orB2, List.getD_cons_zero, List.getD_cons_succ, toB_b, toI_i, toS_s, toL_l, cond_true, cond_false, List.length_map]
      refine tq_b fun hb => ?_
      rw [Bool.and_eq_true] at hb
      exact ⟨fun e => absurd e k2, fun e => absurd e k3, fun _ => hb.1, fun e => by omega, fun e => by omega, fun e => by omega, fun e => by omega⟩
    rw [eqF k4, cond_false]
    by_cases k5 : h.kind = 32
    · have q := Right9_cM h.sh (w.sh k5)
      unfold e9 at q
      rw [show (h.kind == 32) = true by rw [beq_iff_eq]; exact k5, cond_true, q]
      exact tq_b fun hb => ⟨fun e => absurd e k2, fun e => absurd e k3, fun e => absurd e k4, fun _ => hb, fun e => by omega, fun e => by omega, fun e => by omega⟩
    rw [eqF k5, cond_false]
    by_cases k6 : h.kind = 46
    · have q := Right10_c h.mo (w.mo k6)
      unfold Mor.e at q
      rw [show (h.kind == 46) = true by rw [beq_iff_eq]; exact k6, cond_true, q]
      exact tq_b fun hb => ⟨fun e => absurd e k2, fun e => absurd e k3, fun e => absurd e k4, fun e => by omega, fun _ => hb, fun e => by omega, fun e => by omega⟩
    rw [eqF k6, cond_false]
    by_cases k7 : h.kind = 36
    · obtain ⟨b, q, hb⟩ := pixRight_tq h.bid h.bw h.bh h.px
      rw [show (h.kind == 36) = true by rw [beq_iff_eq]; exact k7, cond_true, q]
      exact tq_b fun hb' => ⟨fun e => absurd e k2, fun e => absurd e k3, fun e => absurd e k4, fun e => by omega, fun e => by omega, fun _ => hb hb', fun e => by omega⟩
    rw [eqF k7, cond_false]
    by_cases k8 : h.kind = 39
    · rw [show (h.kind == 39) = true by rw [beq_iff_eq]; exact k8, cond_true]
      cases a1 : (inB2 0 65535 h.sid && inB2 0 65535 h.sfr) with
      | false => exact tq_no
      | true =>
        simp only [Bool.and_eq_true, inB2_iff] at a1
        by_cases a2 : us.length ≤ 256
        · obtain ⟨b, q, hb⟩ := anyTag_tq (us := us) (by omega)
          rw [show decide (((us.length : Nat) : Int) ≤ 256) = true from decide_eq_true (by omega), q]
          exact tq_b fun hb' => ⟨fun e => absurd e k2, fun e => absurd e k3, fun e => absurd e k4, fun e => by omega, fun e => by omega, fun e => by omega, fun _ => ⟨a1, a2, hb (by have h0 : (!b) = true := hb'; simpa using h0)⟩⟩
        · rw [show decide (((us.length : Nat) : Int) ≤ 256) = false from decide_eq_false (by omega)]
          exact tq_no
    rw [eqF k8, cond_false]
    exact tq_no
end Go.AI
set_option linter.unusedVariables false
set_option linter.unusedSimpArgs false
set_option maxRecDepth 100000
namespace Go.AI
open Go Go.Proofs

theorem cxW_len {s : List UInt8} {m a : I4} (h : cxB m.l a.l = true) : (cxW m a (s, 0)).1.length ≤ s.length + 200 := by
  have w1 := cx_wl h
  have hl := cxL_len m a
  unfold cxW
  obtain ⟨o1, _, _, l1⟩ := flagW_ok (!zeroI a) (s, 0) (ok_zero s)
  obtain ⟨o2, _, _, l2⟩ := flagW_ok (!fullI m) _ o1
  obtain ⟨o3, _, _, l3⟩ := nums_ok 4 (cxL m a) _ o2
  have hm : WL (cxL m a) * (cxL m a).length ≤ 11 * 8 := Nat.mul_le_mul w1 hl
  simp only at l1
  show (nums 4 _ _).1.length ≤ _
  omega
/-- bytes, at most so many -/
def PS (n : Nat) (o : Option Res) : Prop := ∃ s, o = some ([.s s], []) ∧ s.length ≤ n
theorem ps_ret {n a : Nat} {s : List UInt8} (hs : s.length ≤ a) (h : a ≤ n) : PS n (some ([.s s], [])) := ⟨s, rfl, Nat.le_trans hs h⟩
theorem ps_bif {n : Nat} {c : Bool} {x y : Option Res} (hx : c = true → PS n x) (hy : c = false → PS n y) : PS n (bif c then x else y) := by
  cases c with
  | true => exact hx rfl
  | false => exact hy rfl
theorem ps_little {n a : Nat} {s : List UInt8} {f v : Int} {F : Res → Option Res} (hs : s.length ≤ a) (ha : a ≤ 10000) (hv : 0 ≤ v ∧ v ≤ 65535) (h : ∀ s' : List UInt8, s'.length ≤ a + 2 → PS n (F ([.s s', .i 0, .i 0], []))) : PS n ((cW f_bits_PutLittle [.s s, .i f, .i v, .i 2] []).bind F) := by
  rw [putLittle2_c (by omega) f hv.1 (by omega)]
  exact h _ (by rw [List.length_append]; show _ + 2 ≤ _; omega)
theorem ps_mat {n a : Nat} {s : List UInt8} {f x1 x2 x3 x4 x5 x6 : Int} {F : Res → Option Res} (hs : s.length ≤ a) (ha : a ≤ 10000) (hv : mB (x1, x2, x3, x4, x5, x6) = true) (h : ∀ s' : List UInt8, s'.length ≤ a + 400 → PS n (F ([.s s', .i 0, .i 0], []))) : PS n ((cW f_field_PutMatrix [.s s, .i f, .i x1, .i x2, .i x3, .i x4, .i x5, .i x6] []).bind F) := by
  rw [putMat_c (m := (x1, x2, x3, x4, x5, x6)) (by omega) f hv]
  have := matS_len hv
  exact h _ (by rw [List.length_append]; omega)
theorem ps_cx {n a : Nat} {s : List UInt8} {f x1 x2 x3 x4 y1 y2 y3 y4 : Int} {F : Res → Option Res} (hs : s.length ≤ a) (ha : a ≤ 10000) (hv : cxB (I4.l (x1, x2, x3, x4)) (I4.l (y1, y2, y3, y4)) = true) (h : ∀ s' : List UInt8, s'.length ≤ a + 200 → PS n (F ([.s s', .i 0, .i 0], []))) : PS n ((cW f_field_PutCx [.s s, .i f, .i x1, .i x2, .i x3, .i x4, .i y1, .i y2, .i y3, .i y4] []).bind F) := by
  rw [(putCx_ans (by omega) f (x1, x2, x3, x4) (y1, y2, y3, y4)).c]
  have := cxW_len (s := s) hv
  unfold putCxF encW
  rw [if_pos hv]
  exact h _ (by show (cxW _ _ _).1.length ≤ _; omega)
set_option maxHeartbeats 1000000 in
theorem put_ps {p : Nat → Int} (w : PlOk p) : PS 1000 (cW f_movie_put (itE p) []) := by
  have h1 : 0 ≤ p 1 ∧ p 1 ≤ 65535 := by have := w.d; omega
  have h2 := w.id
  have h17 := w.ra
  have h18 : (bitsOp .and .i64 (p 0) 64 != 0) = true → 0 ≤ p 18 ∧ p 18 ≤ 65535 := fun h => by have := w.c h; omega
  have hm := w.m
  have hx := w.x
  unfold itE
  rw [w_movie_put, toBytes_oneS, (putBytes_ans (s := []) (t := oneS (p 0)) (by simp [oneS]) 0).c]
  have l0 : ([] ++ oneS (p 0)).length ≤ 1 := by simp [oneS]
  simp only [Option.bind_some, Option.bind_none, andB, orB, orB2, List.getD_cons_zero, List.getD_cons_succ, toB_b, toI_i, toS_s, toL_l, cond_true, cond_false, List.length_map]
  repeat' first
    | exact ps_ret (by assumption) (by omega)
    | (refine ps_bif (fun _ => ?_) (fun _ => ?_))
    | (refine ps_little (by assumption) (by omega) (by first | assumption | exact h18 (by assumption)) (fun s' hs' => ?_); simp only [List.getD_cons_zero, List.getD_cons_succ, toB_b, toI_i, toS_s, toL_l])
    | (refine ps_mat (by assumption) (by omega) (by assumption) (fun s' hs' => ?_); simp only [List.getD_cons_zero, List.getD_cons_succ, toB_b, toI_i, toS_s, toL_l])
    | (refine ps_cx (by assumption) (by omega) (by assumption) (fun s' hs' => ?_); simp only [List.getD_cons_zero, List.getD_cons_succ, toB_b, toI_i, toS_s, toL_l])
end Go.AI
set_option linter.unusedVariables false
set_option linter.unusedSimpArgs false
set_option maxRecDepth 100000
namespace Go.AI
open Go Go.Proofs

theorem toBytes_len (l : List (List PV)) : (toBytes l).length = l.length := by simp [toBytes]
theorem adler_loop {s : List UInt8} (hl : s.length ≤ 9223372036854775807) : ∀ (rest pre : List UInt8) (a b : Int), s = pre ++ rest → ∃ n : Int, rW f_adler_More [] at_adler_More_L0 (S_adler_More_L0 s a b s.length pre.length) = some ([.i n], [])
  | [], pre, a, b, h => by
    rw [w_adler_More_L0]
    subst h
    rw [List.append_nil, decide_eq_false (by omega), cond_false]
    exact ⟨_, rfl⟩
  | x :: rest, pre, a, b, h => by
    rw [w_adler_More_L0]
    have hp : pre.length < s.length := by rw [h]; simp
    rw [decide_eq_true (by omega : ((pre.length : Nat) : Int) < ((s.length : Nat) : Int)), show inB ((pre.length : Nat) : Int) s.length = true from decide_eq_true_iff.2 hp |> fun h => by simpa [inB] using hp, cond_true, cond_true]
    have h5 : s = (pre ++ [x]) ++ rest := by rw [h]; simp
    have hw : IntKind.wrap .i64 (((pre.length : Nat) : Int) + 1) = (((pre ++ [x]).length : Nat) : Int) := by
      rw [List.length_append]
      show _ = (((pre.length + 1 : Nat)) : Int)
      rw [wrap64 (by omega) (by omega)]; omega
    rw [hw]
    exact adler_loop hl rest _ _ _ h5
theorem sum_tot {s : List UInt8} (hl : s.length ≤ 9223372036854775807) : ∃ n : Int, cW f_adler_Sum [.s s] [] = some ([.i n], []) := by
  rw [w_adler_Sum, w_adler_More, w_adler_parts]
  simp only [Option.bind_some, Option.bind_none, andB, orB, orB2, List.getD_cons_zero, List.getD_cons_succ, toB_b, toI_i, toS_s, toL_l, cond_true, cond_false, List.length_map]
  obtain ⟨n, e⟩ := adler_loop hl s [] _ _ rfl
  rw [show (0 : Int) = ((([] : List UInt8).length : Nat) : Int) from rfl, e]
  exact ⟨n, rfl⟩
theorem close_m {l : List UInt8} (hl : l.length ≤ 1099511627776) : ∃ s e, cM f_deflate_Close [.s l] [] = some ([.s s, .i e], []) ∧ s.length ≤ 32 * l.length + 30 ∧ (l.length ≤ 262144 → e = 0) := by
  obtain ⟨n, e⟩ := sum_tot (s := l) (by omega)
  rw [m_deflate_Close, Raw_m]
  unfold rawF
  by_cases h : 262144 < l.length
  · rw [if_pos h]
    exact ⟨_, _, rfl, Nat.zero_le _, fun h' => by omega⟩
  · rw [if_neg h]
    have ho := out_len (l := l) (by omega)
    simp only [cM_of e, Option.bind_some, Option.bind_none, andB, orB, orB2, List.getD_cons_zero, List.getD_cons_succ, toB_b, toI_i, toS_s, toL_l, cond_true, cond_false, List.length_map]
    have ht : (toBytes (outZ l).1).length = (outZ l).1.length := toBytes_len _
    rw [show ((0 : Int) != 0) = false from rfl, cond_false, decide_eq_true (by omega), cond_true, decide_eq_true (by
      rw [List.length_append, ht, toBytes_len]; simp; omega), cond_true]
    refine ⟨_, _, rfl, ?_, fun _ => rfl⟩
    rw [List.length_append, List.length_append, ht, toBytes_len]
    simp
    omega
end Go.AI
set_option linter.unusedVariables false
set_option linter.unusedSimpArgs false
set_option maxRecDepth 100000
namespace Go.AI
open Go Go.Proofs

theorem room4 {n c : Nat} {l : List (List PV)} (h1 : n ≤ 1000000) (h2 : l.length ≤ 10) (h3 : c ≤ 1000) : (decide ((n + l.length) * c ≤ 140737488355328) && decide (n + l.length ≤ 4611686018427387904)) = true := by
  have h : (n + l.length) * c ≤ 1000010 * 1000 := Nat.mul_le_mul (by omega) h3
  rw [decide_eq_true (by omega), decide_eq_true (by omega)]; rfl
/-- an answer: a tag's code, its bytes, at most so many, and an error -/
def PT (n : Nat) (o : Option Res) : Prop := ∃ k s e, o = some ([.i k, .s s, .i e], []) ∧ s.length ≤ n
theorem pixPut_loop {px : List (List PV)} (hl : px.length ≤ 4096) {x5 : List UInt8} (h5 : x5.length ≤ 100) (x6 : Int) : ∀ (rest pre : List (List PV)) (acc : List (List PV)), px = pre ++ rest → acc.length = 4 * pre.length →
    ∃ s e, rM f_pixel_Put [] at_pixel_Put_L0 (S_pixel_Put_L0 px px.length pre.length acc x5 x6) = some ([.s s, .i e], []) ∧ s.length ≤ 1000000
  | [], pre, acc, h, ha => by
    rw [m_pixel_Put_L0]
    have hp : pre.length = px.length := by rw [h]; simp
    rw [decide_eq_false (by omega), cond_false]
    obtain ⟨s, e, q, hs, _⟩ := close_m (l := toBytes acc) (by rw [toBytes_len]; omega)
    rw [toBytes_len] at hs
    rw [q]
    simp only [Option.bind_some, Option.bind_none, andB, orB, orB2, List.getD_cons_zero, List.getD_cons_succ, toB_b, toI_i, toS_s, toL_l, cond_true, cond_false, List.length_map]
    rw [decide_eq_true (by omega), cond_true]
    exact ⟨_, _, rfl, by rw [List.length_append]; omega⟩
  | x :: rest, pre, acc, h, ha => by
    obtain ⟨h1, h2, _, h3, h4⟩ := el_stepM (id : List PV → List PV) h (by omega)
    have hp : pre.length < px.length := by rw [h]; simp
    rw [m_pixel_Put_L0]
    simp only [h1, h2, h3, cond_true]
    rw [room4 (by omega) (by simp) (by omega), cond_true]
    exact pixPut_loop hl h5 x6 rest (pre ++ [x]) _ h4 (by simp [ha]; omega)
theorem pixPut_m (a b c : Int) (l : List (List PV)) (ha : 0 ≤ a ∧ a ≤ 65535) (hb : 1 ≤ b ∧ b ≤ 64) (hc : 1 ≤ c ∧ c ≤ 64) (hl : l.length ≤ 4096) : ∃ s e, cM f_pixel_Put [.i a, .i b, .i c, .l l] [] = some ([.s s, .i e], []) ∧ s.length ≤ 1000000 := by
  rw [m_pixel_Put]
  obtain ⟨r, er, _⟩ := pixRight_tq a b c l
  rw [cM_of er]
  cases r with
  | false => exact ⟨_, _, rfl, Nat.zero_le _⟩
  | true =>
    simp only [cM_of (putLittle2_c (s := []) (by simp) 0 ha.1 (by omega)), Option.bind_some, Option.bind_none, andB, orB, orB2, List.getD_cons_zero, List.getD_cons_succ, toB_b, toI_i, toS_s, toL_l, cond_true, cond_false, List.length_map, Bool.not_true]
    rw [cM_of (putBytes_ans (s := [] ++ twoS a) (t := [5]) (by simp [twoS]) 0).c]
    simp only [Option.bind_some, Option.bind_none, andB, orB, orB2, List.getD_cons_zero, List.getD_cons_succ, toB_b, toI_i, toS_s, toL_l, cond_true, cond_false, List.length_map]
    rw [cM_of (putLittle2_c (s := [] ++ twoS a ++ [5]) (by simp [twoS]) 0 (by omega : 0 ≤ b) (by omega))]
    simp only [Option.bind_some, Option.bind_none, andB, orB, orB2, List.getD_cons_zero, List.getD_cons_succ, toB_b, toI_i, toS_s, toL_l, cond_true, cond_false, List.length_map]
    rw [cM_of (putLittle2_c (s := [] ++ twoS a ++ [5] ++ twoS b) (by simp [twoS]) 0 (by omega : 0 ≤ c) (by omega))]
    simp only [Option.bind_some, Option.bind_none, andB, orB, orB2, List.getD_cons_zero, List.getD_cons_succ, toB_b, toI_i, toS_s, toL_l, cond_true, cond_false, List.length_map]
    exact pixPut_loop hl (by simp [twoS]) 0 l [] [] rfl rfl
/-- what is asked of tags, to be written one behind the other -/
theorem raws_m {us : List Sub} {B : Nat} (hB : ∀ u, u ∈ us → PT B (cM f_movie_PutTag (Sub.e u) [])) : ∃ es b, cM f_movie_raws [.l (us.map Sub.e)] [] = some ([.l es, .b b], []) ∧ es.length ≤ 256 ∧ ∀ x, x ∈ es → ∃ c s, x = [.i c, .s s] ∧ s.length ≤ B := by
  rw [m_movie_raws]
  by_cases h : us.length ≤ 256
  · rw [List.length_map, decide_eq_false (by omega), cond_false]
    have key : ∀ (rest pre : List Sub) (acc : List (List PV)), us = pre ++ rest → acc.length = pre.length → (∀ x, x ∈ acc → ∃ c s, x = [.i c, .s s] ∧ s.length ≤ B) →
        ∃ es b, rM f_movie_raws [] at_movie_raws_L0 (S_movie_raws_L0 (us.map Sub.e) us.length pre.length acc) = some ([.l es, .b b], []) ∧ es.length ≤ 256 ∧ ∀ x, x ∈ es → ∃ c s, x = [.i c, .s s] ∧ s.length ≤ B := by
      intro rest
      induction rest with
      | nil =>
        intro pre acc hu ha hacc
        rw [m_movie_raws_L0]
        have hp : pre.length = us.length := by rw [hu]; simp
        rw [decide_eq_false (by omega), cond_false]
        exact ⟨_, _, rfl, by omega, hacc⟩
      | cons x rest ih =>
        intro pre acc hu ha hacc
        obtain ⟨h1, h2, h3, h4, h5⟩ := el_stepM Sub.e hu (by omega)
        have hp : pre.length < us.length := by rw [hu]; simp
        obtain ⟨k, s, e, q, hs⟩ := hB x (by rw [hu]; simp)
        rw [m_movie_raws_L0]
        unfold Sub.e Hd.e itE e9 Mor.e at q h3
        simp only [List.cons_append, List.nil_append] at q h3
        have h2 : inB ((pre.length : Nat) : Int) (us.map Sub.e).length = true := by rw [List.length_map]; exact h2
        rw [h1, cond_true, h2, cond_true]
        have h3' : elemAt (us.map Sub.e) ((pre.length : Nat) : Int) = _ := h3
        rw [h3']
        simp only [List.getD_cons_zero, List.getD_cons_succ, toI_i, toL_l, toS_s]
        rw [q]
        simp only [Option.bind_some, Option.bind_none, andB, orB, orB2, List.getD_cons_zero, List.getD_cons_succ, toB_b, toI_i, toS_s, toL_l, cond_true, cond_false, List.length_map]
        cases (e != 0) with
        | true => exact ⟨_, _, rfl, Nat.zero_le _, fun x hx => by cases hx⟩
        | false =>
          rw [cond_false, room4 (by omega) (by simp) (by omega), cond_true, h4]
          exact ih (pre ++ [x]) _ h5 (by simp [ha]) (fun y hy => by
            rcases List.mem_append.1 hy with hy | hy
            · exact hacc y hy
            · have : y = [.i k, .s s] := by simpa using hy
              exact ⟨k, s, this, hs⟩)
    exact key us [] [] rfl rfl (fun x hx => by cases hx)
  · rw [List.length_map, decide_eq_true (by omega), cond_true]
    exact ⟨_, _, rfl, Nat.zero_le _, fun x hx => by cases hx⟩
theorem putT_le {c : Int} {s : List UInt8} : (putT c s).1.length ≤ s.length + 6 := by
  unfold putT
  split
  · exact Nat.zero_le _
  · split <;> simp [le2, le4] <;> omega
theorem goJ_le {B : Nat} : ∀ (l : List (Int × List UInt8)) (acc : List UInt8), (∀ x, x ∈ l → x.2.length ≤ B) → (goJ l acc).1.length ≤ acc.length + 2 + l.length * (B + 6)
  | [], acc, h => by rw [goJ, List.length_append]; show _ + 2 ≤ _; omega
  | (c, s) :: l, acc, h => by
    rw [goJ]
    split
    · exact Nat.zero_le _
    · have a := goJ_le l (acc ++ (putT c s).1) (fun x hx => h x (List.mem_cons_of_mem _ hx))
      have b := putT_le (c := c) (s := s)
      have d : s.length ≤ B := h (c, s) (List.mem_cons_self ..)
      rw [List.length_append] at a
      rw [List.length_cons, Nat.succ_mul]
      omega
theorem joinT_le {B : Nat} {l : List (Int × List UInt8)} (h : ∀ x, x ∈ l → x.2.length ≤ B) : (joinT l).1.length ≤ 2 + 256 * (B + 6) := by
  unfold joinT
  split
  · exact Nat.zero_le _
  · have a := goJ_le l [] h
    have : l.length * (B + 6) ≤ 256 * (B + 6) := Nat.mul_le_mul_right _ (by omega)
    simp only [List.length_nil] at a
    omega
theorem join_le {B : Nat} (hB : B ≤ 400000000) {es : List (List PV)} (h : ∀ x, x ∈ es → ∃ c s, x = [.i c, .s s] ∧ s.length ≤ B) : ∃ s e, cM f_tag_Join [.l es] [] = some ([.s s, .i e], []) ∧ s.length ≤ 2 + 256 * (B + 6) := by
  refine ⟨_, _, Join_m ?_, ?_⟩
  · rw [List.all_eq_true]
    intro x hx
    obtain ⟨c, s, rfl, hs⟩ := h x hx
    exact decide_eq_true (by omega)
  · refine joinT_le fun y hy => ?_
    obtain ⟨x, hx, rfl⟩ := List.mem_map.1 hy
    obtain ⟨c, s, rfl, hs⟩ := h x hx
    exact hs
end Go.AI
set_option linter.unusedVariables false
set_option linter.unusedSimpArgs false
set_option maxRecDepth 100000
namespace Go.AI
open Go Go.Proofs

theorem sh9_of {t : T9} (w : sh9M t) (h : right9 t = true) : sh9 t := by
  obtain ⟨_, _, _, a4, a5⟩ := w
  obtain ⟨_, _, hL, _⟩ := right9_r h
  obtain ⟨l1, l2, l3, l4⟩ := listsB_r hL
  refine ⟨Nat.le_trans l1 (by decide), fun f hf => ?_, Nat.le_trans l2 (by decide), a4, a5⟩
  have hx := l3 f hf
  cases k : kindS f.kind with
  | true => rw [(fillB_solid hx k).2]; exact Nat.zero_le _
  | false =>
    cases k' : kindP f.kind with
    | true => rw [(fillB_pic hx k k').2.2.2]; exact Nat.zero_le _
    | false => exact Nat.le_trans (fillB_grad hx k k').2.2.2.2.2.2.2 (by decide)
theorem pt_mono {n m : Nat} {o : Option Res} (h : PT n o) (hm : n ≤ m) : PT m o := by
  obtain ⟨k, s, e, q, hs⟩ := h
  exact ⟨k, s, e, q, Nat.le_trans hs hm⟩
theorem pt_ret {n : Nat} {k e : Int} {s : List UInt8} (hs : s.length ≤ n) : PT n (some ([.i k, .s s, .i e], [])) := ⟨k, s, e, rfl, hs⟩
set_option maxHeartbeats 2000000 in
theorem putStep_m (h : Hd) (subs : List (List PV)) (k : StepK h.kind) : PT 1000 (cM f_movie_PutTag (h.e subs) []) := by
  obtain ⟨b, e, hb⟩ := step_tq h subs [] k
  have hp := fun w => put_ps (p := h.pl) w
  unfold itE at hp
  unfold Hd.e itE e9 Mor.e at e ⊢
  simp only [List.cons_append, List.nil_append] at e ⊢
  rw [m_movie_PutTag, cM_of e]
  simp only [Option.bind_some, Option.bind_none, andB, orB, orB2, List.getD_cons_zero, List.getD_cons_succ, toB_b, toI_i, toS_s, toL_l, cond_true, cond_false, List.length_map]
  cases b with
  | false => exact pt_ret (Nat.zero_le _)
  | true =>
    have F := hb rfl
    unfold StepK at k
    by_cases k1 : h.kind = 1
    · rw [k1]; exact pt_ret (Nat.zero_le _)
    by_cases k2 : h.kind = 26
    · obtain ⟨s, q, hs⟩ := hp (F.pl k2)
      rw [k2, cM_of q]; exact pt_ret hs
    have k3 : h.kind = 28 := by omega
    have hd := F.dp k3
    rw [k3, cM_of (putLittle2_c (s := []) (by simp) 0 (by omega : 0 ≤ h.dep) (by omega))]
    exact pt_ret (s := [] ++ twoS h.dep) (by show 2 ≤ 1000; decide)
set_option maxHeartbeats 4000000 in
theorem putTag_m (h : Hd) (w : Rdy h) (us : List Sub) : PT 20000000 (cM f_movie_PutTag (h.e (us.map Sub.e)) []) := by
  by_cases k : StepK h.kind
  · exact pt_mono (putStep_m h _ k) (by decide)
  have k1 : h.kind ≠ 1 := fun e => k (.inl e)
  have k2 : h.kind ≠ 26 := fun e => k (.inr (.inl e))
  have k3 : h.kind ≠ 28 := fun e => k (.inr (.inr e))
  obtain ⟨b, e, hb⟩ := rightTag_tq h w us
  unfold Hd.e itE e9 Mor.e at e ⊢
  simp only [List.cons_append, List.nil_append] at e ⊢
  rw [m_movie_PutTag, cM_of e]
  simp only [Option.bind_some, Option.bind_none, andB, orB, orB2, List.getD_cons_zero, List.getD_cons_succ, toB_b, toI_i, toS_s, toL_l, cond_true, cond_false, List.length_map]
  cases b with
  | false => exact pt_ret (Nat.zero_le _)
  | true =>
    have F := hb rfl
    rw [eqF k2, eqF k3]
    simp only [Option.bind_some, Option.bind_none, andB, orB, orB2, List.getD_cons_zero, List.getD_cons_succ, toB_b, toI_i, toS_s, toL_l, cond_true, cond_false, List.length_map, Bool.not_true]
    by_cases k4 : h.kind = 9
    · rw [show (h.kind == 9) = true by rw [beq_iff_eq]; exact k4, cond_true, cM_of (putK_ans (s := []) (by simp) 0 h.col).c]
      unfold putKF encW
      rw [if_pos (F.co k4)]
      exact pt_ret (s := cutL 0 3 ([] ++ rgbaS h.col)) (by show 3 ≤ 20000000; decide)
    rw [eqF k4, cond_false]
    by_cases k5 : h.kind = 32
    · have hr := F.sh k5
      have q := Put9_c h.sh (sh9_of (w.sh k5) hr)
      rw [hr] at q
      unfold e9 at q
      simp only [List.cons_append, List.nil_append, cond_true] at q
      rw [show (h.kind == 32) = true by rw [beq_iff_eq]; exact k5, cond_true, cM_of q]
      exact pt_ret (Nat.le_trans (put9_len hr) (by decide))
    rw [eqF k5, cond_false]
    by_cases k6 : h.kind = 46
    · have hr := F.mo k6
      have q := Put10_c h.mo (w.mo k6)
      rw [hr] at q
      unfold Mor.e at q
      simp only [List.cons_append, List.nil_append, cond_true] at q
      rw [show (h.kind == 46) = true by rw [beq_iff_eq]; exact k6, cond_true, cM_of q]
      exact pt_ret (Nat.le_trans (right10_r hr).sizes.2.2.2 (by decide))
    rw [eqF k6, cond_false]
    by_cases k7 : h.kind = 36
    · obtain ⟨f1, f2, f3, f4⟩ := F.px k7
      obtain ⟨s, e, q, hs⟩ := pixPut_m h.bid h.bw h.bh h.px f2 f3 f4 f1
      rw [show (h.kind == 36) = true by rw [beq_iff_eq]; exact k7, cond_true, q]
      exact pt_ret (Nat.le_trans hs (by decide))
    rw [eqF k7, cond_false]
    by_cases k8 : h.kind = 39
    · obtain ⟨⟨f1, f2⟩, f3, f4⟩ := F.sp k8
      obtain ⟨es, b, q, hn, he⟩ := raws_m (us := us) (B := 1000) (fun u hu => putStep_m u.1 u.2 (f4 u hu))
      obtain ⟨s, e, q2, hs⟩ := join_le (B := 1000) (by decide) he
      rw [show (h.kind == 39) = true by rw [beq_iff_eq]; exact k8, cond_true, cM_of (putLittle2_c (s := []) (by simp) 0 f1.1 (by omega))]
      simp only [Option.bind_some, Option.bind_none, andB, orB, orB2, List.getD_cons_zero, List.getD_cons_succ, toB_b, toI_i, toS_s, toL_l, cond_true, cond_false, List.length_map]
      rw [cM_of (putLittle2_c (s := [] ++ twoS h.sid) (by simp [twoS]) 0 f2.1 (by omega))]
      simp only [Option.bind_some, Option.bind_none, andB, orB, orB2, List.getD_cons_zero, List.getD_cons_succ, toB_b, toI_i, toS_s, toL_l, cond_true, cond_false, List.length_map, q, q2]
      have l2 : ([] ++ twoS h.sid ++ twoS h.sfr).length = 4 := rfl
      rw [l2, decide_eq_true (by omega), cond_true]
      exact pt_ret (by rw [List.length_append, l2]; omega)
    rw [eqF k8, cond_false]
    exact pt_ret (Nat.zero_le _)
end Go.AI
set_option linter.unusedVariables false
set_option linter.unusedSimpArgs false
set_option maxRecDepth 100000
namespace Go.AI
open Go Go.Proofs

/-- a tag with its sprite's tags -/
abbrev Tg2 := Hd × List Sub
def Tg2.e (t : Tg2) : List PV := t.1.e (t.2.map Sub.e)
def Tg2.s (t : Tg2) : Sub := (t.1, t.2.map Sub.e)
theorem tg2_map (ts : List Tg2) : (ts.map Tg2.s).map Sub.e = ts.map Tg2.e := by
  rw [List.map_map]; rfl
/-- a movie but for its tags -/
structure Mv where
  pk : Bool
  v : Int
  r : Int
  f : Int
  sz : I4
def Mv.e (m : Mv) (l : List (List PV)) : List PV := [.b m.pk, .i m.v, .i m.r, .i m.f, .i m.sz.1, .i m.sz.2.1, .i m.sz.2.2.1, .i m.sz.2.2.2, .l l]
/-- what the head of a movie asks -/
def Mv.ok (m : Mv) : Bool := inB2 0 255 m.v && (rectB m.sz.1 m.sz.2.1 m.sz.2.2.1 m.sz.2.2.2 && (inB2 0 65535 m.r && inB2 0 65535 m.f))
theorem rawsT_m {ts : List Tg2} (w : ∀ t, t ∈ ts → Rdy t.1) : ∃ es b, cM f_movie_raws [.l (ts.map Tg2.e)] [] = some ([.l es, .b b], []) ∧ es.length ≤ 256 ∧ ∀ x, x ∈ es → ∃ c s, x = [.i c, .s s] ∧ s.length ≤ 20000000 := by
  rw [← tg2_map]
  refine raws_m fun u hu => ?_
  obtain ⟨t, ht, rfl⟩ := List.mem_map.1 hu
  exact putTag_m t.1 (w t ht) t.2
theorem frame_len {l r t b : Int} (h : rectB l r t b = true) : (rectW l r t b ([], 0)).1.length ≤ 200 := by
  unfold rectW
  obtain ⟨a1, a2, a3, d⟩ := nums_ok 5 [l, r, t, b] ([], 0) (ok_zero _)
  have := (rectB_fits h).wl
  refine Nat.le_trans d ?_
  show 0 + 5 + _ * 4 ≤ 200
  omega
theorem inner_m (m : Mv) {ts : List Tg2} (w : ∀ t, t ∈ ts → Rdy t.1) : ∃ s b, cM f_movie_inner (m.e (ts.map Tg2.e)) [] = some ([.s s, .b b], []) ∧ s.length ≤ 100000000000 ∧ (b = true → m.ok = true) := by
  unfold Mv.e
  rw [m_movie_inner, cM_of (mwithin1_c 0 255 m.v), cM_of (mwithin2_c 0 65535 m.r m.f), cM_of (rightRect_ans m.sz.1 m.sz.2.1 m.sz.2.2.1 m.sz.2.2.2).c]
  have hok : m.ok = (inB2 0 255 m.v && (rectB m.sz.1 m.sz.2.1 m.sz.2.2.1 m.sz.2.2.2 && (inB2 0 65535 m.r && inB2 0 65535 m.f))) := rfl
  rw [hok]
  simp only [Option.bind_some, Option.bind_none, andB, orB, orB2, List.getD_cons_zero, List.getD_cons_succ, toB_b, toI_i, toS_s, toL_l, cond_true, cond_false, List.length_map]
  cases h1 : inB2 0 255 m.v with
  | false => exact ⟨_, _, rfl, Nat.zero_le _, fun h => by cases h⟩
  | true =>
  cases h2 : rectB m.sz.1 m.sz.2.1 m.sz.2.2.1 m.sz.2.2.2 with
  | false => exact ⟨_, _, rfl, Nat.zero_le _, fun h => by cases h⟩
  | true =>
  cases h3 : (inB2 0 65535 m.r && inB2 0 65535 m.f) with
  | false => exact ⟨_, _, rfl, Nat.zero_le _, fun h => by cases h⟩
  | true =>
  rw [Bool.and_eq_true, inB2_iff, inB2_iff] at h3
  obtain ⟨es, b, q, hn, he⟩ := rawsT_m w
  obtain ⟨s, e, q2, hs⟩ := join_le (B := 20000000) (by decide) he
  simp only [Option.bind_some, Option.bind_none, andB, orB, orB2, List.getD_cons_zero, List.getD_cons_succ, toB_b, toI_i, toS_s, toL_l, cond_true, cond_false, List.length_map, Bool.not_true, q]
  cases b with
  | false => exact ⟨_, _, rfl, Nat.zero_le _, fun h => by cases h⟩
  | true =>
    have hl := frame_len h2
    rw [cM_of (putRect_ans (s := []) (by simp) 0 m.sz.1 m.sz.2.1 m.sz.2.2.1 m.sz.2.2.2).c]
    unfold putRectF encW
    rw [if_pos h2]
    generalize (rectW m.sz.1 m.sz.2.1 m.sz.2.2.1 m.sz.2.2.2 ([], 0)).1 = z at hl
    simp only [Option.bind_some, Option.bind_none, andB, orB, orB2, List.getD_cons_zero, List.getD_cons_succ, toB_b, toI_i, toS_s, toL_l, cond_true, cond_false, List.length_map, Bool.not_true]
    rw [cM_of (putLittle2_c (s := z) (by omega) 0 h3.1.1 (by omega))]
    simp only [Option.bind_some, Option.bind_none, andB, orB, orB2, List.getD_cons_zero, List.getD_cons_succ, toB_b, toI_i, toS_s, toL_l, cond_true, cond_false, List.length_map]
    rw [cM_of (putLittle2_c (s := z ++ twoS m.r) (by rw [List.length_append]; show _ + 2 ≤ _; omega) 0 h3.2.1 (by omega))]
    simp only [Option.bind_some, Option.bind_none, andB, orB, orB2, List.getD_cons_zero, List.getD_cons_succ, toB_b, toI_i, toS_s, toL_l, cond_true, cond_false, List.length_map, q2]
    have l2 : (z ++ twoS m.r ++ twoS m.f).length = z.length + 4 := by rw [List.length_append, List.length_append]; rfl
    rw [l2, decide_eq_true (by omega), cond_true]
    exact ⟨_, _, rfl, by rw [List.length_append, l2]; omega, fun _ => rfl⟩
end Go.AI
set_option linter.unusedVariables false
set_option linter.unusedSimpArgs false
set_option maxRecDepth 100000
namespace Go.AI
open Go Go.Proofs

theorem cases19m {p : Nat → Prop} (h : p 0 ∧ p 1 ∧ p 2 ∧ p 3 ∧ p 4 ∧ p 5 ∧ p 6 ∧ p 7 ∧ p 8 ∧ p 9 ∧ p 10 ∧ p 11 ∧ p 12 ∧ p 13 ∧ p 14 ∧ p 15 ∧ p 16 ∧ p 17 ∧ p 18) : ∀ i, i < 19 → p i := by
  obtain ⟨h0, h1, h2, h3, h4, h5, h6, h7, h8, h9, h10, h11, h12, h13, h14, h15, h16, h17, h18⟩ := h
  intro i hi
  match i, hi with
  | 0, _ => exact h0
  | 1, _ => exact h1
  | 2, _ => exact h2
  | 3, _ => exact h3
  | 4, _ => exact h4
  | 5, _ => exact h5
  | 6, _ => exact h6
  | 7, _ => exact h7
  | 8, _ => exact h8
  | 9, _ => exact h9
  | 10, _ => exact h10
  | 11, _ => exact h11
  | 12, _ => exact h12
  | 13, _ => exact h13
  | 14, _ => exact h14
  | 15, _ => exact h15
  | 16, _ => exact h16
  | 17, _ => exact h17
  | 18, _ => exact h18
  | i + 19, hi => exact absurd hi (by omega)
abbrev LTag : List LTy := [.int .i64, .int .i64, .int .i64, .int .i64, .int .i64, .int .i64, .int .i64, .int .i64, .int .i64, .int .i64, .int .i64, .int .i64, .int .i64, .int .i64, .int .i64, .int .i64, .int .i64, .int .i64, .int .i64, .int .i64, .int .i64, .int .i64, .int .i64, .int .i64, .int .i64, .int .i64, .int .i64, .int .i64, .int .i64, .int .i64, .sl 151, .sl 154, .sl 120, .int .i64, .int .i64, .int .i64, .int .i64, .int .i64, .int .i64, .int .i64, .int .i64, .int .i64, .sl 151, .sl 151, .sl 154, .sl 154, .sl 120, .sl 120, .int .i64, .int .i64, .int .i64, .sl 39, .int .i64, .int .i64, .sl 60]
theorem leafTag2 : leaves Tryz.prog 60 = some LTag := by kernel_rfl
theorem bytesTag : Tryz.prog.bytesOf 60 = 616 := by kernel_rfl
theorem rows_any {P : Program} {ts : List LTy} {t : TypeId} (hl : leaves P t = some ts) {p : PV} (h : PW P (.sl t) p) : ∃ es, p = .l es ∧ (es.length ≤ maxLen ∧ (es.length * P.bytesOf t ≤ reachBytes ∧ ∀ x, x ∈ es → PWL P ts x)) := by
  obtain ⟨es, ts', rfl, h1, h2, h3⟩ := h.sl_of
  rw [hl] at h1
  cases h1
  exact ⟨es, rfl, h2, h.sl_size, h3⟩
theorem tag_of {x : List PV} (h : PWL Tryz.prog LTag x) : ∃ (d : Hd) (L : List (List PV)), x = d.e L ∧ (d.wf ∧ (L.length * 616 ≤ 140737488355328 ∧ ∀ y, y ∈ L → PWL Tryz.prog LTag y)) := by
  obtain ⟨k, q, rfl, wk, h⟩ := int_cons h
  obtain ⟨d, q, rfl, wd, h⟩ := int_cons h
  obtain ⟨c1, q, rfl, wc1, h⟩ := int_cons h
  obtain ⟨c2, q, rfl, wc2, h⟩ := int_cons h
  obtain ⟨c3, q, rfl, wc3, h⟩ := int_cons h
  obtain ⟨c4, q, rfl, wc4, h⟩ := int_cons h
  obtain ⟨p0, q, rfl, wp0, h⟩ := int_cons h
  obtain ⟨p1, q, rfl, wp1, h⟩ := int_cons h
  obtain ⟨p2, q, rfl, wp2, h⟩ := int_cons h
  obtain ⟨p3, q, rfl, wp3, h⟩ := int_cons h
  obtain ⟨p4, q, rfl, wp4, h⟩ := int_cons h
  obtain ⟨p5, q, rfl, wp5, h⟩ := int_cons h
  obtain ⟨p6, q, rfl, wp6, h⟩ := int_cons h
  obtain ⟨p7, q, rfl, wp7, h⟩ := int_cons h
  obtain ⟨p8, q, rfl, wp8, h⟩ := int_cons h
  obtain ⟨p9, q, rfl, wp9, h⟩ := int_cons h
  obtain ⟨p10, q, rfl, wp10, h⟩ := int_cons h
  obtain ⟨p11, q, rfl, wp11, h⟩ := int_cons h
  obtain ⟨p12, q, rfl, wp12, h⟩ := int_cons h
  obtain ⟨p13, q, rfl, wp13, h⟩ := int_cons h
  obtain ⟨p14, q, rfl, wp14, h⟩ := int_cons h
  obtain ⟨p15, q, rfl, wp15, h⟩ := int_cons h
  obtain ⟨p16, q, rfl, wp16, h⟩ := int_cons h
  obtain ⟨p17, q, rfl, wp17, h⟩ := int_cons h
  obtain ⟨p18, q, rfl, wp18, h⟩ := int_cons h
  obtain ⟨i, q, rfl, wi, h⟩ := int_cons h
  obtain ⟨b1, q, rfl, wb1, h⟩ := int_cons h
  obtain ⟨b2, q, rfl, wb2, h⟩ := int_cons h
  obtain ⟨b3, q, rfl, wb3, h⟩ := int_cons h
  obtain ⟨b4, q, rfl, wb4, h⟩ := int_cons h
  obtain ⟨f, q, rfl, lf, wf, h⟩ := sl_cons (e := Fill.e) (wf := Fill.wf) (t := 151) (by kernel_rfl) (fill_of (t := 230) (by kernel_rfl)) h
  obtain ⟨s, q, rfl, ls, ws, h⟩ := sl_cons (e := Strk.e) (wf := Strk.wf) (t := 154) (by kernel_rfl) strk_of h
  obtain ⟨r, q, rfl, lr, wr, h⟩ := sl_cons (e := Rec.e) (wf := Rec.wf) (t := 120) (by kernel_rfl) (rec_of (f := 151) (t := 154) (k := 230) (by kernel_rfl) (by kernel_rfl) (by kernel_rfl)) h
  obtain ⟨n, q, rfl, wn, h⟩ := int_cons h
  obtain ⟨g1, q, rfl, wg1, h⟩ := int_cons h
  obtain ⟨g2, q, rfl, wg2, h⟩ := int_cons h
  obtain ⟨g3, q, rfl, wg3, h⟩ := int_cons h
  obtain ⟨g4, q, rfl, wg4, h⟩ := int_cons h
  obtain ⟨o1, q, rfl, wo1, h⟩ := int_cons h
  obtain ⟨o2, q, rfl, wo2, h⟩ := int_cons h
  obtain ⟨o3, q, rfl, wo3, h⟩ := int_cons h
  obtain ⟨o4, q, rfl, wo4, h⟩ := int_cons h
  obtain ⟨mf, q, rfl, lmf, wmf, h⟩ := sl_cons (e := Fill.e) (wf := Fill.wf) (t := 151) (by kernel_rfl) (fill_of (t := 230) (by kernel_rfl)) h
  obtain ⟨mg, q, rfl, lmg, wmg, h⟩ := sl_cons (e := Fill.e) (wf := Fill.wf) (t := 151) (by kernel_rfl) (fill_of (t := 230) (by kernel_rfl)) h
  obtain ⟨ms, q, rfl, lms, wms, h⟩ := sl_cons (e := Strk.e) (wf := Strk.wf) (t := 154) (by kernel_rfl) strk_of h
  obtain ⟨mt, q, rfl, lmt, wmt, h⟩ := sl_cons (e := Strk.e) (wf := Strk.wf) (t := 154) (by kernel_rfl) strk_of h
  obtain ⟨mr, q, rfl, lmr, wmr, h⟩ := sl_cons (e := Rec.e) (wf := Rec.wf) (t := 120) (by kernel_rfl) (rec_of (f := 151) (t := 154) (k := 230) (by kernel_rfl) (by kernel_rfl) (by kernel_rfl)) h
  obtain ⟨mv, q, rfl, lmv, wmv, h⟩ := sl_cons (e := Rec.e) (wf := Rec.wf) (t := 120) (by kernel_rfl) (rec_of (f := 151) (t := 154) (k := 230) (by kernel_rfl) (by kernel_rfl) (by kernel_rfl)) h
  obtain ⟨bi, q, rfl, wbi, h⟩ := int_cons h
  obtain ⟨bw, q, rfl, wbw, h⟩ := int_cons h
  obtain ⟨bh, q, rfl, wbh, h⟩ := int_cons h
  obtain ⟨p, q, rfl, hp, h2⟩ := h.cons
  clear h
  obtain ⟨px, rfl, lpx, _, _⟩ := rows_any (ts := (leaves Tryz.prog 39).getD []) (by kernel_rfl) hp
  have h := h2
  clear h2
  obtain ⟨si, q, rfl, wsi, h⟩ := int_cons h
  obtain ⟨sf, q, rfl, wsf, h⟩ := int_cons h
  obtain ⟨p, q, rfl, hp, h2⟩ := h.cons
  obtain ⟨L, rfl, _, hz, hL⟩ := rows_any leafTag2 hp
  obtain rfl := h2.nil
  rw [bytesTag] at hz
  refine ⟨⟨k, d, (c1, c2, c3, c4), fun j => [p0, p1, p2, p3, p4, p5, p6, p7, p8, p9, p10, p11, p12, p13, p14, p15, p16, p17, p18].getD j 0, (i, (b1, b2, b3, b4), f, s, r), ⟨n, (g1, g2, g3, g4), (o1, o2, o3, o4), mf, mg, ms, mt, mr, mv⟩, bi, bw, bh, px, si, sf⟩, L, rfl, ?_, Nat.le_trans hz (by decide), hL⟩
  refine ⟨wk, wd, fun j hj => ?_, lf, fun x hx => (wf x hx).2.2.2.2.1, ls, lr, fun x hx => (wr x hx).1, ⟨lmf, lmg, lmr, lmv, fun x hx => (wmr x hx).1, fun x hx => (wmv x hx).1⟩, lpx⟩
  refine cases19m (p := fun j => I64 ([p0, p1, p2, p3, p4, p5, p6, p7, p8, p9, p10, p11, p12, p13, p14, p15, p16, p17, p18].getD j 0)) ?_ j hj
  exact ⟨wp0, wp1, wp2, wp3, wp4, wp5, wp6, wp7, wp8, wp9, wp10, wp11, wp12, wp13, wp14, wp15, wp16, wp17, wp18⟩
theorem bool_cons {P : Program} {ts : List LTy} {x : List PV} (h : PWL P (.bool :: ts) x) : ∃ (b : Bool) (q : List PV), x = .b b :: q ∧ PWL P ts q := by
  obtain ⟨p, q, rfl, hp, h2⟩ := h.cons
  clear h
  cases hp with
  | bool b => exact ⟨b, q, rfl, h2⟩
end Go.AI
set_option linter.unusedVariables false
set_option linter.unusedSimpArgs false
set_option maxRecDepth 100000
namespace Go.AI
open Go Go.Proofs

/-- an answer of tref: how many are left, and whether it is not too much -/
def TrA (o : Option Res) (many : Int) (P : Prop) : Prop := ∃ (r : List PV) (left : Int) (b : Bool), o = some (r, []) ∧ r.getD 55 .u = .i left ∧ r.getD 56 .u = .b b ∧ left < many ∧ (b = true → 0 ≤ left ∧ P)
theorem room5 {n c : Nat} {l : List (List PV)} (h1 : n ≤ 1000) (h2 : l.length ≤ 10) (h3 : c ≤ 1000) : (decide ((n + l.length) * c ≤ 140737488355328) && decide (n + l.length ≤ 4611686018427387904)) = true := by
  have h : (n + l.length) * c ≤ 1010 * 1000 := Nat.mul_le_mul (by omega) h3
  rw [decide_eq_true (by omega), decide_eq_true (by omega)]; rfl
/-- what a tag's sizes are, where it is not too much to be gone through -/
def SmT (x : List PV) : Prop := ∃ t : Tg2, x = t.e ∧ Rdy t.1
theorem sub_rows : ∀ {L : List (List PV)}, (∀ y, y ∈ L → PWL Tryz.prog LTag y) → ∃ us : List Sub, L = us.map Sub.e
  | [], _ => ⟨[], rfl⟩
  | y :: L, h => by
    obtain ⟨us, e⟩ := sub_rows (fun z hz => h z (List.mem_cons_of_mem _ hz))
    obtain ⟨u, s, hu, _⟩ := tag_of (h y (List.mem_cons_self ..))
    exact ⟨(u, s) :: us, by rw [List.map_cons, ← e, hu]; rfl⟩
theorem tg_rows : ∀ {L : List (List PV)}, (∀ y, y ∈ L → SmT y) → ∃ ts : List Tg2, L = ts.map Tg2.e ∧ ∀ t, t ∈ ts → Rdy t.1
  | [], _ => ⟨[], rfl, fun t ht => by cases ht⟩
  | y :: L, h => by
    obtain ⟨ts, e, r⟩ := tg_rows (fun z hz => h z (List.mem_cons_of_mem _ hz))
    obtain ⟨t, ht, hr⟩ := h y (List.mem_cons_self ..)
    exact ⟨t :: ts, by rw [List.map_cons, ← e, ht], fun u hu => by
      rcases List.mem_cons.1 hu with rfl | hu
      · exact hr
      · exact r u hu⟩
noncomputable def tS (h : Hd) (L : List (List PV)) (many n : Int) (acc : List (List PV)) : St :=
  S_celluloidlaw13_tref_L0 many L ((((List.length L) : Nat) : Int)) n [] [] [] [] [] [] [] [] [] [] [] 0 0 0 0 0 0 0 0 0 0 0 0 0 0 0 0 0 0 0 0 0 0 0 0 0 0 0 0 0 0 0 0 0 0 0 0 0 0 0 0 0 0 0 0 acc h.kind h.dep h.col.1 h.col.2.1 h.col.2.2.1 h.col.2.2.2 (h.pl 0) (h.pl 1) (h.pl 2) (h.pl 3) (h.pl 4) (h.pl 5) (h.pl 6) (h.pl 7) (h.pl 8) (h.pl 9) (h.pl 10) (h.pl 11) (h.pl 12) (h.pl 13) (h.pl 14) (h.pl 15) (h.pl 16) (h.pl 17) (h.pl 18) h.sh.1 h.sh.2.1.1 h.sh.2.1.2.1 h.sh.2.1.2.2.1 h.sh.2.1.2.2.2 (h.sh.2.2.1.map Fill.e) (h.sh.2.2.2.1.map Strk.e) (h.sh.2.2.2.2.map Rec.e) h.mo.id h.mo.fr.1 h.mo.fr.2.1 h.mo.fr.2.2.1 h.mo.fr.2.2.2 h.mo.to.1 h.mo.to.2.1 h.mo.to.2.2.1 h.mo.to.2.2.2 (h.mo.fills.map Fill.e) (h.mo.tofl.map Fill.e) (h.mo.strks.map Strk.e) (h.mo.tost.map Strk.e) (h.mo.recs.map Rec.e) (h.mo.targ.map Rec.e) h.bid h.bw h.bh h.px h.sid h.sfr
theorem enter13 (h : Hd) (w : h.wf) (L : List (List PV)) {many : Int} (h1 : 0 ≤ many) (h2 : many ≤ 600) :
    (∃ r : List PV, cW f_celluloidlaw13_tref (h.e L ++ [.i many]) [] = some (r, []) ∧ r.getD 55 .u = .i (many - 1) ∧ r.getD 56 .u = .b false) ∨
    (0 ≤ many - 1 ∧ (smallR h.sh.2.2.2.2 = true ∧ small10 h.mo = true) ∧ cW f_celluloidlaw13_tref (h.e L ++ [.i many]) [] = rW f_celluloidlaw13_tref [] at_celluloidlaw13_tref_L0 (tS h L (many - 1) 0 [])) := by
  have e10 := small10_c h.mo w.mo
  have hw : IntKind.wrap .i64 (many - 1) = many - 1 := wrap64 (by omega) (by omega)
  unfold Hd.e itE e9 Mor.e tS
  unfold Mor.e at e10
  simp only [List.cons_append, List.nil_append]
  rw [w_celluloidlaw13_tref, small9_c w.r w.rr, e10, hw]
  generalize IntKind.wrap .i64 (((List.length (h.sh.2.2.1.map Fill.e) : Nat) : Int) + ((List.length (h.sh.2.2.2.1.map Strk.e) : Nat) : Int)) = fs
  by_cases k1 : many - 1 < 0
  · left
    rw [decide_eq_true k1]
    exact ⟨_, rfl, rfl, rfl⟩
  rw [decide_eq_false k1]
  cases k2 : decide (((List.length h.px : Nat) : Int) > 5000) with
  | true => left; exact ⟨_, rfl, rfl, rfl⟩
  | false =>
  cases k3 : smallR h.sh.2.2.2.2 with
  | false => left; exact ⟨_, rfl, rfl, rfl⟩
  | true =>
  cases k4 : decide (fs > 50) with
  | true => left; exact ⟨_, rfl, rfl, rfl⟩
  | false =>
  cases k5 : small10 h.mo with
  | false => left; exact ⟨_, rfl, rfl, rfl⟩
  | true => right; exact ⟨by omega, ⟨rfl, rfl⟩, rfl⟩
theorem tS_end (h : Hd) (L : List (List PV)) (many n : Int) (acc : List (List PV)) (hn : decide (n < ((L.length : Nat) : Int)) = false) :
    ∃ r : List PV, rW f_celluloidlaw13_tref [] at_celluloidlaw13_tref_L0 (tS h L many n acc) = some (r, []) ∧ r.getD 55 .u = .i many ∧ r.getD 56 .u = .b true := by
  unfold tS
  rw [w_celluloidlaw13_tref_L0, hn, cond_false]
  exact ⟨_, rfl, rfl, rfl⟩
set_option maxHeartbeats 1000000 in
theorem tS_step (h : Hd) (L : List (List PV)) (many n : Int) (acc : List (List PV)) (u : Hd) (subs : List (List PV)) (h1 : decide (n < ((L.length : Nat) : Int)) = true) (h2 : inB n L.length = true) (h3 : elemAt L n = u.e subs)
    (ha : acc.length ≤ 1000) {r : List PV} {left : Int} {b : Bool} (e : cW f_celluloidlaw13_tref (u.e subs ++ [.i many]) [] = some (r, [])) (e1 : r.getD 55 .u = .i left) (e2 : r.getD 56 .u = .b b) :
    (b = false ∧ ∃ r : List PV, rW f_celluloidlaw13_tref [] at_celluloidlaw13_tref_L0 (tS h L many n acc) = some (r, []) ∧ r.getD 55 .u = .i many ∧ r.getD 56 .u = .b false) ∨
    (b = true ∧ ∃ y, rW f_celluloidlaw13_tref [] at_celluloidlaw13_tref_L0 (tS h L many n acc) = rW f_celluloidlaw13_tref [] at_celluloidlaw13_tref_L0 (tS h L left (IntKind.wrap .i64 (n + 1)) (acc ++ [y]))) := by
  unfold Hd.e itE e9 Mor.e at e h3
  simp only [List.cons_append, List.nil_append] at e h3
  unfold tS
  rw [w_celluloidlaw13_tref_L0, h1, h2, h3, cond_true, cond_true]
  simp only [List.getD_cons_zero, List.getD_cons_succ, toI_i, toL_l]
  rw [e, Option.bind_some]
  simp only [e1, e2, toB_b, toI_i]
  cases b with
  | false => exact .inl ⟨rfl, _, rfl, rfl, rfl⟩
  | true =>
    refine .inr ⟨rfl, ?_⟩
    rw [Bool.not_true, cond_false, room5 ha (by show (1 : Nat) ≤ 10; decide) (by decide), cond_true]
    exact ⟨_, rfl⟩
theorem tref13 : ∀ (k : Nat) (many : Int), 0 ≤ many → many ≤ 600 → many.toNat ≤ k → ∀ x, PWL Tryz.prog LTag x → TrA (cW f_celluloidlaw13_tref (x ++ [.i many]) []) many (SmT x)
  | k, many, h0, h6, hk, x, hx => by
    obtain ⟨h, L, rfl, w, hz, hL⟩ := tag_of hx
    rcases enter13 h w L h0 h6 with ⟨r, e, e1, e2⟩ | ⟨hm, hs, e⟩
    · exact ⟨r, _, _, e, e1, e2, by omega, fun h => by cases h⟩
    · have hl : L.length ≤ 9223372036854775807 := by omega
      have key : ∀ (rest pre acc : List (List PV)) (mn : Int), L = pre ++ rest → 0 ≤ mn → mn ≤ many - 1 → acc.length + mn.toNat ≤ 600 →
          ∃ (r : List PV) (left : Int) (b : Bool), rW f_celluloidlaw13_tref [] at_celluloidlaw13_tref_L0 (tS h L mn pre.length acc) = some (r, []) ∧ r.getD 55 .u = .i left ∧ r.getD 56 .u = .b b ∧ left ≤ mn ∧ (b = true → 0 ≤ left) := by
        intro rest
        induction rest with
        | nil =>
          intro pre acc mn he h0' hm' ha
          obtain ⟨r, e, e1, e2⟩ := tS_end h L mn pre.length acc (el_end he)
          exact ⟨r, _, _, e, e1, e2, Int.le_refl _, fun _ => h0'⟩
        | cons y rest ih =>
          intro pre acc mn he h0' hm' ha
          obtain ⟨h1, h2, h3, h4, h5⟩ := el_stepM (id : List PV → List PV) he hl
          rw [List.map_id] at h3
          have hy : PWL Tryz.prog LTag y := hL y (by rw [he]; simp)
          obtain ⟨r, left, b, q, q1, q2, q3, q4⟩ := tref13 (k - 1) mn h0' (by omega) (by omega) y hy
          obtain ⟨u, subs, hu, _⟩ := tag_of hy
          rw [hu] at q
          rcases tS_step h L mn pre.length acc u subs h1 h2 (h3.trans hu) (by omega) q q1 q2 with ⟨rfl, r', e, e1, e2⟩ | ⟨rfl, z, e⟩
          · exact ⟨r', _, _, e, e1, e2, Int.le_refl _, fun h => by cases h⟩
          · obtain ⟨hl0, _⟩ := q4 rfl
            rw [h4] at e
            obtain ⟨r2, left2, b2, p, p1, p2, p3, p4⟩ := ih (pre ++ [y]) (acc ++ [z]) left h5 hl0 (by omega) (by rw [List.length_append]; show acc.length + 1 + _ ≤ _; omega)
            exact ⟨r2, left2, b2, e.trans p, p1, p2, by omega, p4⟩
      obtain ⟨r, left, b, p, p1, p2, p3, p4⟩ := key L [] [] (many - 1) rfl hm (by omega) (by show 0 + _ ≤ 600; omega)
      refine ⟨r, left, b, e.trans p, p1, p2, by omega, fun hb => ⟨p4 hb, ?_⟩⟩
      obtain ⟨us, hu⟩ := sub_rows hL
      obtain ⟨g1, g2⟩ := smallR_r hs.1
      exact ⟨(h, us), by show _ = h.e (us.map Sub.e); rw [← hu], fun _ => ⟨w.f, w.fs, w.s, Nat.le_trans g1 (by decide), g2⟩, fun _ => small10_sh hs.2⟩
termination_by k => k
decreasing_by omega
end Go.AI
set_option linter.unusedVariables false
set_option linter.unusedSimpArgs false
set_option maxRecDepth 100000
namespace Go.AI
open Go Go.Proofs

/-- what stands behind a movie's first letter -/
def headS (v : Int) (n : Nat) : List UInt8 := [87, 83, UInt8.ofNat (Int.toNat (IntKind.wrap .u8 v))] ++ littleB n 4
theorem headS_len (v : Int) (n : Nat) : (headS v n).length = 7 := by
  unfold headS
  rw [List.length_append, littleB_length]
  rfl
theorem inner_any (m : Mv) (pk : Bool) (l : List (List PV)) : cM f_movie_inner (Mv.e ⟨pk, m.v, m.r, m.f, m.sz⟩ l) [] = cM f_movie_inner (m.e l) [] := by
  unfold Mv.e
  rw [m_movie_inner, m_movie_inner]
theorem right_any (m : Mv) (pk : Bool) (l : List (List PV)) : cM f_movie_Right (Mv.e ⟨pk, m.v, m.r, m.f, m.sz⟩ l) [] = cM f_movie_Right (m.e l) [] := by
  have h := inner_any m pk l
  unfold Mv.e at h ⊢
  rw [m_movie_Right, m_movie_Right, h]
/-- what is written: nothing, or the head and the inner bytes, as they are or packed -/
theorem enc_m (m : Mv) {ts : List Tg2} (w : ∀ t, t ∈ ts → Rdy t.1) :
    (∀ pk, cM f_movie_Encode (Mv.e ⟨pk, m.v, m.r, m.f, m.sz⟩ (ts.map Tg2.e)) [] = some ([.s [], .i 1], [])) ∨
    (m.ok = true ∧ ∃ s c : List UInt8, s.length ≤ 262144 ∧ ∀ pk, cM f_movie_Encode (Mv.e ⟨pk, m.v, m.r, m.f, m.sz⟩ (ts.map Tg2.e)) [] = some ([.s (bif pk then [67] ++ headS m.v (8 + s.length) ++ c else [70] ++ headS m.v (8 + s.length) ++ s), .i 0], [])) := by
  obtain ⟨s, b, q, hs, hb⟩ := inner_m m w
  have hr : cM f_movie_Right (m.e (ts.map Tg2.e)) [] = some ([.b (b && decide (((s.length : Nat) : Int) ≤ 262144))], []) := by
    unfold Mv.e at q ⊢
    rw [m_movie_Right, q]
    simp only [Option.bind_some, Option.bind_none, andB, orB, orB2, List.getD_cons_zero, List.getD_cons_succ, toB_b, toI_i, toS_s, toL_l, cond_true, cond_false, List.length_map]
  cases hx : (b && decide (((s.length : Nat) : Int) ≤ 262144)) with
  | false =>
    left
    intro pk
    have h1 := right_any m pk (ts.map Tg2.e)
    rw [hr, hx] at h1
    unfold Mv.e at h1 ⊢
    rw [m_movie_Encode, h1]
    rfl
  | true =>
    right
    rw [Bool.and_eq_true, decide_eq_true_eq] at hx
    obtain ⟨hb1, hl⟩ := hx
    have hl : s.length ≤ 262144 := by omega
    obtain ⟨c, e, qc, hc, hce⟩ := close_m (l := s) (by omega)
    obtain rfl := hce hl
    refine ⟨hb hb1, s, c, hl, fun pk => ?_⟩
    have h1 := right_any m pk (ts.map Tg2.e)
    have h2 := inner_any m pk (ts.map Tg2.e)
    rw [hr, hb1, show decide (((s.length : Nat) : Int) ≤ 262144) = true from decide_eq_true (by omega)] at h1
    rw [q] at h2
    unfold Mv.e at h1 h2 ⊢
    have hn : IntKind.wrap .i64 (8 + ((s.length : Nat) : Int)) = ((8 + s.length : Nat) : Int) := by rw [wrap64 (by omega) (by omega)]; omega
    have hp := putLittle_c (s := []) (by simp) 0 (v := 8 + s.length) (k := 4) (by omega) (by omega) (by omega)
    rw [m_movie_Encode, h1]
    simp only [h2, Option.bind_some, Option.bind_none, andB, orB, orB2, List.getD_cons_zero, List.getD_cons_succ, toB_b, toI_i, toS_s, toL_l, cond_true, cond_false, List.length_map, Bool.and_true, Bool.not_true]
    rw [hn, show (4 : Int) = ((4 : Nat) : Int) from rfl, cM_of hp]
    simp only [Option.bind_some, Option.bind_none, andB, orB, orB2, List.getD_cons_zero, List.getD_cons_succ, toB_b, toI_i, toS_s, toL_l, cond_true, cond_false, List.length_map, List.nil_append]
    have e1 : ([87, 83, UInt8.ofNat (Int.toNat (IntKind.wrap .u8 m.v))] ++ littleB (8 + s.length) 4 : List UInt8) = headS m.v (8 + s.length) := rfl
    rw [e1]
    have hL := headS_len m.v (8 + s.length)
    rw [littleB_length, decide_eq_true (by show 3 + 4 ≤ 1099511627776; decide), cond_true]
    rw [hL, decide_eq_true (by decide), cond_true]
    cases pk with
    | false =>
      simp only [Bool.not_false, cond_true, cond_false]
      rw [decide_eq_true (by rw [List.length_append, hL]; show 1 + 7 + _ ≤ _; omega), cond_true]
    | true =>
      simp only [Bool.not_true, cond_true, cond_false]
      rw [qc]
      simp only [Option.bind_some, Option.bind_none, andB, orB, orB2, List.getD_cons_zero, List.getD_cons_succ, toB_b, toI_i, toS_s, toL_l, cond_true, cond_false, List.length_map]
      rw [decide_eq_true (by rw [List.length_append, hL]; show 1 + 7 + _ ≤ _; omega), cond_true]
end Go.AI
set_option linter.unusedVariables false
set_option linter.unusedSimpArgs false
set_option maxRecDepth 100000
namespace Go.AI
open Go Go.Proofs

noncomputable def mS (m : Mv) (es : List (List PV)) (many n : Int) (acc : List (List PV)) : St :=
  S_celluloidlaw13_mref_L0 many es ((((List.length es) : Nat) : Int)) n [] false 0 0 0 0 0 0 0 acc m.pk m.v m.r m.f m.sz.1 m.sz.2.1 m.sz.2.2.1 m.sz.2.2.2
theorem mS_end (m : Mv) (es : List (List PV)) (many n : Int) (acc : List (List PV)) (hn : decide (n < ((es.length : Nat) : Int)) = false) :
    ∃ r : List PV, rW f_celluloidlaw13_mref [] at_celluloidlaw13_mref_L0 (mS m es many n acc) = some (r, []) ∧ r.getD 9 .u = .b true := by
  unfold mS
  rw [w_celluloidlaw13_mref_L0, hn, cond_false]
  exact ⟨_, rfl, rfl⟩
set_option maxHeartbeats 1000000 in
theorem mS_step (m : Mv) (es : List (List PV)) (many n : Int) (acc : List (List PV)) (u : Hd) (subs : List (List PV)) (h1 : decide (n < ((es.length : Nat) : Int)) = true) (h2 : inB n es.length = true) (h3 : elemAt es n = u.e subs)
    (ha : acc.length ≤ 1000) {r : List PV} {left : Int} {b : Bool} (e : cW f_celluloidlaw13_tref (u.e subs ++ [.i many]) [] = some (r, [])) (e1 : r.getD 55 .u = .i left) (e2 : r.getD 56 .u = .b b) :
    (b = false ∧ ∃ r : List PV, rW f_celluloidlaw13_mref [] at_celluloidlaw13_mref_L0 (mS m es many n acc) = some (r, []) ∧ r.getD 9 .u = .b false) ∨
    (b = true ∧ ∃ y, rW f_celluloidlaw13_mref [] at_celluloidlaw13_mref_L0 (mS m es many n acc) = rW f_celluloidlaw13_mref [] at_celluloidlaw13_mref_L0 (mS m es left (IntKind.wrap .i64 (n + 1)) (acc ++ [y]))) := by
  unfold Hd.e itE e9 Mor.e at e h3
  simp only [List.cons_append, List.nil_append] at e h3
  unfold mS
  rw [w_celluloidlaw13_mref_L0, h1, h2, h3, cond_true, cond_true]
  simp only [List.getD_cons_zero, List.getD_cons_succ, toI_i, toL_l]
  rw [e, Option.bind_some]
  simp only [e1, e2, toB_b, toI_i]
  cases b with
  | false => exact .inl ⟨rfl, _, rfl, rfl⟩
  | true =>
    refine .inr ⟨rfl, ?_⟩
    rw [Bool.not_true, cond_false, room5 ha (by show (1 : Nat) ≤ 10; decide) (by decide), cond_true]
    exact ⟨_, rfl⟩
theorem mref_c (m : Mv) {es : List (List PV)} (hl : es.length ≤ 9223372036854775807) (ho : ∀ x, x ∈ es → PWL Tryz.prog LTag x) :
    ∃ (r : List PV) (b : Bool), cW f_celluloidlaw13_mref (m.e es) [] = some (r, []) ∧ r.getD 9 .u = .b b ∧ (b = true → ∀ x, x ∈ es → SmT x) := by
  have key : ∀ (rest pre acc : List (List PV)) (mn : Int), es = pre ++ rest → 0 ≤ mn → acc.length + mn.toNat ≤ 600 → mn ≤ 600 → (∀ x, x ∈ pre → SmT x) →
      ∃ (r : List PV) (b : Bool), rW f_celluloidlaw13_mref [] at_celluloidlaw13_mref_L0 (mS m es mn pre.length acc) = some (r, []) ∧ r.getD 9 .u = .b b ∧ (b = true → ∀ x, x ∈ es → SmT x) := by
    intro rest
    induction rest with
    | nil =>
      intro pre acc mn he h0 ha h6 hp
      obtain ⟨r, e, e1⟩ := mS_end m es mn pre.length acc (el_end he)
      refine ⟨r, _, e, e1, fun _ x hx => hp x ?_⟩
      rw [he, List.append_nil] at hx; exact hx
    | cons y rest ih =>
      intro pre acc mn he h0 ha h6 hp
      obtain ⟨h1, h2, h3, h4, h5⟩ := el_stepM (id : List PV → List PV) he hl
      rw [List.map_id] at h3
      have hy : PWL Tryz.prog LTag y := ho y (by rw [he]; simp)
      obtain ⟨r, left, b, q, q1, q2, q3, q4⟩ := tref13 mn.toNat mn h0 h6 (Nat.le_refl _) y hy
      obtain ⟨u, subs, hu, _⟩ := tag_of hy
      rw [hu] at q
      rcases mS_step m es mn pre.length acc u subs h1 h2 (h3.trans hu) (by omega) q q1 q2 with ⟨rfl, r', e, e1⟩ | ⟨rfl, z, e⟩
      · exact ⟨r', _, e, e1, fun h => by cases h⟩
      · obtain ⟨hl0, hs⟩ := q4 rfl
        rw [h4] at e
        obtain ⟨r2, b2, p, p1, p2⟩ := ih (pre ++ [y]) (acc ++ [z]) left h5 hl0 (by rw [List.length_append]; show acc.length + 1 + _ ≤ _; omega) (by omega) (fun x hx => by
          rcases List.mem_append.1 hx with hx | hx
          · exact hp x hx
          · rw [List.mem_singleton] at hx; rw [hx]; exact hs)
        exact ⟨r2, b2, e.trans p, p1, p2⟩
  obtain ⟨r, b, p, p1, p2⟩ := key es [] [] 600 rfl (by decide) (by decide) (by decide) (fun x hx => by cases hx)
  refine ⟨r, b, ?_, p1, p2⟩
  rw [← p]
  unfold Mv.e
  rw [w_celluloidlaw13_mref]
  rfl
/-! ### awake -/
theorem inner0 : cM f_movie_inner [.b false, .i 0, .i 0, .i 0, .i 0, .i 0, .i 0, .i 0, .l []] [] = some ([.s [0, 0, 0, 0, 0, 0, 0], .b true], []) := by
  have hr : cM f_movie_raws [.l []] [] = some ([.l [], .b true], []) := by
    rw [m_movie_raws]
    show rM f_movie_raws [] at_movie_raws_L0 (S_movie_raws_L0 [] 0 0 []) = _
    rw [m_movie_raws_L0]
    rfl
  have hj : cM f_tag_Join [.l []] [] = some ([.s [0, 0], .i 0], []) := Join_m (es := []) rfl
  have h1 : cW f_movie_within [.i 0, .i 255, .l (List.set [[PV.i 0]] 0 [PV.i 0])] [] = some ([.b true], []) := c_at 100 (by kernel_rfl)
  have h2 : cW f_field_RightRect [.i 0, .i 0, .i 0, .i 0] [] = some ([.b true], []) := c_at 100 (by kernel_rfl)
  have h3 : cW f_movie_within [.i 0, .i 65535, .l (List.set (List.set [[PV.i 0], [PV.i 0]] 0 [PV.i 0]) 1 [PV.i 0])] [] = some ([.b true], []) := c_at 100 (by kernel_rfl)
  have h4 : cW f_field_PutRect [.s [], .i 0, .i 0, .i 0, .i 0, .i 0] [] = some ([.s [0], .i 0, .i 0], []) := c_at 100 (by kernel_rfl)
  have h5 : cW f_bits_PutLittle [.s [0], .i 0, .i 0, .i 2] [] = some ([.s [0, 0, 0], .i 0, .i 0], []) := c_at 100 (by kernel_rfl)
  have h6 : cW f_bits_PutLittle [.s [0, 0, 0], .i 0, .i 0, .i 2] [] = some ([.s [0, 0, 0, 0, 0], .i 0, .i 0], []) := c_at 100 (by kernel_rfl)
  rw [m_movie_inner, cM_of h1, cM_of h2, cM_of h3]
  simp only [Option.bind_some, Option.bind_none, andB, orB, orB2, List.getD_cons_zero, List.getD_cons_succ, toB_b, toI_i, toS_s, toL_l, cond_true, cond_false, List.length_map, Bool.not_true, hr, cM_of h4, cM_of h5, cM_of h6, hj]
  rfl
theorem enc0 : cM f_movie_Encode [.b false, .i 0, .i 0, .i 0, .i 0, .i 0, .i 0, .i 0, .l []] [] = some ([.s [70, 87, 83, 0, 15, 0, 0, 0, 0, 0, 0, 0, 0, 0, 0], .i 0], []) := by
  have h1 : cW f_bits_PutLittle [.s [], .i 0, .i 15, .i 4] [] = some ([.s [15, 0, 0, 0], .i 0, .i 0], []) := c_at 100 (by kernel_rfl)
  rw [m_movie_Encode, m_movie_Right, inner0]
  simp only [Option.bind_some, Option.bind_none, andB, orB, orB2, List.getD_cons_zero, List.getD_cons_succ, toB_b, toI_i, toS_s, toL_l, cond_true, cond_false, List.length_map]
  rw [show IntKind.wrap .i64 (8 + ((([0, 0, 0, 0, 0, 0, 0] : List UInt8).length : Nat) : Int)) = 15 from by decide, cM_of h1]
  rfl
theorem awake13 : cM f_celluloidlaw13_awake [] [] = some ([.b true], []) := by
  have h1 : cW f_movie_Decode [.s [70, 87, 83, 0, 15, 0, 0, 0, 0, 0, 0, 0, 0, 0, 0]] [] = some ([.b false, .i 0, .i 0, .i 0, .i 0, .i 0, .i 0, .i 0, .l [], .i 0], []) := c_at 100 (by kernel_rfl)
  have h2 : cW f_movie_PutTag [.i 28, .i 3, .i 0, .i 0, .i 0, .i 0, .i 0, .i 0, .i 0, .i 0, .i 0, .i 0, .i 0, .i 0, .i 0, .i 0, .i 0, .i 0, .i 0, .i 0, .i 0, .i 0, .i 0, .i 0, .i 0, .i 0, .i 0, .i 0, .i 0, .i 0, .l [], .l [], .l [], .i 0, .i 0, .i 0, .i 0, .i 0, .i 0, .i 0, .i 0, .i 0, .l [], .l [], .l [], .l [], .l [], .l [], .i 0, .i 0, .i 0, .l [], .i 0, .i 0, .l []] [] = some ([.i 28, .s [3, 0], .i 0], []) := c_at 100 (by kernel_rfl)
  rw [w_celluloidlaw13_awake, enc0]
  simp only [Option.bind_some, Option.bind_none, andB, orB, orB2, List.getD_cons_zero, List.getD_cons_succ, toB_b, toI_i, toS_s, toL_l, cond_true, cond_false, List.length_map, cM_of h1, cM_of h2]
  rfl
end Go.AI
set_option linter.unusedVariables false
set_option linter.unusedSimpArgs false
set_option maxRecDepth 100000
namespace Go.AI
open Go Go.Proofs

theorem or_low {n a b : Nat} (hb : b < 2 ^ n) (h : a * 2 ^ n + b < 9223372036854775808) : bitsOp .or .i64 (b : Int) ((a * 2 ^ n : Nat) : Int) = ((a * 2 ^ n + b : Nat) : Int) := by
  have h2 : (2 : Nat) ^ IntKind.i64.bits = 18446744073709551616 := rfl
  rw [orN (by rw [h2]; omega) (by rw [h2]; omega), Nat.or_comm, ← orN (by rw [h2]; omega) (by rw [h2]; omega), or_add hb h]
theorem four_or {n : Nat} (h : n < 4294967296) (x : UInt8) (v : Int) (l : List UInt8) :
    bitsOp .or .i64 (bitsOp .or .i64 (bitsOp .or .i64 (IntKind.wrap .i64 (bt (x :: (headS v n ++ l)) 4)) (shl .i64 (IntKind.wrap .i64 (bt (x :: (headS v n ++ l)) 5)) 8)) (shl .i64 (IntKind.wrap .i64 (bt (x :: (headS v n ++ l)) 6)) 16)) (shl .i64 (IntKind.wrap .i64 (bt (x :: (headS v n ++ l)) 7)) 24) = ((n : Nat) : Int) := by
  have e4 : bt (x :: (headS v n ++ l)) 4 = ((n % 256 : Nat) : Int) := by
    unfold headS; rw [littleB_4]; show (((UInt8.ofNat (n % 256)).toNat : Nat) : Int) = _; rw [UInt8.toNat_ofNat']; congr 1; omega
  have e5 : bt (x :: (headS v n ++ l)) 5 = ((n / 256 % 256 : Nat) : Int) := by
    unfold headS; rw [littleB_4]; show (((UInt8.ofNat (n / 256 % 256)).toNat : Nat) : Int) = _; rw [UInt8.toNat_ofNat']; congr 1; omega
  have e6 : bt (x :: (headS v n ++ l)) 6 = ((n / 65536 % 256 : Nat) : Int) := by
    unfold headS; rw [littleB_4]; show (((UInt8.ofNat (n / 65536 % 256)).toNat : Nat) : Int) = _; rw [UInt8.toNat_ofNat']; congr 1; omega
  have e7 : bt (x :: (headS v n ++ l)) 7 = ((n / 16777216 % 256 : Nat) : Int) := by
    unfold headS; rw [littleB_4]; show (((UInt8.ofNat (n / 16777216 % 256)).toNat : Nat) : Int) = _; rw [UInt8.toNat_ofNat']; congr 1; omega
  rw [e4, e5, e6, e7]
  rw [wrap64 (by omega) (by omega), wrap64 (by omega) (by omega), wrap64 (by omega) (by omega), wrap64 (by omega) (by omega)]
  have s8 : shl .i64 ((n / 256 % 256 : Nat) : Int) 8 = ((n / 256 % 256 * 2 ^ 8 : Nat) : Int) := shl64 (y := 8) (by omega) (by decide)
  have s16 : shl .i64 ((n / 65536 % 256 : Nat) : Int) 16 = ((n / 65536 % 256 * 2 ^ 16 : Nat) : Int) := shl64 (y := 16) (by omega) (by decide)
  have s24 : shl .i64 ((n / 16777216 % 256 : Nat) : Int) 24 = ((n / 16777216 % 256 * 2 ^ 24 : Nat) : Int) := shl64 (y := 24) (by omega) (by decide)
  rw [s8, s16, s24, or_low (n := 8) (by omega) (by omega), or_low (n := 16) (by omega) (by omega), or_low (n := 24) (by omega) (by omega)]
  omega
theorem heads (x : UInt8) {v : Int} (hv : 0 ≤ v ∧ v ≤ 255) (n : Nat) (l : List UInt8) :
    (x :: (headS v n ++ l)).length = 8 + l.length ∧ bt (x :: (headS v n ++ l)) 0 = (x.toNat : Int) ∧ cutL 1 3 (x :: (headS v n ++ l)) = [87, 83] ∧ IntKind.wrap .i64 (bt (x :: (headS v n ++ l)) 3) = v := by
  refine ⟨by rw [List.length_cons, List.length_append, headS_len]; omega, rfl, rfl, ?_⟩
  have e : bt (x :: (headS v n ++ l)) 3 = v := by
    show (((UInt8.ofNat (Int.toNat (IntKind.wrap .u8 v))).toNat : Nat) : Int) = v
    rw [wrapU8' hv.1 (by omega), UInt8.toNat_ofNat']
    omega
  rw [e, wrap64 (by omega) (by omega)]
theorem inB_lt {i n : Nat} (h : i < n) : inB ((i : Nat) : Int) n = true := by
  unfold inB
  rw [decide_eq_true (by omega), decide_eq_true (by omega)]; rfl
set_option maxHeartbeats 1000000 in
theorem MovieHeads_c (m : Mv) {es : List (List PV)} (hl : es.length ≤ 9223372036854775807) (ho : ∀ x, x ∈ es → PWL Tryz.prog LTag x) : cM f_celluloidlaw13_MovieHeads (m.e es) [] = some ([.b true], []) := by
  obtain ⟨r, b, e, e1, hb⟩ := mref_c m hl ho
  have e := cM_of e
  unfold Mv.e at e ⊢
  rw [w_celluloidlaw13_MovieHeads, e]
  simp only [Option.bind_some, e1, toB_b]
  cases b with
  | false => rw [awake13]; rfl
  | true =>
    obtain ⟨ts, rfl, w⟩ := tg_rows (hb rfl)
    simp only [Bool.not_true, cond_false]
    rcases enc_m m w with h | ⟨hok, s, c, hs, h⟩
    · have h1 := h m.pk
      have h2 := h false
      unfold Mv.e at h1 h2
      rw [h1, h2]
      simp only [Option.bind_some, Option.bind_none, andB, orB, orB2, List.getD_cons_zero, List.getD_cons_succ, toB_b, toI_i, toS_s, toL_l, cond_true, cond_false, List.length_map]
      rw [awake13]; rfl
    · have h1 := h m.pk
      have h2 := h false
      unfold Mv.e at h1 h2
      have hv : 0 ≤ m.v ∧ m.v ≤ 255 := by
        unfold Mv.ok at hok
        rw [Bool.and_eq_true, inB2_iff] at hok
        exact hok.1
      rw [h1, h2]
      obtain ⟨x, l, hS, hx⟩ : ∃ (x : UInt8) (l : List UInt8), (bif m.pk then [67] ++ headS m.v (8 + s.length) ++ c else [70] ++ headS m.v (8 + s.length) ++ s) = x :: (headS m.v (8 + s.length) ++ l) ∧ (((x.toNat : Int) == 67) = m.pk ∧ (m.pk = false → ((x.toNat : Int) == 70) = true)) := by
        cases m.pk with
        | true => exact ⟨67, c, rfl, rfl, fun h => by cases h⟩
        | false => exact ⟨70, s, rfl, rfl, fun _ => rfl⟩
      rw [hS]
      have hT : ([70] ++ headS m.v (8 + s.length) ++ s : List UInt8).length = 8 + s.length := (heads 70 hv (8 + s.length) s).1
      obtain ⟨a1, a2, a3, a4⟩ := heads x hv (8 + s.length) l
      have a5 := four_or (n := 8 + s.length) (by omega) x m.v l
      generalize x :: (headS m.v (8 + s.length) ++ l) = S at a1 a2 a3 a4 a5
      have i0 : inB 0 S.length = true := inB_lt (i := 0) (by omega)
      have i3 : inB 3 S.length = true := inB_lt (i := 3) (by omega)
      have i4 : inB 4 S.length = true := inB_lt (i := 4) (by omega)
      have i5 : inB 5 S.length = true := inB_lt (i := 5) (by omega)
      have i6 : inB 6 S.length = true := inB_lt (i := 6) (by omega)
      have i7 : inB 7 S.length = true := inB_lt (i := 7) (by omega)
      have ok : okB 1 3 S.length = true := by
        unfold okB
        rw [decide_eq_true (by decide), decide_eq_true (by decide), decide_eq_true (by omega)]; rfl
      have g1 : decide (((S.length : Nat) : Int) < 8) = false := decide_eq_false (by omega)
      have g2 : decide (((8 + s.length : Nat) : Int) < 8) = false := decide_eq_false (by omega)
      simp only [Option.bind_some, Option.bind_none, andB, orB, orB2, List.getD_cons_zero, List.getD_cons_succ, toB_b, toI_i, toS_s, toL_l, cond_true, cond_false, List.length_map, hT, i0, i3, i4, i5, i6, i7, ok, g1, g2, a2, a3, a4, a5, hx.1, beq_self_eq_true, show ((0 : Int) != 0) = false from rfl, awake13]
      cases hp : m.pk with
      | true => simp
      | false =>
        rw [hx.2 hp]
        simp
end Go.AI
