/- Records: what is the same, what is right. -/
import Derived.Test.YtbaajplajjfgcaaGreatU09
import Derived.Test.YtbaajplajjfgcaaGreatP08
import Derived.Test.YtbaajplajjfgcaaGreatP02
import Derived.Test.YtbaajplajjfgcaaGreatP07
set_option linter.unusedVariables false
set_option linter.unusedSimpArgs false
set_option maxRecDepth 100000
namespace Go.AI
open Go Go.Proofs

structure Rec where
  kind : Int
  x : Int
  y : Int
  cx : Int
  cy : Int
  left : Int
  right : Int
  line : Int
  fills : List Fill
  strks : List Strk
  deriving DecidableEq
def Rec.e (r : Rec) : List PV := [.i r.kind, .i r.x, .i r.y, .i r.cx, .i r.cy, .i r.left, .i r.right, .i r.line, .l (r.fills.map Fill.e), .l (r.strks.map Strk.e)]
/-- short enough -/
def Rec.sh (r : Rec) : Prop := r.fills.length ≤ 2 ^ 40 ∧ r.strks.length ≤ 2 ^ 40 ∧ Shorts r.fills
def intE (n : Int) : List PV := [.i n]
theorem idxInt_loop {l : List Int} (hl : l.length ≤ 2 ^ 40) (a b : Int) : ∀ (rest pre : List Int), l = pre ++ rest → ∃ n : Int,
    rW f_slices_IndexFunc___int_int_ [t_int, t_int] at_slices_IndexFunc___int_int__L0 (S_slices_IndexFunc___int_int__L0 (l.map intE) l.length pre.length a b) = some ([.i n], [(t_int, [.i a]), (t_int, [.i b])]) ∧ decide (n ≥ 0) = !rest.all (inB2 a b)
  | [], pre, h => by
    refine ⟨-1, ?_, rfl⟩
    rw [w_slices_IndexFunc___int_int__L0]; simp only [el_end h, Option.bind_some, Option.bind_none, andB, orB, orB2, List.getD_cons_zero, List.getD_cons_succ, toB_b, toI_i, toS_s, toL_l, cond_true, cond_false, List.length_map]
  | x :: rest, pre, h => by
    obtain ⟨h1, h2, h3, h4, h5⟩ := el_step intE h hl
    rw [w_slices_IndexFunc___int_int__L0]
    simp only [h1, h2, h3, h4, intE, w_shape_within_1, List.all_cons, Option.bind_some, Option.bind_none, andB, orB, orB2, List.getD_cons_zero, List.getD_cons_succ, toB_b, toI_i, toS_s, toL_l, cond_true, cond_false, List.length_map]
    cases hx : (decide (x < a) || decide (x > b)) with
    | true =>
      refine ⟨_, rfl, ?_⟩
      have : inB2 a b x = false := by
        unfold inB2
        simp only [Bool.or_eq_true, decide_eq_true_eq] at hx
        simp; omega
      rw [this]; simp
    | false =>
      have : inB2 a b x = true := by
        unfold inB2
        simp only [Bool.or_eq_false_iff, decide_eq_false_iff_not] at hx
        simp; omega
      rw [this, cond_false, Bool.true_and]
      exact idxInt_loop hl a b rest _ h5
theorem within_c {l : List Int} (hl : l.length ≤ 2 ^ 40) (a b : Int) : cW f_shape_within [.i a, .i b, .l (l.map intE)] [] = some ([.b (l.all (inB2 a b))], []) := by
  obtain ⟨n, h1, h2⟩ := idxInt_loop hl a b l [] rfl
  rw [w_shape_within]
  simp only [List.length_cons, List.length_nil]
  rw [w_slices_ContainsFunc___int_int_, w_slices_IndexFunc___int_int_]
  simp only [List.length_map]
  rw [show (0 : Int) = ((([] : List Int).length : Nat) : Int) from rfl, h1]
  simp only [Option.bind_some, Option.bind_none, andB, orB, orB2, List.getD_cons_zero, List.getD_cons_succ, toB_b, toI_i, toS_s, toL_l, cond_true, cond_false, List.length_map]
  rw [show decide (n ≥ ((([] : List Int).length : Nat) : Int)) = decide (n ≥ 0) from rfl, h2, Bool.not_not]
theorem within1_c (a b x : Int) : cW f_shape_within [.i a, .i b, .l (List.set [[PV.i 0]] 0 [PV.i x])] [] = some ([.b (inB2 a b x)], []) := by
  have := within_c (l := [x]) (by show (1 : Nat) ≤ _; decide) a b
  simpa [intE] using this
theorem within2_c (a b x y : Int) : cW f_shape_within [.i a, .i b, .l (List.set (List.set [[PV.i 0], [PV.i 0]] 0 [PV.i x]) 1 [PV.i y])] [] = some ([.b (inB2 a b x && inB2 a b y)], []) := by
  have := within_c (l := [x, y]) (by show (2 : Nat) ≤ _; decide) a b
  simpa [intE] using this
theorem within4_c (a b x y z u : Int) : cW f_shape_within [.i a, .i b, .l (List.set (List.set (List.set (List.set [[PV.i 0], [PV.i 0], [PV.i 0], [PV.i 0]] 0 [PV.i x]) 1 [PV.i y]) 2 [PV.i z]) 3 [PV.i u])] [] = some ([.b (inB2 a b x && (inB2 a b y && (inB2 a b z && inB2 a b u)))], []) := by
  have := within_c (l := [x, y, z, u]) (by show (4 : Nat) ≤ _; decide) a b
  simpa [intE] using this
/-! ### the same -/
theorem eqStrks_loop {l m : List Strk} (hl : l.length ≤ 2 ^ 40) : ∀ (r r' p p' : List Strk), l = p ++ r → m = p' ++ r' → p.length = p'.length → r.length = r'.length →
    rW f_slices_Equal___celluloid_api_Stroke_celluloid_api_Stroke_ [] at_slices_Equal___celluloid_api_Stroke_celluloid_api_Stroke__L0 (S_slices_Equal___celluloid_api_Stroke_celluloid_api_Stroke__L0 (l.map Strk.e) (m.map Strk.e) l.length p.length) = some ([.b (decide (r = r'))], [])
  | [], [], p, p', h, h', hp, hr => by
    rw [w_slices_Equal___celluloid_api_Stroke_celluloid_api_Stroke__L0]; simp only [el_end h, Option.bind_some, Option.bind_none, andB, orB, orB2, List.getD_cons_zero, List.getD_cons_succ, toB_b, toI_i, toS_s, toL_l, cond_true, cond_false, List.length_map]; rfl
  | [], y :: r', p, p', h, h', hp, hr => by simp at hr
  | x :: r, [], p, p', h, h', hp, hr => by simp at hr
  | x :: r, y :: r', p, p', h, h', hp, hr => by
    have hm : m.length ≤ 2 ^ 40 := by rw [h']; rw [h] at hl; simp at hl hr ⊢; omega
    obtain ⟨h1, h2, h3, h4, h5⟩ := el_step Strk.e h hl
    obtain ⟨_, k2, k3, _, k5⟩ := el_step Strk.e h' hm
    rw [← hp] at k2 k3
    rw [w_slices_Equal___celluloid_api_Stroke_celluloid_api_Stroke__L0]
    simp only [h1, h2, h3, h4, k2, k3, Strk.e, Option.bind_some, Option.bind_none, andB, orB, orB2, List.getD_cons_zero, List.getD_cons_succ, toB_b, toI_i, toS_s, toL_l, cond_true, cond_false, List.length_map]
    rw [strk_eq, list_eq_step']
    cases h : decide (x = y) with
    | false => simp only [Bool.not_false, cond_true, Bool.false_and]
    | true =>
      rw [Bool.not_true, cond_false, Bool.true_and]
      exact eqStrks_loop hl r r' _ _ h5 k5 (by simp [hp]) (by simpa using hr)
theorem eqStrks_c {l m : List Strk} (hl : l.length ≤ 2 ^ 40) : cW f_slices_Equal___celluloid_api_Stroke_celluloid_api_Stroke_ [.l (l.map Strk.e), .l (m.map Strk.e)] [] = some ([.b (decide (l = m))], []) := by
  rw [w_slices_Equal___celluloid_api_Stroke_celluloid_api_Stroke_]
  simp only [List.length_map]
  by_cases h : l.length = m.length
  · rw [show (((l.length : Nat) : Int) != ((m.length : Nat) : Int)) = false by simp [h], cond_false]
    exact eqStrks_loop hl l m [] [] rfl rfl rfl h
  · rw [show (((l.length : Nat) : Int) != ((m.length : Nat) : Int)) = true by simp [h]; omega, cond_true]
    rw [decide_eq_false (fun e => h (by rw [e]))]
def numsEq (a b : Rec) : Bool := (a.kind == b.kind) && ((a.x == b.x) && ((a.y == b.y) && ((a.cx == b.cx) && ((a.cy == b.cy) && ((a.left == b.left) && ((a.right == b.right) && (a.line == b.line)))))))
theorem rec_eq (a b : Rec) : decide (a = b) = (numsEq a b && (decide (a.fills = b.fills) && decide (a.strks = b.strks))) := by
  obtain ⟨a1, a2, a3, a4, a5, a6, a7, a8, a9, a10⟩ := a; obtain ⟨b1, b2, b3, b4, b5, b6, b7, b8, b9, b10⟩ := b
  unfold numsEq
  rw [Bool.eq_iff_iff]; simp [and_assoc]
theorem same_loop (a b : Rec) (ha : a.sh) : ∀ (r r' p p' : List Fill), a.fills = p ++ r → b.fills = p' ++ r' → p.length = p'.length → r.length = r'.length →
    rW f_shape_same [] at_shape_same_L0 (S_shape_same_L0 a.fills.length p.length a.kind a.x a.y a.cx a.cy a.left a.right a.line (a.fills.map Fill.e) (a.strks.map Strk.e) b.kind b.x b.y b.cx b.cy b.left b.right b.line (b.fills.map Fill.e) (b.strks.map Strk.e)) = some ([.b (decide (r = r') && numsEq a b)], [])
  | [], [], p, p', h, h', hp, hr => by
    rw [w_shape_same_L0]; simp only [el_end h, Option.bind_some, Option.bind_none, andB, orB, orB2, List.getD_cons_zero, List.getD_cons_succ, toB_b, toI_i, toS_s, toL_l, cond_true, cond_false, List.length_map]; rfl
  | [], y :: r', p, p', h, h', hp, hr => by simp at hr
  | x :: r, [], p, p', h, h', hp, hr => by simp at hr
  | x :: r, y :: r', p, p', h, h', hp, hr => by
    have hm : b.fills.length ≤ 2 ^ 40 := by have hl := ha.1; rw [h']; rw [h] at hl; simp at hl hr ⊢; omega
    obtain ⟨h1, h2, h3, h4, h5⟩ := el_step Fill.e h ha.1
    obtain ⟨_, k2, k3, _, k5⟩ := el_step Fill.e h' hm
    rw [← hp] at k2 k3
    have e := sameFill_c x y (ha.2.2 x (by rw [h]; simp))
    simp only [Fill.e, List.cons_append, List.nil_append] at e
    rw [w_shape_same_L0]
    simp only [h1, h2, h3, h4, k2, k3, Fill.e, e, Option.bind_some, Option.bind_none, andB, orB, orB2, List.getD_cons_zero, List.getD_cons_succ, toB_b, toI_i, toS_s, toL_l, cond_true, cond_false, List.length_map]
    rw [list_eq_step']
    cases h : decide (x = y) with
    | false => simp only [Bool.not_false, cond_true, Bool.false_and]
    | true =>
      rw [Bool.not_true, cond_false, Bool.true_and]
      exact same_loop a b ha r r' _ _ h5 k5 (by simp [hp]) (by simpa using hr)
theorem same_c (a b : Rec) (ha : a.sh) : cW f_shape_same (a.e ++ b.e) [] = some ([.b (decide (a = b))], []) := by
  simp only [Rec.e, List.cons_append, List.nil_append]
  rw [w_shape_same, rec_eq]
  simp only [eqStrks_c ha.2.1, Option.bind_some, Option.bind_none, andB, orB, orB2, List.getD_cons_zero, List.getD_cons_succ, toB_b, toI_i, toS_s, toL_l, cond_true, cond_false, List.length_map]
  by_cases h : a.fills.length = b.fills.length
  · rw [show (((a.fills.length : Nat) : Int) != ((b.fills.length : Nat) : Int)) = false by simp [h], Bool.false_or]
    cases hs : decide (a.strks = b.strks) with
    | false => simp only [Bool.not_false, cond_true, Bool.and_false]
    | true =>
      rw [Bool.not_true, cond_false, Bool.and_true, Bool.and_comm]
      exact same_loop a b ha a.fills b.fills [] [] rfl rfl rfl h
  · rw [show (((a.fills.length : Nat) : Int) != ((b.fills.length : Nat) : Int)) = true by simp [h]; omega, Bool.true_or, cond_true]
    rw [decide_eq_false (p := a.fills = b.fills) (fun e => h (by rw [e])), Bool.false_and, Bool.and_false]
def Shs (l : List Rec) : Prop := ∀ r, r ∈ l → r.sh
end Go.AI
set_option linter.unusedVariables false
set_option linter.unusedSimpArgs false
set_option maxRecDepth 100000
namespace Go.AI
open Go Go.Proofs

def smallR (l : List Rec) : Bool := (l.take 600).all (fun r => smallB r.fills r.strks) && decide (l.length ≤ 600)
theorem small9_loop {l : List Rec} (hl : l.length ≤ 9223372036854775807) (hf : ∀ r, r ∈ l → r.fills.length ≤ 9223372036854775807) : ∀ (rest pre : List Rec), l = pre ++ rest → pre.length ≤ 600 →
    rW f_celluloidref09_Small [] at_celluloidref09_Small_L0 (S_celluloidref09_Small_L0 (l.map Rec.e) 600 pre.length) = some ([.b ((rest.take (600 - pre.length)).all (fun r => smallB r.fills r.strks) && decide (l.length ≤ 600))], [])
  | [], pre, h, hp => by
    rw [w_celluloidref09_Small_L0]
    simp only [el_end h, Option.bind_some, Option.bind_none, andB, orB, orB2, List.getD_cons_zero, List.getD_cons_succ, toB_b, toI_i, toS_s, toL_l, cond_true, cond_false, List.length_map]
    rw [show decide (((l.length : Nat) : Int) ≤ 600) = decide (l.length ≤ 600) by simp; omega]
    simp
  | x :: rest, pre, h, hp => by
    obtain ⟨h1, h2, h3, h4, h5⟩ := el_stepM Rec.e h hl
    have e := small_c (l := x.fills) (m := x.strks) (hf x (by rw [h]; simp))
    rw [w_celluloidref09_Small_L0]
    simp only [h1, h2, h3, h4, Rec.e, e, Option.bind_some, Option.bind_none, andB, orB, orB2, List.getD_cons_zero, List.getD_cons_succ, toB_b, toI_i, toS_s, toL_l, cond_true, cond_false, List.length_map]
    by_cases hx : pre.length < 600
    · rw [decide_eq_true (p := ((pre.length : Nat) : Int) < 600) (by omega)]
      rw [show 600 - pre.length = (600 - (pre ++ [x]).length) + 1 by simp; omega, List.take_succ_cons, List.all_cons]
      cases hsm : smallB x.fills x.strks with
      | true =>
        simp only [Bool.true_and, Bool.and_true, Bool.true_and, Bool.and_false, Bool.false_and, Bool.or_true, Bool.true_or, Bool.or_false, Bool.false_or, Bool.not_true, Bool.not_false, Option.bind_some, Option.bind_none, andB, orB, orB2, List.getD_cons_zero, List.getD_cons_succ, toB_b, toI_i, toS_s, toL_l, cond_true, cond_false, List.length_map]
        exact small9_loop hl hf rest _ h5 (by simp; omega)
      | false => simp only [Bool.false_and, Bool.and_true, Bool.true_and, Bool.and_false, Bool.false_and, Bool.or_true, Bool.true_or, Bool.or_false, Bool.false_or, Bool.not_true, Bool.not_false, Option.bind_some, Option.bind_none, andB, orB, orB2, List.getD_cons_zero, List.getD_cons_succ, toB_b, toI_i, toS_s, toL_l, cond_true, cond_false, List.length_map]
    · rw [decide_eq_false (p := ((pre.length : Nat) : Int) < 600) (by omega), show 600 - pre.length = 0 by omega]
      simp only [List.take_zero, List.all_nil, Bool.and_true, Bool.true_and, Bool.and_false, Bool.false_and, Bool.or_true, Bool.true_or, Bool.or_false, Bool.false_or, Bool.not_true, Bool.not_false, Option.bind_some, Option.bind_none, andB, orB, orB2, List.getD_cons_zero, List.getD_cons_succ, toB_b, toI_i, toS_s, toL_l, cond_true, cond_false, List.length_map]
      rw [show decide (((l.length : Nat) : Int) ≤ 600) = decide (l.length ≤ 600) by simp; omega]
theorem small9_c {l : List Rec} (hl : l.length ≤ 9223372036854775807) (hf : ∀ r, r ∈ l → r.fills.length ≤ 9223372036854775807) : cW f_celluloidref09_Small [.l (l.map Rec.e), .i 600] [] = some ([.b (smallR l)], []) := by
  rw [w_celluloidref09_Small]
  exact small9_loop hl hf l [] rfl (by decide)
theorem smallR_r {l : List Rec} (h : smallR l = true) : l.length ≤ 600 ∧ Shs l := by
  unfold smallR at h
  simp only [Bool.and_eq_true, decide_eq_true_eq] at h
  refine ⟨h.2, fun r hr => ?_⟩
  have e := h.1
  rw [List.take_of_length_le h.2] at e
  obtain ⟨a, b, c⟩ := smallB_r (List.all_eq_true.1 e r hr)
  exact ⟨Nat.le_trans (Nat.le_of_lt b) (by decide), Nat.le_trans (Nat.le_of_lt c) (by decide), fun f hf => Nat.le_trans (a f hf) (by decide)⟩
end Go.AI
set_option linter.unusedVariables false
set_option linter.unusedSimpArgs false
set_option maxRecDepth 100000
namespace Go.AI
open Go Go.Proofs

def noSt (r : Rec) : Prop := r.left = 0 ∧ r.right = 0 ∧ r.line = 0
def noLi (r : Rec) : Prop := r.fills.length = 0 ∧ r.strks.length = 0
def noCt (r : Rec) : Prop := r.cx = 0 ∧ r.cy = 0
def noPt (r : Rec) : Prop := r.x = 0 ∧ r.y = 0
def inR (a b n : Int) : Prop := a ≤ n ∧ n ≤ b
instance (r : Rec) : Decidable (noSt r) := by unfold noSt; infer_instance
instance (r : Rec) : Decidable (noLi r) := by unfold noLi; infer_instance
instance (r : Rec) : Decidable (noCt r) := by unfold noCt; infer_instance
instance (r : Rec) : Decidable (noPt r) := by unfold noPt; infer_instance
instance (a b n : Int) : Decidable (inR a b n) := by unfold inR; infer_instance
def recB (r : Rec) (f s : Int) : Bool :=
  bif r.kind == 1 then decide (noSt r ∧ noLi r ∧ noCt r ∧ inR (-1048576) 1048576 r.x ∧ inR (-1048576) 1048576 r.y)
  else bif r.kind == 2 then decide (noLi r ∧ noCt r ∧ noPt r ∧ (r.left ≥ 0 ∨ r.right ≥ 0 ∨ r.line ≥ 0) ∧ inR (-1) f r.left ∧ inR (-1) f r.right ∧ inR (-1) s r.line)
  else bif r.kind == 3 then decide (noSt r ∧ noCt r ∧ noPt r) && listsB r.fills r.strks
  else bif r.kind == 4 then decide (noSt r ∧ noLi r ∧ noCt r ∧ inR (-65536) 65535 r.x ∧ inR (-65536) 65535 r.y)
  else bif r.kind == 5 then decide (noSt r ∧ noLi r ∧ inR (-65536) 65535 r.x ∧ inR (-65536) 65535 r.y ∧ inR (-65536) 65535 r.cx ∧ inR (-65536) 65535 r.cy)
  else false
theorem inR_iff (a b n : Int) : inB2 a b n = true ↔ inR a b n := by unfold inB2 inR; simp
theorem rec_iff (r : Rec) (k x y cx cy l t n : Int) (f : List Fill) (s : List Strk) : r = ⟨k, x, y, cx, cy, l, t, n, f, s⟩ ↔ r.kind = k ∧ r.x = x ∧ r.y = y ∧ r.cx = cx ∧ r.cy = cy ∧ r.left = l ∧ r.right = t ∧ r.line = n ∧ r.fills = f ∧ r.strks = s := by
  obtain ⟨a1, a2, a3, a4, a5, a6, a7, a8, a9, a10⟩ := r
  simp
theorem sound_c (r : Rec) (h : r.sh) (f s : Int) : cW f_shape_sound (r.e ++ [.i f, .i s]) [] = some ([.b (recB r f s)], []) := by
  have e1 := same_c r ⟨r.kind, r.x, r.y, 0, 0, 0, 0, 0, [], []⟩ h
  have e2 := same_c r ⟨r.kind, 0, 0, 0, 0, r.left, r.right, r.line, [], []⟩ h
  have e3 := same_c r ⟨r.kind, 0, 0, 0, 0, 0, 0, 0, r.fills, r.strks⟩ h
  have e5 := same_c r ⟨r.kind, r.x, r.y, r.cx, r.cy, 0, 0, 0, [], []⟩ h
  simp only [Rec.e, List.cons_append, List.nil_append, List.map_nil] at e1 e2 e3 e5 ⊢
  rw [w_shape_sound]
  simp only [within1_c, within2_c, within4_c, right_c h.1 h.2.1 h.2.2, e1, e2, e3, e5, Option.bind_some, Option.bind_none, andB, orB, orB2, List.getD_cons_zero, List.getD_cons_succ, toB_b, toI_i, toS_s, toL_l, cond_true, cond_false, List.length_map]
  unfold recB
  cases k1 : (r.kind == 1) with
  | true =>
    simp only [cond_true]
    refine congrArg (fun b => some ([PV.b b], ([] : List BX))) ?_
    rw [Bool.eq_iff_iff]
    simp only [Bool.and_eq_true, decide_eq_true_eq, inR_iff, rec_iff, List.length_eq_zero_iff]
    simp only [noSt, noLi, noCt, List.length_eq_zero_iff]
    constructor
    · rintro ⟨⟨a, b⟩, c⟩; obtain ⟨_, _, _, c1, c2, c3, c4, c5, c6, c7⟩ := c; exact ⟨⟨c3, c4, c5⟩, ⟨c6, c7⟩, ⟨c1, c2⟩, a, b⟩
    · rintro ⟨⟨c3, c4, c5⟩, ⟨c6, c7⟩, ⟨c1, c2⟩, a, b⟩; exact ⟨⟨a, b⟩, trivial, trivial, trivial, c1, c2, c3, c4, c5, c6, c7⟩
  | false =>
    simp only [cond_false]
    cases k2 : (r.kind == 2) with
    | true =>
      simp only [cond_true]
      refine congrArg (fun b => some ([PV.b b], ([] : List BX))) ?_
      rw [Bool.eq_iff_iff]
      have hm : ((bif decide (r.line > bif decide (r.right > r.left) then r.right else r.left) then r.line else bif decide (r.right > r.left) then r.right else r.left) ≥ 0) ↔ (r.left ≥ 0 ∨ r.right ≥ 0 ∨ r.line ≥ 0) := by
        simp only [Bool.cond_decide]
        split <;> split <;> omega
      simp only [Bool.and_eq_true, decide_eq_true_eq, inR_iff, rec_iff, List.length_eq_zero_iff, hm]
      simp only [noLi, noCt, noPt, List.length_eq_zero_iff]
      constructor
      · rintro ⟨⟨a, b⟩, c, d, q⟩; obtain ⟨_, q1, q2, q3, q4, _, _, _, q6, q7⟩ := q; exact ⟨⟨q6, q7⟩, ⟨q3, q4⟩, ⟨q1, q2⟩, d, a, b, c⟩
      · rintro ⟨⟨q6, q7⟩, ⟨q3, q4⟩, ⟨q1, q2⟩, d, a, b, c⟩; exact ⟨⟨a, b⟩, c, d, trivial, q1, q2, q3, q4, trivial, trivial, trivial, q6, q7⟩
    | false =>
      simp only [cond_false]
      cases k3 : (r.kind == 3) with
      | true =>
        simp only [cond_true]
        refine congrArg (fun b => some ([PV.b b], ([] : List BX))) ?_
        rw [Bool.eq_iff_iff]
        simp only [Bool.and_eq_true, decide_eq_true_eq, rec_iff]
        simp only [noSt, noCt, noPt]
        constructor
        · rintro ⟨a, q⟩; obtain ⟨_, q1, q2, q3, q4, q5, q6, q7, _, _⟩ := q; exact ⟨⟨⟨q5, q6, q7⟩, ⟨q3, q4⟩, q1, q2⟩, a⟩
        · rintro ⟨⟨⟨q5, q6, q7⟩, ⟨q3, q4⟩, q1, q2⟩, a⟩; exact ⟨a, trivial, q1, q2, q3, q4, q5, q6, q7, trivial, trivial⟩
      | false =>
        simp only [cond_false]
        cases k4 : (r.kind == 4) with
        | true =>
          simp only [cond_true]
          refine congrArg (fun b => some ([PV.b b], ([] : List BX))) ?_
          rw [Bool.eq_iff_iff]
          simp only [Bool.and_eq_true, decide_eq_true_eq, inR_iff, rec_iff, List.length_eq_zero_iff]
          simp only [noSt, noLi, noCt, List.length_eq_zero_iff]
          constructor
          · rintro ⟨⟨a, b⟩, c⟩; obtain ⟨_, _, _, c1, c2, c3, c4, c5, c6, c7⟩ := c; exact ⟨⟨c3, c4, c5⟩, ⟨c6, c7⟩, ⟨c1, c2⟩, a, b⟩
          · rintro ⟨⟨c3, c4, c5⟩, ⟨c6, c7⟩, ⟨c1, c2⟩, a, b⟩; exact ⟨⟨a, b⟩, trivial, trivial, trivial, c1, c2, c3, c4, c5, c6, c7⟩
        | false =>
          simp only [cond_false]
          cases k5 : (r.kind == 5) with
          | true =>
            simp only [cond_true]
            refine congrArg (fun b => some ([PV.b b], ([] : List BX))) ?_
            rw [Bool.eq_iff_iff]
            simp only [Bool.and_eq_true, decide_eq_true_eq, inR_iff, rec_iff, List.length_eq_zero_iff]
            simp only [noSt, noLi, List.length_eq_zero_iff]
            constructor
            · rintro ⟨⟨a, b, c, d⟩, q⟩; obtain ⟨_, _, _, _, _, c3, c4, c5, c6, c7⟩ := q; exact ⟨⟨c3, c4, c5⟩, ⟨c6, c7⟩, a, b, c, d⟩
            · rintro ⟨⟨c3, c4, c5⟩, ⟨c6, c7⟩, a, b, c, d⟩; exact ⟨⟨a, b, c, d⟩, trivial, trivial, trivial, trivial, trivial, c3, c4, c5, c6, c7⟩
          | false => rfl
/-! ### lists of records -/
def kindB (r : Rec) (kind : Int) : Bool := !((r.kind == 3) && (kind != 0)) && !((r.kind == 2) && (kind == 2))
def nextF (r : Rec) (f s : Int) : Int × Int := bif r.kind == 3 then ((r.fills.length : Int), (r.strks.length : Int)) else (f, s)
def recsB : Int → Int → List Rec → Int → Bool
  | _, _, [], _ => true
  | f, s, r :: l, kind => (recB r f s && kindB r kind) && recsB (nextF r f s).1 (nextF r f s).2 l kind
def rightRecs (f s : Int) (l : List Rec) (kind : Int) : Bool := inB2 0 15 f && (inB2 0 15 s && (inB2 0 2 kind && (decide (((l.length : Nat) : Int) ≤ 512) && recsB f s l kind)))
theorem rr_loop {l : List Rec} (hl : l.length ≤ 2 ^ 40) (hs : Shs l) (kind : Int) : ∀ (rest pre : List Rec) (f s : Int), l = pre ++ rest →
    rW f_shape_RightRecords [] at_shape_RightRecords_L0 (S_shape_RightRecords_L0 f s kind (l.map Rec.e) l.length pre.length) = some ([.b (recsB f s rest kind)], [])
  | [], pre, f, s, h => by
    rw [w_shape_RightRecords_L0]; simp only [el_end h, Option.bind_some, Option.bind_none, andB, orB, orB2, List.getD_cons_zero, List.getD_cons_succ, toB_b, toI_i, toS_s, toL_l, cond_true, cond_false, List.length_map]; rfl
  | x :: rest, pre, f, s, h => by
    obtain ⟨h1, h2, h3, h4, h5⟩ := el_step Rec.e h hl
    have e := sound_c x (hs x (by rw [h]; simp)) f s
    simp only [Rec.e, List.cons_append, List.nil_append] at e
    have ih := rr_loop hl hs kind rest _ (nextF x f s).1 (nextF x f s).2 h5
    rw [w_shape_RightRecords_L0]
    simp only [h1, h2, h3, h4, Rec.e, e, Option.bind_some, Option.bind_none, andB, orB, orB2, List.getD_cons_zero, List.getD_cons_succ, toB_b, toI_i, toS_s, toL_l, cond_true, cond_false, List.length_map]
    unfold recsB
    cases hr : recB x f s with
    | false => rfl
    | true =>
      have hk : kindB x kind = !((x.kind == 3 && kind != 0) || (x.kind == 2 && kind == 2)) := by unfold kindB; rw [Bool.not_or]
      rw [hk]
      unfold nextF at ih ⊢
      cases k3 : (x.kind == 3) with
      | true =>
        have k2 : (x.kind == 2) = false := by simp only [beq_iff_eq] at k3; rw [k3]; rfl
        rw [k3] at ih
        simp only [k2, Bool.and_true, Bool.true_and, Bool.and_false, Bool.false_and, Bool.or_true, Bool.true_or, Bool.or_false, Bool.false_or, Bool.not_true, Bool.not_false, Option.bind_some, Option.bind_none, andB, orB, orB2, List.getD_cons_zero, List.getD_cons_succ, toB_b, toI_i, toS_s, toL_l, cond_true, cond_false, List.length_map] at ih ⊢
        cases (kind != 0) with
        | true => rfl
        | false => simpa using ih
      | false =>
        rw [k3] at ih
        simp only [Bool.and_true, Bool.true_and, Bool.and_false, Bool.false_and, Bool.or_true, Bool.true_or, Bool.or_false, Bool.false_or, Bool.not_true, Bool.not_false, Option.bind_some, Option.bind_none, andB, orB, orB2, List.getD_cons_zero, List.getD_cons_succ, toB_b, toI_i, toS_s, toL_l, cond_true, cond_false, List.length_map] at ih ⊢
        cases (x.kind == 2) with
        | true =>
          simp only [Bool.and_true, Bool.true_and, Bool.and_false, Bool.false_and, Bool.or_true, Bool.true_or, Bool.or_false, Bool.false_or, Bool.not_true, Bool.not_false, Option.bind_some, Option.bind_none, andB, orB, orB2, List.getD_cons_zero, List.getD_cons_succ, toB_b, toI_i, toS_s, toL_l, cond_true, cond_false, List.length_map]
          cases (kind == 2) with
          | true => rfl
          | false => simpa using ih
        | false => simpa using ih
theorem rightRecs_c {l : List Rec} (hl : l.length ≤ 2 ^ 40) (hs : Shs l) (f s kind : Int) : cW f_shape_RightRecords [.i f, .i s, .l (l.map Rec.e), .i kind] [] = some ([.b (rightRecs f s l kind)], []) := by
  have e := rr_loop hl hs kind l [] f s rfl
  rw [w_shape_RightRecords]
  simp only [within2_c, within1_c, Option.bind_some, Option.bind_none, andB, orB, orB2, List.getD_cons_zero, List.getD_cons_succ, toB_b, toI_i, toS_s, toL_l, cond_true, cond_false, List.length_map]
  unfold rightRecs
  cases inB2 0 15 f with
  | false => rfl
  | true =>
    cases inB2 0 15 s with
    | false => rfl
    | true =>
      cases inB2 0 2 kind with
      | false => rfl
      | true =>
        simp only [Bool.and_true, Bool.true_and, Bool.and_false, Bool.false_and, Bool.or_true, Bool.true_or, Bool.or_false, Bool.false_or, Bool.not_true, Bool.not_false, Option.bind_some, Option.bind_none, andB, orB, orB2, List.getD_cons_zero, List.getD_cons_succ, toB_b, toI_i, toS_s, toL_l, cond_true, cond_false, List.length_map]
        by_cases h : ((l.length : Nat) : Int) ≤ 512
        · rw [decide_eq_false (p := ((l.length : Nat) : Int) > 512) (by omega), decide_eq_true h]
          exact e
        · rw [decide_eq_true (p := ((l.length : Nat) : Int) > 512) (by omega), decide_eq_false h]; rfl
end Go.AI
set_option linter.unusedVariables false
set_option linter.unusedSimpArgs false
set_option maxRecDepth 100000
namespace Go.AI
open Go Go.Proofs

/-- a reader of records -/
structure RS where
  σ : Rs
  fs : Int
  ss : Int
  a : Int
  b : Int
  l : List Rec
def RS.ok (x : RS) : Prop := LenOk x.σ ∧ x.l.length ≤ 100000
end Go.AI
set_option linter.unusedVariables false
set_option linter.unusedSimpArgs false
set_option maxRecDepth 100000
namespace Go.AI
open Go Go.Proofs

def bitB (f : Int) (k : Nat) : Bool := f / 2 ^ k % 2 == 1
end Go.AI
set_option linter.unusedVariables false
set_option linter.unusedSimpArgs false
set_option maxRecDepth 100000
namespace Go.AI
open Go Go.Proofs

/-- what went on well went on forward -/
def Adv (σ τ : Rs) : Prop := τ.2.2 = 0 → σ.2.2 = 0 ∧ τ.1 = σ.1 ∧ σ.2.1 ≤ τ.2.1
theorem Adv.refl (σ : Rs) : Adv σ σ := fun h => ⟨h, rfl, Int.le_refl _⟩
theorem Adv.trans {σ τ ρ : Rs} (h : Adv σ τ) (k : Adv τ ρ) : Adv σ ρ := fun e => by
  obtain ⟨a, b, c⟩ := k e
  obtain ⟨a', b', c'⟩ := h a
  exact ⟨a', b.trans b', Int.le_trans c' c⟩
end Go.AI
set_option linter.unusedVariables false
set_option linter.unusedSimpArgs false
set_option maxRecDepth 100000
namespace Go.AI
open Go Go.Proofs

end Go.AI
set_option linter.unusedVariables false
set_option linter.unusedSimpArgs false
set_option maxRecDepth 100000
namespace Go.AI
open Go Go.Proofs

end Go.AI
set_option linter.unusedVariables false
set_option linter.unusedSimpArgs false
set_option maxRecDepth 100000
namespace Go.AI
open Go Go.Proofs

/-- a shape's parts: the number, the frame, the fills, the strokes, the records -/
abbrev T9 := Int × I4 × List Fill × List Strk × List Rec
def e9 (t : T9) : List PV := [.i t.1, .i t.2.1.1, .i t.2.1.2.1, .i t.2.1.2.2.1, .i t.2.1.2.2.2, .l (t.2.2.1.map Fill.e), .l (t.2.2.2.1.map Strk.e), .l (t.2.2.2.2.map Rec.e)]
/-- short enough -/
def sh9 (t : T9) : Prop := t.2.2.1.length ≤ 2 ^ 40 ∧ Shorts t.2.2.1 ∧ t.2.2.2.1.length ≤ 2 ^ 40 ∧ t.2.2.2.2.length ≤ 2 ^ 40 ∧ Shs t.2.2.2.2
end Go.AI
set_option linter.unusedVariables false
set_option linter.unusedSimpArgs false
set_option maxRecDepth 100000
namespace Go.AI
open Go Go.Proofs

theorem plain_w {w : Wt} (hw : WOk w) (hl : w.1.length ≤ 500000000) {v n : Nat} (hn : n ≤ 31) (hv : v < 2 ^ n) (a b : Int) :
    cW f___celluloid_shape_writer__plain [.u, .i (v : Int), .i (n : Int)] [(t_shape_writer, [PV.s (w).1, PV.i (((w).2 : Nat) : Int), .i a, .i b])] = some ([], [(t_shape_writer, [PV.s (putN v n w).1, PV.i (((putN v n w).2 : Nat) : Int), .i a, .i b])]) := by
  have hp : 2 ^ n ≤ 2 ^ 31 := Nat.pow_le_pow_right (by decide) hn
  have hp : 2 ^ n ≤ 2147483648 := hp
  rw [w___celluloid_shape_writer__plain, (putPlain_ans hl w.2 v n (by omega)).c, putPlain_ok hw hn hv]
  rfl
theorem signed_loop {l : List Int} (hI : ∀ v, v ∈ l → I64 v) {n : Nat} (hn : n ≤ 31) (hv : ∀ v, v ∈ l → widthN v ≤ n) (hll : l.length ≤ 100) (a b : Int) : ∀ (rest pre : List Int) (w : Wt), l = pre ++ rest → WOk w → w.1.length + 31 * rest.length ≤ 500000000 →
    rW f___celluloid_shape_writer__signed [t_shape_writer] at___celluloid_shape_writer__signed_L0 (S___celluloid_shape_writer__signed_L0 n (l.map intE) l.length pre.length w.1 w.2 a b) = some ([], [(t_shape_writer, [PV.s (numsW n rest w).1, PV.i (((numsW n rest w).2 : Nat) : Int), .i a, .i b])])
  | [], pre, w, h, hw, hl => by
    rw [w___celluloid_shape_writer__signed_L0]; simp only [el_end h, Option.bind_some, Option.bind_none, andB, orB, orB2, List.getD_cons_zero, List.getD_cons_succ, toB_b, toI_i, toS_s, toL_l, cond_true, cond_false, List.length_map]; rfl
  | v :: rest, pre, w, h, hw, hl => by
    obtain ⟨h1, h2, h3, h4, h5⟩ := el_step intE h (Nat.le_trans hll (by decide))
    have hm : v ∈ l := by rw [h]; simp
    obtain ⟨o1, _, _, _, o5⟩ := putN_ext (signU v n).toNat n w hw
    simp only [List.length_cons] at hl
    rw [w___celluloid_shape_writer__signed_L0]
    simp only [h1, h2, h3, h4, intE, (putSigned_ans (s := w.1) (by omega) w.2 v n (hI v hm)).c, putSigned_ok hw hn (hv v hm), encW, Option.bind_some, Option.bind_none, andB, orB, orB2, List.getD_cons_zero, List.getD_cons_succ, toB_b, toI_i, toS_s, toL_l, cond_true, cond_false, List.length_map]
    exact signed_loop hI hn hv hll a b rest _ _ h5 o1 (by omega)
theorem signed_w {l : List Int} (hI : ∀ v, v ∈ l → I64 v) {n : Nat} (hn : n ≤ 31) (hv : ∀ v, v ∈ l → widthN v ≤ n) (hll : l.length ≤ 100) {w : Wt} (hw : WOk w) (hl : w.1.length + 31 * l.length ≤ 500000000) (a b : Int) :
    cW f___celluloid_shape_writer__signed [.u, .i (n : Int), .l (l.map intE)] [(t_shape_writer, [PV.s (w).1, PV.i (((w).2 : Nat) : Int), .i a, .i b])] = some ([], [(t_shape_writer, [PV.s (numsW n l w).1, PV.i (((numsW n l w).2 : Nat) : Int), .i a, .i b])]) := by
  rw [w___celluloid_shape_writer__signed]
  simp only [List.length_map]
  exact signed_loop hI hn hv hll a b l [] w rfl hw hl
theorem width_w {l : List Int} (hI : ∀ v, v ∈ l → I64 v) (hll : l.length ≤ 100) : cW f_bits_Width [.l (l.map intE)] [] = some ([.i ((WL l : Nat) : Int)], []) := by
  have := (width_ans (es := ints l) (by rw [ints_length]; omega) (ints_I64 hI)).c
  rw [ints_length] at this
  exact this
theorem plainWidth1_w {n : Nat} (hn : n ≤ 9223372036854775807) : cW f_bits_PlainWidth [.l (List.set [[PV.i 0]] 0 [PV.i (n : Int)])] [] = some ([.i ((blen n : Nat) : Int)], []) := by
  have h : ∀ i, i < (ints [(n : Int)]).length → I64 (elI (ints [(n : Int)]) i) := ints_I64 (fun v hv => by simp at hv; subst hv; unfold I64; omega)
  have := (plainWidth_ans (es := ints [(n : Int)]) (by rw [ints_length]; show (1 : Nat) ≤ _; decide) h).c
  rw [ints_length] at this
  refine this.trans ?_
  show some ([PV.i ((max 0 (blen ((n : Int).toNat)) : Nat) : Int)], _) = _
  rw [Int.toNat_natCast, Nat.zero_max]
/-- a choice of a style -/
def optP (v : Int) (n : Nat) (w : Wt) : Wt := if v ≥ 0 then putN v.toNat n w else w
def flagsR (r : Rec) : Nat := (if r.left ≥ 0 then 2 else 0) + (if r.right ≥ 0 then 4 else 0) + (if r.line ≥ 0 then 8 else 0)
def setW (a b : Nat) (r : Rec) (w : Wt) : Wt := optP r.line b (optP r.right a (optP r.left a (putN (flagsR r) 6 w)))
def edgeN (l : List Int) : Nat := max (WL l) 2
def lineW (r : Rec) (w : Wt) : Wt :=
  let n := edgeN [r.x, r.y]
  let w := putN (n - 2) 4 (putN 3 2 w)
  if r.x = 0 then numsW n [r.y] (putN 1 2 w) else if r.y = 0 then numsW n [r.x] (putN 0 2 w) else numsW n [r.x, r.y] (putN 1 1 w)
def curveW (r : Rec) (w : Wt) : Wt := numsW (edgeN [r.cx, r.cy, r.x, r.y]) [r.cx, r.cy, r.x, r.y] (putN (edgeN [r.cx, r.cy, r.x, r.y] - 2) 4 (putN 2 2 w))
def moveW (r : Rec) (w : Wt) : Wt := numsW (WL [r.x, r.y]) [r.x, r.y] (putN (WL [r.x, r.y]) 5 (putN 1 6 w))
def freshW (r : Rec) (w : Wt) : Wt := putN (blen r.strks.length) 4 (putN (blen r.fills.length) 4 ((putN 16 6 w).1 ++ listsS r.fills r.strks, 0))
def nextA (r : Rec) (a : Nat) : Nat := bif r.kind == 3 then blen r.fills.length else a
def nextB (r : Rec) (b : Nat) : Nat := bif r.kind == 3 then blen r.strks.length else b
def recW (a b : Nat) (r : Rec) (w : Wt) : Wt :=
  bif r.kind == 1 then moveW r w else bif r.kind == 2 then setW a b r w else bif r.kind == 3 then freshW r w else bif r.kind == 4 then lineW r w else curveW r w
/-- writers go on -/
def Wgo (n : Nat) (w w' : Wt) : Prop := WOk w' ∧ WExt w w' ∧ w'.1.length ≤ w.1.length + n
theorem Wgo.trans {n m k : Nat} {w w' w'' : Wt} (h : Wgo n w w') (h' : Wgo m w' w'') (hk : n + m ≤ k) : Wgo k w w'' := ⟨h'.1, h.2.1.trans h'.2.1, by have := h.2.2; have := h'.2.2; omega⟩
theorem Wgo.refl {n : Nat} {w : Wt} (h : WOk w) : Wgo n w w := ⟨h, WExt.refl _, by omega⟩
theorem putN_go (v n : Nat) {w : Wt} (h : WOk w) : Wgo n w (putN v n w) := by obtain ⟨a, b, _, _, e⟩ := putN_ext v n w h; exact ⟨a, b, e⟩
theorem numsW_go (n : Nat) (l : List Int) {w : Wt} (h : WOk w) : Wgo (n * l.length) w (numsW n l w) := by obtain ⟨a, b, _, e⟩ := numsW_ok n l w h; exact ⟨a, b, e⟩
theorem optP_go (v : Int) (n : Nat) {w : Wt} (h : WOk w) : Wgo n w (optP v n w) := by
  unfold optP; split
  · exact putN_go _ _ h
  · exact .refl h
theorem setW_go (a b : Nat) (r : Rec) {w : Wt} (h : WOk w) : Wgo (6 + a + a + b) w (setW a b r w) := by
  have g1 := putN_go (flagsR r) 6 h
  have g2 := optP_go r.left a g1.1
  have g3 := optP_go r.right a g2.1
  have g4 := optP_go r.line b g3.1
  exact (((g1.trans g2 (Nat.le_refl _)).trans g3 (Nat.le_refl _)).trans g4 (Nat.le_refl _))
theorem wl_coord {v : Int} (h : -1048576 ≤ v ∧ v ≤ 1048576) : widthN v ≤ 22 := widthN_abs (by decide) ⟨by show -2097152 ≤ v; omega, by show v < 2097152; omega⟩
theorem wl_edge {v : Int} (h : -65536 ≤ v ∧ v ≤ 65535) : widthN v ≤ 17 := widthN_abs (by decide) ⟨by show -65536 ≤ v; omega, by show v < 65536; omega⟩
theorem WL2 {x y : Int} {b : Nat} (hx : widthN x ≤ b) (hy : widthN y ≤ b) : WL [x, y] ≤ b := WL_bound (fun v hv => by simp at hv; rcases hv with rfl | rfl <;> assumption)
theorem WL4 {x y z u : Int} {b : Nat} (hx : widthN x ≤ b) (hy : widthN y ≤ b) (hz : widthN z ≤ b) (hu : widthN u ≤ b) : WL [x, y, z, u] ≤ b := WL_bound (fun v hv => by simp at hv; rcases hv with rfl | rfl | rfl | rfl <;> assumption)
theorem blen15 {n : Nat} (h : n ≤ 15) : blen n ≤ 4 := blen_le.2 (by show n < 16; omega)
/-- what is right of a kind -/
theorem recB_move {r : Rec} {f s : Int} (h : recB r f s = true) (k : r.kind = 1) : (noSt r ∧ noLi r ∧ noCt r) ∧ (-1048576 ≤ r.x ∧ r.x ≤ 1048576) ∧ (-1048576 ≤ r.y ∧ r.y ≤ 1048576) := by
  unfold recB at h; rw [k] at h
  obtain ⟨a, b, c, d, e⟩ := of_decide_eq_true h
  exact ⟨⟨a, b, c⟩, d, e⟩
theorem recB_set {r : Rec} {f s : Int} (h : recB r f s = true) (k : r.kind = 2) : (noLi r ∧ noCt r ∧ noPt r) ∧ (r.left ≥ 0 ∨ r.right ≥ 0 ∨ r.line ≥ 0) ∧ (-1 ≤ r.left ∧ r.left ≤ f) ∧ (-1 ≤ r.right ∧ r.right ≤ f) ∧ (-1 ≤ r.line ∧ r.line ≤ s) := by
  unfold recB at h; rw [k] at h
  obtain ⟨a, b, c, d, e, g, i⟩ := of_decide_eq_true h
  exact ⟨⟨a, b, c⟩, d, e, g, i⟩
theorem recB_fresh {r : Rec} {f s : Int} (h : recB r f s = true) (k : r.kind = 3) : (noSt r ∧ noCt r ∧ noPt r) ∧ listsB r.fills r.strks = true := by
  unfold recB at h; rw [k] at h
  have h : (decide (noSt r ∧ noCt r ∧ noPt r) && listsB r.fills r.strks) = true := h
  rw [Bool.and_eq_true] at h
  exact ⟨of_decide_eq_true h.1, h.2⟩
theorem recB_line {r : Rec} {f s : Int} (h : recB r f s = true) (k : r.kind = 4) : (noSt r ∧ noLi r ∧ noCt r) ∧ (-65536 ≤ r.x ∧ r.x ≤ 65535) ∧ (-65536 ≤ r.y ∧ r.y ≤ 65535) := by
  unfold recB at h; rw [k] at h
  obtain ⟨a, b, c, d, e⟩ := of_decide_eq_true h
  exact ⟨⟨a, b, c⟩, d, e⟩
theorem recB_curve {r : Rec} {f s : Int} (h : recB r f s = true) (k : r.kind = 5) : (noSt r ∧ noLi r) ∧ (-65536 ≤ r.x ∧ r.x ≤ 65535) ∧ (-65536 ≤ r.y ∧ r.y ≤ 65535) ∧ (-65536 ≤ r.cx ∧ r.cx ≤ 65535) ∧ (-65536 ≤ r.cy ∧ r.cy ≤ 65535) := by
  unfold recB at h; rw [k] at h
  obtain ⟨a, b, c, d, e, g⟩ := of_decide_eq_true h
  exact ⟨⟨a, b⟩, c, d, e, g⟩
theorem recB_kind {r : Rec} {f s : Int} (h : recB r f s = true) : r.kind = 1 ∨ r.kind = 2 ∨ r.kind = 3 ∨ r.kind = 4 ∨ r.kind = 5 := by
  by_cases k1 : r.kind = 1
  · exact .inl k1
  by_cases k2 : r.kind = 2
  · exact .inr (.inl k2)
  by_cases k3 : r.kind = 3
  · exact .inr (.inr (.inl k3))
  by_cases k4 : r.kind = 4
  · exact .inr (.inr (.inr (.inl k4)))
  by_cases k5 : r.kind = 5
  · exact .inr (.inr (.inr (.inr k5)))
  unfold recB at h
  rw [show (r.kind == 1) = false by simpa using k1, show (r.kind == 2) = false by simpa using k2, show (r.kind == 3) = false by simpa using k3, show (r.kind == 4) = false by simpa using k4, show (r.kind == 5) = false by simpa using k5] at h
  cases h
theorem set_step {a b : Int} {x y z : Int} (fl : Int) (i : Nat) (hi : i < 3) (w : Wt) (y1 y2 y3 y4 y5 y6 y7 y8 : Int) (f g : List (List PV)) :
    rW f___celluloid_shape_writer__set [t_shape_writer] at___celluloid_shape_writer__set_L0 (S___celluloid_shape_writer__set_L0 fl ([x, y, z].map intE) 3 (i : Nat) w.1 (w.2 : Nat) a b y1 y2 y3 y4 y5 y6 y7 y8 f g) =
    rW f___celluloid_shape_writer__set [t_shape_writer] at___celluloid_shape_writer__set_L0 (S___celluloid_shape_writer__set_L0 (bif decide (([x, y, z].getD i 0) ≥ 0) then bitsOp .or .i64 fl (shl .i64 2 (i : Nat)) else fl) ([x, y, z].map intE) 3 ((i + 1 : Nat) : Int) w.1 (w.2 : Nat) a b y1 y2 y3 y4 y5 y6 y7 y8 f g) := by
  rw [w___celluloid_shape_writer__set_L0]
  have h1 : decide (((i : Nat) : Int) < 3) = true := decide_eq_true (by omega)
  have h2 : inB ((i : Nat) : Int) 3 = true := by unfold inB; simp; omega
  have h3 : decide ((0 : Int) ≤ ((i : Nat) : Int)) = true := decide_eq_true (by omega)
  have h4 : IntKind.wrap .i64 (((i : Nat) : Int) + 1) = ((i + 1 : Nat) : Int) := by rw [wrap64 (by omega) (by omega)]; omega
  have h5 : elemAt ([x, y, z].map intE) ((i : Nat) : Int) = intE ([x, y, z].getD i 0) := by
    have : i = 0 ∨ i = 1 ∨ i = 2 := by omega
    rcases this with rfl | rfl | rfl <;> rfl
  simp only [List.length_map, List.length_cons, List.length_nil, h1, show 0 + 1 + 1 + 1 = 3 from rfl, h2, h3, h4, h5, intE, Option.bind_some, Option.bind_none, andB, orB, orB2, List.getD_cons_zero, List.getD_cons_succ, toB_b, toI_i, toS_s, toL_l, cond_true, cond_false, List.length_map]
  cases decide ([x, y, z].getD i 0 ≥ 0) <;> rfl
theorem flags_ok (l r n : Int) : (bif decide (n ≥ 0) then bitsOp .or .i64 (bif decide (r ≥ 0) then bitsOp .or .i64 (bif decide (l ≥ 0) then bitsOp .or .i64 0 (shl .i64 2 0) else 0) (shl .i64 2 1) else (bif decide (l ≥ 0) then bitsOp .or .i64 0 (shl .i64 2 0) else 0)) (shl .i64 2 2) else (bif decide (r ≥ 0) then bitsOp .or .i64 (bif decide (l ≥ 0) then bitsOp .or .i64 0 (shl .i64 2 0) else 0) (shl .i64 2 1) else (bif decide (l ≥ 0) then bitsOp .or .i64 0 (shl .i64 2 0) else 0)))
    = (((if l ≥ 0 then 2 else 0) + (if r ≥ 0 then 4 else 0) + (if n ≥ 0 then 8 else 0) : Nat) : Int) := by
  simp only [Bool.cond_decide]
  split <;> split <;> split <;> decide +kernel
theorem set2_step {a b : Nat} {x y z : Int} (i : Nat) (hi : i < 3) {w : Wt} (hw : WOk w) (hl : w.1.length ≤ 500000000) (ha : a ≤ 31) (hb : b ≤ 31) (hv : [x, y, z].getD i 0 < 2 ^ (if i = 2 then b else a)) :
    rW f___celluloid_shape_writer__set [t_shape_writer] at___celluloid_shape_writer__set_L2 (S___celluloid_shape_writer__set_L2 ([x, y, z].map intE) 3 (i : Nat) w.1 (w.2 : Nat) a b) =
    rW f___celluloid_shape_writer__set [t_shape_writer] at___celluloid_shape_writer__set_L2 (S___celluloid_shape_writer__set_L2 ([x, y, z].map intE) 3 ((i + 1 : Nat) : Int) (optP ([x, y, z].getD i 0) (if i = 2 then b else a) w).1 ((optP ([x, y, z].getD i 0) (if i = 2 then b else a) w).2 : Nat) a b) := by
  rw [w___celluloid_shape_writer__set_L2]
  have h1 : decide (((i : Nat) : Int) < 3) = true := decide_eq_true (by omega)
  have h2 : inB ((i : Nat) : Int) 3 = true := by unfold inB; simp; omega
  have h4 : IntKind.wrap .i64 (((i : Nat) : Int) + 1) = ((i + 1 : Nat) : Int) := by rw [wrap64 (by omega) (by omega)]; omega
  have h5 : elemAt ([x, y, z].map intE) ((i : Nat) : Int) = intE ([x, y, z].getD i 0) := by
    have : i = 0 ∨ i = 1 ∨ i = 2 := by omega
    rcases this with rfl | rfl | rfl <;> rfl
  simp only [List.length_map, List.length_cons, List.length_nil, h1, show 0 + 1 + 1 + 1 = 3 from rfl, h2, h4, h5, intE, Option.bind_some, Option.bind_none, andB, orB, orB2, List.getD_cons_zero, List.getD_cons_succ, toB_b, toI_i, toS_s, toL_l, cond_true, cond_false, List.length_map]
  generalize [x, y, z].getD i 0 = v at hv ⊢
  unfold optP
  by_cases hi2 : i = 2
  · rw [if_pos hi2] at hv ⊢
    rw [show (((i : Nat) : Int) == 2) = true by simp; omega]
    by_cases h0 : v ≥ 0
    · obtain ⟨k, rfl⟩ := Int.eq_ofNat_of_zero_le h0
      rw [decide_eq_true h0, if_pos h0]
      simp only [plain_w hw hl (v := k) (n := b) hb (by exact_mod_cast hv) a b, Int.toNat_natCast, Option.bind_some, Option.bind_none, andB, orB, orB2, List.getD_cons_zero, List.getD_cons_succ, toB_b, toI_i, toS_s, toL_l, cond_true, cond_false, List.length_map]
    · rw [decide_eq_false h0, if_neg h0]; rfl
  · rw [if_neg hi2] at hv ⊢
    rw [show (((i : Nat) : Int) == 2) = false by simp; omega]
    by_cases h0 : v ≥ 0
    · obtain ⟨k, rfl⟩ := Int.eq_ofNat_of_zero_le h0
      rw [decide_eq_true h0, if_pos h0]
      simp only [plain_w hw hl (v := k) (n := a) ha (by exact_mod_cast hv) a b, Int.toNat_natCast, Option.bind_some, Option.bind_none, andB, orB, orB2, List.getD_cons_zero, List.getD_cons_succ, toB_b, toI_i, toS_s, toL_l, cond_true, cond_false, List.length_map]
    · rw [decide_eq_false h0, if_neg h0]; rfl
end Go.AI
set_option linter.unusedVariables false
set_option linter.unusedSimpArgs false
set_option maxRecDepth 100000
namespace Go.AI
open Go Go.Proofs

theorem set_w {r : Rec} {f s : Int} (h : recB r f s = true) (k : r.kind = 2) {a b : Nat} (ha : a ≤ 4) (hb : b ≤ 4) (hf : f < 2 ^ a) (hs : s < 2 ^ b) {w : Wt} (hw : WOk w) (hl : w.1.length ≤ 499000000) :
    cW f___celluloid_shape_writer__set (.u :: r.e) [(t_shape_writer, [PV.s (w).1, PV.i (((w).2 : Nat) : Int), .i a, .i b])] = some ([], [(t_shape_writer, [PV.s (setW a b r w).1, PV.i (((setW a b r w).2 : Nat) : Int), .i a, .i b])]) := by
  obtain ⟨_, _, h1, h2, h3⟩ := recB_set h k
  have hfl : flagsR r < 2 ^ 6 := by unfold flagsR; split <;> split <;> split <;> decide
  have g1 := putN_go (flagsR r) 6 hw
  have g2 := optP_go r.left a g1.1
  have g3 := optP_go r.right a g2.1
  have g4 := optP_go r.line b g3.1
  have l1 := g1.2.2; have l2 := g2.2.2; have l3 := g3.2.2; have l4 := g4.2.2
  simp only [Rec.e]
  rw [w___celluloid_shape_writer__set]
  rw [show List.set (List.set (List.set [[PV.i 0], [PV.i 0], [PV.i 0]] 0 [PV.i r.left]) 1 [PV.i r.right]) 2 [PV.i r.line] = [r.left, r.right, r.line].map intE from rfl]
  rw [show ((([r.left, r.right, r.line].map intE).length : Nat) : Int) = 3 from rfl]
  rw [show (0 : Int) = ((0 : Nat) : Int) from rfl, set_step (hi := by omega), set_step (hi := by omega), set_step (hi := by omega)]
  rw [w___celluloid_shape_writer__set_L0]
  rw [show decide ((((0 + 1 + 1 + 1 : Nat)) : Int) < 3) = false by decide, cond_false]
  rw [show ([r.left, r.right, r.line].getD 0 0) = r.left from rfl, show ([r.left, r.right, r.line].getD (0 + 1) 0) = r.right from rfl, show ([r.left, r.right, r.line].getD (0 + 1 + 1) 0) = r.line from rfl]
  have hfo := flags_ok r.left r.right r.line
  rw [show ((0 : Nat) : Int) = 0 from rfl, show ((0 + 1 : Nat) : Int) = 1 from rfl, show ((0 + 1 + 1 : Nat) : Int) = 2 from rfl, hfo]
  have e := plain_w hw (by omega) (v := flagsR r) (n := 6) (by decide) hfl a b
  unfold flagsR at e
  rw [show ((6 : Nat) : Int) = 6 from rfl] at e
  simp only [e, Option.bind_some, Option.bind_none, andB, orB, orB2, List.getD_cons_zero, List.getD_cons_succ, toB_b, toI_i, toS_s, toL_l, cond_true, cond_false, List.length_map]
  rw [show List.set (List.set (List.set [[PV.i 0], [PV.i 0], [PV.i 0]] 0 [PV.i r.left]) 1 [PV.i r.right]) 2 [PV.i r.line] = [r.left, r.right, r.line].map intE from rfl]
  have gw : putN ((if r.left ≥ 0 then 2 else 0) + (if r.right ≥ 0 then 4 else 0) + (if r.line ≥ 0 then 8 else 0)) 6 w = putN (flagsR r) 6 w := rfl
  rw [gw]
  rw [show ((([r.left, r.right, r.line].map intE).length : Nat) : Int) = 3 from rfl, show (0 : Int) = ((0 : Nat) : Int) from rfl]
  rw [set2_step 0 (by omega) g1.1 (by omega) (by omega) (by omega) (by show r.left < _; rw [if_neg (by decide)]; omega)]
  rw [show ([r.left, r.right, r.line].getD 0 0) = r.left from rfl, if_neg (by decide)]
  rw [set2_step (0 + 1) (by omega) g2.1 (by omega) (by omega) (by omega) (by show r.right < _; rw [if_neg (by decide)]; omega)]
  rw [show ([r.left, r.right, r.line].getD (0 + 1) 0) = r.right from rfl, if_neg (by decide)]
  rw [set2_step (0 + 1 + 1) (by omega) g3.1 (by omega) (by omega) (by omega) (by show r.line < _; rw [if_pos (by decide)]; omega)]
  rw [show ([r.left, r.right, r.line].getD (0 + 1 + 1) 0) = r.line from rfl, if_pos (by decide)]
  rw [w___celluloid_shape_writer__set_L2]
  rw [show decide ((((0 + 1 + 1 + 1 : Nat)) : Int) < 3) = false by decide, cond_false]
  rfl
theorem widths_w {w : Wt} (hw : WOk w) (hl : w.1.length ≤ 499000000) {m n : Nat} (hm : m ≤ 15) (hn : n ≤ 15) (a b : Int) :
    cW f___celluloid_shape_writer__widths [.u, .i (m : Int), .i (n : Int)] [(t_shape_writer, [PV.s (w).1, PV.i (((w).2 : Nat) : Int), .i a, .i b])] = some ([], [(t_shape_writer, [PV.s (putN (blen n) 4 (putN (blen m) 4 w)).1, PV.i (((putN (blen n) 4 (putN (blen m) 4 w)).2 : Nat) : Int), .i (blen m : Nat), .i (blen n : Nat)])]) := by
  have b1 := blen15 hm
  have b2 := blen15 hn
  have g1 := putN_go (blen m) 4 hw
  have l1 := g1.2.2
  have e1 := plain_w hw (by omega) (v := blen m) (n := 4) (by decide) (by show blen m < 16; omega) (blen m) (blen n)
  have e2 := plain_w g1.1 (by omega) (v := blen n) (n := 4) (by decide) (by show blen n < 16; omega) (blen m) (blen n)
  rw [show ((4 : Nat) : Int) = 4 from rfl] at e1 e2
  rw [w___celluloid_shape_writer__widths]
  simp only [plainWidth1_w (n := m) (by omega), plainWidth1_w (n := n) (by omega), e1, e2, Option.bind_some, Option.bind_none, andB, orB, orB2, List.getD_cons_zero, List.getD_cons_succ, toB_b, toI_i, toS_s, toL_l, cond_true, cond_false, List.length_map]
theorem i64_coord {v : Int} (h : -1048576 ≤ v ∧ v ≤ 1048576) : I64 v := by unfold I64; omega
theorem i64_edge {v : Int} (h : -65536 ≤ v ∧ v ≤ 65535) : I64 v := by unfold I64; omega
theorem two_mem {P : Int → Prop} {x y : Int} (hx : P x) (hy : P y) : ∀ v, v ∈ [x, y] → P v := fun v hv => by simp at hv; rcases hv with rfl | rfl <;> assumption
theorem four_mem {P : Int → Prop} {x y z u : Int} (hx : P x) (hy : P y) (hz : P z) (hu : P u) : ∀ v, v ∈ [x, y, z, u] → P v := fun v hv => by simp at hv; rcases hv with rfl | rfl | rfl | rfl <;> assumption
theorem pair_row (x y : Int) : List.set (List.set [[PV.i 0], [PV.i 0]] 0 [PV.i x]) 1 [PV.i y] = [x, y].map intE := rfl
theorem one_row (x : Int) : List.set [[PV.i 0]] 0 [PV.i x] = [x].map intE := rfl
theorem quad_row (x y z u : Int) : List.set (List.set (List.set (List.set [[PV.i 0], [PV.i 0], [PV.i 0], [PV.i 0]] 0 [PV.i x]) 1 [PV.i y]) 2 [PV.i z]) 3 [PV.i u] = [x, y, z, u].map intE := rfl
theorem edge_sub {l : List Int} (h : WL l ≤ 17) : IntKind.wrap .i64 (((edgeN l : Nat) : Int) - 2) = ((edgeN l - 2 : Nat) : Int) ∧ (bif decide ((2 : Int) > ((WL l : Nat) : Int)) then (2 : Int) else ((WL l : Nat) : Int)) = ((edgeN l : Nat) : Int) := by
  have e : (bif decide ((2 : Int) > ((WL l : Nat) : Int)) then (2 : Int) else ((WL l : Nat) : Int)) = ((edgeN l : Nat) : Int) := by
    unfold edgeN
    rw [Bool.cond_decide]
    split <;> omega
  have : 2 ≤ edgeN l ∧ edgeN l ≤ 17 := by unfold edgeN; omega
  rw [e, wrap64 (by omega) (by omega)]
  exact ⟨by omega, rfl⟩
theorem nextA_ne {r : Rec} (h : r.kind ≠ 3) (a : Nat) : nextA r a = a := by unfold nextA; rw [show (r.kind == 3) = false by simpa using h]; rfl
theorem nextB_ne {r : Rec} (h : r.kind ≠ 3) (a : Nat) : nextB r a = a := by unfold nextB; rw [show (r.kind == 3) = false by simpa using h]; rfl
theorem lists_short {l : List Fill} {m : List Strk} (h : listsB l m = true) : l.length ≤ 2 ^ 40 ∧ m.length ≤ 2 ^ 40 ∧ Shorts l := by
  obtain ⟨h1, h2, h3, h4⟩ := listsB_r h
  refine ⟨Nat.le_trans h1 (by decide), Nat.le_trans h2 (by decide), fun f hf => ?_⟩
  have := h3 f hf
  cases ks : kindS f.kind with
  | true => rw [(fillB_solid this ks).2]; exact Nat.zero_le _
  | false =>
    cases kp : kindP f.kind with
    | true => rw [(fillB_pic this ks kp).2.2.2]; exact Nat.zero_le _
    | false => exact Nat.le_trans (fillB_grad this ks kp).2.2.2.2.2.2.2 (by decide)
theorem listsS_le {l : List Fill} {m : List Strk} (h : listsB l m = true) : (listsS l m).length ≤ 8000 := by
  obtain ⟨h1, h2, h3, h4⟩ := listsB_r h
  have a := fillsS_len h3
  have b := strksS_len m
  simp only [listsS, List.length_append, b]
  show 1 + (_ + (1 + _)) ≤ _
  omega
theorem record_w {r : Rec} {f s : Int} (h : recB r f s = true) {a b : Nat} (ha : a ≤ 4) (hb : b ≤ 4) (hf : f < 2 ^ a) (hs : s < 2 ^ b) {w : Wt} (hw : WOk w) (hl : w.1.length ≤ 390000000) :
    cW f___celluloid_shape_writer__record (.u :: r.e) [(t_shape_writer, [PV.s (w).1, PV.i (((w).2 : Nat) : Int), .i a, .i b])] = some ([], [(t_shape_writer, [PV.s (recW a b r w).1, PV.i (((recW a b r w).2 : Nat) : Int), .i (nextA r a : Nat), .i (nextB r b : Nat)])]) := by
  unfold recW
  rcases recB_kind h with k | k | k | k | k
  · obtain ⟨_, hx, hy⟩ := recB_move h k
    have hI := two_mem (P := I64) (i64_coord hx) (i64_coord hy)
    have hwl := WL2 (wl_coord hx) (wl_coord hy)
    have g1 := putN_go 1 6 hw
    have g2 := putN_go (WL [r.x, r.y]) 5 g1.1
    have l1 := g1.2.2; have l2 := g2.2.2
    have e0 := width_w (l := [r.x, r.y]) hI (by decide : 2 ≤ 100)
    have e1 := plain_w hw (by omega) (v := 1) (n := 6) (by decide) (by decide) a b
    have e2 := plain_w g1.1 (by omega) (v := WL [r.x, r.y]) (n := 5) (by decide) (by show _ < 32; omega) a b
    have e3 := signed_w (l := [r.x, r.y]) hI (n := WL [r.x, r.y]) (by omega) (fun v hv => WL_ge hv) (by decide : 2 ≤ 100) g2.1 (by show _ + 31 * 2 ≤ _; omega) a b
    rw [show ((1 : Nat) : Int) = 1 from rfl, show ((6 : Nat) : Int) = 6 from rfl] at e1
    rw [show ((5 : Nat) : Int) = 5 from rfl] at e2
    rw [nextA_ne (by omega), nextB_ne (by omega)]
    simp only [Rec.e]
    rw [w___celluloid_shape_writer__record, k]
    simp only [show ((1 : Int) == 1) = true from rfl, pair_row, e0, e1, e2, e3, Option.bind_some, Option.bind_none, andB, orB, orB2, List.getD_cons_zero, List.getD_cons_succ, toB_b, toI_i, toS_s, toL_l, cond_true, cond_false, List.length_map]
    rfl
  · have e := set_w h k ha hb hf hs hw (by omega)
    rw [nextA_ne (by omega), nextB_ne (by omega)]
    simp only [Rec.e] at e ⊢
    rw [k] at e
    rw [w___celluloid_shape_writer__record, k]
    simp only [show ((2 : Int) == 1) = false from rfl, show ((2 : Int) == 2) = true from rfl, e, Option.bind_some, Option.bind_none, andB, orB, orB2, List.getD_cons_zero, List.getD_cons_succ, toB_b, toI_i, toS_s, toL_l, cond_true, cond_false, List.length_map]
  · obtain ⟨_, hb'⟩ := recB_fresh h k
    obtain ⟨s1, s2, s3⟩ := lists_short hb'
    obtain ⟨n1, n2, _, _⟩ := listsB_r hb'
    have ll := listsS_le hb'
    have g1 := putN_go 16 6 hw
    have l1 := g1.2.2
    have e1 := plain_w hw (by omega) (v := 16) (n := 6) (by decide) (by decide) a b
    have e2 := Put_c s1 s2 s3 (s := (putN 16 6 w).1) (by omega) ((putN 16 6 w).2 : Nat)
    unfold putListsF at e2
    rw [hb', cond_true] at e2
    have e3 := widths_w (w := ((putN 16 6 w).1 ++ listsS r.fills r.strks, 0)) (ok_zero _) (by simp; omega) n1 n2 a b
    rw [show ((16 : Nat) : Int) = 16 from rfl, show ((6 : Nat) : Int) = 6 from rfl] at e1
    have na : nextA r a = blen r.fills.length := by unfold nextA; rw [k]; rfl
    have nb : nextB r b = blen r.strks.length := by unfold nextB; rw [k]; rfl
    rw [na, nb]
    simp only [Rec.e]
    rw [w___celluloid_shape_writer__record, k]
    dsimp only at e3
    rw [show (((0 : Nat)) : Int) = 0 from rfl] at e3
    simp only [show ((3 : Int) == 1) = false from rfl, show ((3 : Int) == 2) = false from rfl, show ((3 : Int) == 3) = true from rfl, e1, e2, e3, Option.bind_some, Option.bind_none, andB, orB, orB2, List.getD_cons_zero, List.getD_cons_succ, toB_b, toI_i, toS_s, toL_l, cond_true, cond_false, List.length_map]
    rfl
  · obtain ⟨_, hx, hy⟩ := recB_line h k
    have hI := two_mem (P := I64) (i64_edge hx) (i64_edge hy)
    have hwl := WL2 (wl_edge hx) (wl_edge hy)
    obtain ⟨es, en⟩ := edge_sub hwl
    have n2 : 2 ≤ edgeN [r.x, r.y] ∧ edgeN [r.x, r.y] ≤ 17 := by unfold edgeN; omega
    have hv : ∀ v, v ∈ [r.x, r.y] → widthN v ≤ edgeN [r.x, r.y] := fun v hv => Nat.le_trans (WL_ge hv) (by unfold edgeN; omega)
    have g1 := putN_go 3 2 hw
    have g2 := putN_go (edgeN [r.x, r.y] - 2) 4 g1.1
    have l1 := g1.2.2; have l2 := g2.2.2
    have e0 := width_w (l := [r.x, r.y]) hI (by decide : 2 ≤ 100)
    have e1 := plain_w hw (by omega) (v := 3) (n := 2) (by decide) (by decide) a b
    have e2 := plain_w g1.1 (by omega) (v := edgeN [r.x, r.y] - 2) (n := 4) (by decide) (by show _ < 16; omega) a b
    have g3 := putN_go 1 2 g2.1
    have g4 := putN_go 0 2 g2.1
    have g5 := putN_go 1 1 g2.1
    have l3 := g3.2.2; have l4 := g4.2.2; have l5 := g5.2.2
    have e3 := plain_w g2.1 (by omega) (v := 1) (n := 2) (by decide) (by decide) a b
    have e4 := plain_w g2.1 (by omega) (v := 0) (n := 2) (by decide) (by decide) a b
    have e5 := plain_w g2.1 (by omega) (v := 1) (n := 1) (by decide) (by decide) a b
    have e6 := signed_w (l := [r.y]) (fun v hv => hI v (by simp at hv; simp [hv])) (n := edgeN [r.x, r.y]) (by omega) (fun v hv' => hv v (by simp at hv'; simp [hv'])) (by decide : 1 ≤ 100) g3.1 (by show _ + 31 * 1 ≤ _; omega) a b
    have e7 := signed_w (l := [r.x]) (fun v hv => hI v (by simp at hv; simp [hv])) (n := edgeN [r.x, r.y]) (by omega) (fun v hv' => hv v (by simp at hv'; simp [hv'])) (by decide : 1 ≤ 100) g4.1 (by show _ + 31 * 1 ≤ _; omega) a b
    have e8 := signed_w (l := [r.x, r.y]) hI (n := edgeN [r.x, r.y]) (by omega) hv (by decide : 2 ≤ 100) g5.1 (by show _ + 31 * 2 ≤ _; omega) a b
    rw [show ((3 : Nat) : Int) = 3 from rfl, show ((2 : Nat) : Int) = 2 from rfl] at e1
    rw [show ((4 : Nat) : Int) = 4 from rfl] at e2
    rw [show ((1 : Nat) : Int) = 1 from rfl, show ((2 : Nat) : Int) = 2 from rfl] at e3
    rw [show ((0 : Nat) : Int) = 0 from rfl, show ((2 : Nat) : Int) = 2 from rfl] at e4
    rw [show ((1 : Nat) : Int) = 1 from rfl] at e5
    rw [nextA_ne (by omega), nextB_ne (by omega)]
    simp only [Rec.e]
    rw [w___celluloid_shape_writer__record, k]
    simp only [show ((4 : Int) == 1) = false from rfl, show ((4 : Int) == 2) = false from rfl, show ((4 : Int) == 3) = false from rfl, show ((4 : Int) == 4) = true from rfl, pair_row, one_row, e0, es, en, e1, e2, Option.bind_some, Option.bind_none, andB, orB, orB2, List.getD_cons_zero, List.getD_cons_succ, toB_b, toI_i, toS_s, toL_l, cond_true, cond_false, List.length_map]
    unfold lineW
    by_cases hx0 : r.x = 0
    · rw [show (r.x == 0) = true by simpa using hx0, if_pos hx0]
      simp only [e3, e6, Option.bind_some, Option.bind_none, andB, orB, orB2, List.getD_cons_zero, List.getD_cons_succ, toB_b, toI_i, toS_s, toL_l, cond_true, cond_false, List.length_map]
    · rw [show (r.x == 0) = false by simpa using hx0, if_neg hx0]
      by_cases hy0 : r.y = 0
      · rw [show (r.y == 0) = true by simpa using hy0, if_pos hy0]
        simp only [e4, e7, Option.bind_some, Option.bind_none, andB, orB, orB2, List.getD_cons_zero, List.getD_cons_succ, toB_b, toI_i, toS_s, toL_l, cond_true, cond_false, List.length_map]
      · rw [show (r.y == 0) = false by simpa using hy0, if_neg hy0]
        simp only [e5, e8, Option.bind_some, Option.bind_none, andB, orB, orB2, List.getD_cons_zero, List.getD_cons_succ, toB_b, toI_i, toS_s, toL_l, cond_true, cond_false, List.length_map]
  · obtain ⟨_, hx, hy, hcx, hcy⟩ := recB_curve h k
    have hI := four_mem (P := I64) (i64_edge hcx) (i64_edge hcy) (i64_edge hx) (i64_edge hy)
    have hwl := WL4 (wl_edge hcx) (wl_edge hcy) (wl_edge hx) (wl_edge hy)
    obtain ⟨es, en⟩ := edge_sub hwl
    have n2 : 2 ≤ edgeN [r.cx, r.cy, r.x, r.y] ∧ edgeN [r.cx, r.cy, r.x, r.y] ≤ 17 := by unfold edgeN; omega
    have hv : ∀ v, v ∈ [r.cx, r.cy, r.x, r.y] → widthN v ≤ edgeN [r.cx, r.cy, r.x, r.y] := fun v hv => Nat.le_trans (WL_ge hv) (by unfold edgeN; omega)
    have g1 := putN_go 2 2 hw
    have g2 := putN_go (edgeN [r.cx, r.cy, r.x, r.y] - 2) 4 g1.1
    have l1 := g1.2.2; have l2 := g2.2.2
    have e0 := width_w (l := [r.cx, r.cy, r.x, r.y]) hI (by decide : 4 ≤ 100)
    have e1 := plain_w hw (by omega) (v := 2) (n := 2) (by decide) (by decide) a b
    have e2 := plain_w g1.1 (by omega) (v := edgeN [r.cx, r.cy, r.x, r.y] - 2) (n := 4) (by decide) (by show _ < 16; omega) a b
    have e3 := signed_w (l := [r.cx, r.cy, r.x, r.y]) hI (n := edgeN [r.cx, r.cy, r.x, r.y]) (by omega) hv (by decide : 4 ≤ 100) g2.1 (by show _ + 31 * 4 ≤ _; omega) a b
    rw [show ((2 : Nat) : Int) = 2 from rfl] at e1
    rw [show ((4 : Nat) : Int) = 4 from rfl] at e2
    rw [nextA_ne (by omega), nextB_ne (by omega)]
    simp only [Rec.e]
    rw [w___celluloid_shape_writer__record, k]
    simp only [show ((5 : Int) == 1) = false from rfl, show ((5 : Int) == 2) = false from rfl, show ((5 : Int) == 3) = false from rfl, show ((5 : Int) == 4) = false from rfl, show ((5 : Int) == 5) = true from rfl, quad_row, e0, es, en, e1, e2, e3, Option.bind_some, Option.bind_none, andB, orB, orB2, List.getD_cons_zero, List.getD_cons_succ, toB_b, toI_i, toS_s, toL_l, cond_true, cond_false, List.length_map]
    rfl
end Go.AI
set_option linter.unusedVariables false
set_option linter.unusedSimpArgs false
set_option maxRecDepth 100000
namespace Go.AI
open Go Go.Proofs

def recsW : Nat → Nat → List Rec → Wt → Wt
  | _, _, [], w => w
  | a, b, r :: l, w => recsW (nextA r a) (nextB r b) l (recW a b r w)
def headW (f s : Nat) (S : List UInt8) : Wt := putN (blen s) 4 (putN (blen f) 4 (S, 0))
def recsT (f s : Nat) (l : List Rec) (S : List UInt8) : Wt := putN 0 6 (recsW (blen f) (blen s) l (headW f s S))
theorem recW_go {r : Rec} {f s : Int} (h : recB r f s = true) {a b : Nat} (ha : a ≤ 4) (hb : b ≤ 4) {w : Wt} (hw : WOk w) : Wgo 9000 w (recW a b r w) := by
  unfold recW
  rcases recB_kind h with k | k | k | k | k <;> rw [k]
  · obtain ⟨_, hx, hy⟩ := recB_move h k
    have hwl := WL2 (wl_coord hx) (wl_coord hy)
    have g1 := putN_go 1 6 hw
    have g2 := putN_go (WL [r.x, r.y]) 5 g1.1
    have g3 := numsW_go (WL [r.x, r.y]) [r.x, r.y] g2.1
    refine (g1.trans g2 (Nat.le_refl _)).trans g3 ?_
    show _ + WL [r.x, r.y] * 2 ≤ _; omega
  · have g := setW_go a b r hw
    exact ⟨g.1, g.2.1, by have := g.2.2; show (setW a b r w).1.length ≤ _; omega⟩
  · obtain ⟨_, hb'⟩ := recB_fresh h k
    have ll := listsS_le hb'
    have g1 := putN_go 16 6 hw
    have g2 : Wgo 8000 (putN 16 6 w) ((putN 16 6 w).1 ++ listsS r.fills r.strks, 0) := ⟨ok_zero _, append_ext _ _ _, by simp; omega⟩
    have g3 := putN_go (blen r.fills.length) 4 g2.1
    have g4 := putN_go (blen r.strks.length) 4 g3.1
    exact ((g1.trans g2 (Nat.le_refl _)).trans g3 (Nat.le_refl _)).trans g4 (by decide)
  · obtain ⟨_, hx, hy⟩ := recB_line h k
    have hwl := WL2 (wl_edge hx) (wl_edge hy)
    have n2 : edgeN [r.x, r.y] ≤ 17 := by unfold edgeN; omega
    have g1 := putN_go 3 2 hw
    have g2 := putN_go (edgeN [r.x, r.y] - 2) 4 g1.1
    show Wgo 9000 w (lineW r w)
    unfold lineW
    dsimp only
    split
    · have g3 := putN_go 1 2 g2.1
      have g4 := numsW_go (edgeN [r.x, r.y]) [r.y] g3.1
      refine ((g1.trans g2 (Nat.le_refl _)).trans g3 (Nat.le_refl _)).trans g4 ?_
      show _ + _ * 1 ≤ _; omega
    · split
      · have g3 := putN_go 0 2 g2.1
        have g4 := numsW_go (edgeN [r.x, r.y]) [r.x] g3.1
        refine ((g1.trans g2 (Nat.le_refl _)).trans g3 (Nat.le_refl _)).trans g4 ?_
        show _ + _ * 1 ≤ _; omega
      · have g3 := putN_go 1 1 g2.1
        have g4 := numsW_go (edgeN [r.x, r.y]) [r.x, r.y] g3.1
        refine ((g1.trans g2 (Nat.le_refl _)).trans g3 (Nat.le_refl _)).trans g4 ?_
        show _ + _ * 2 ≤ _; omega
  · obtain ⟨_, hx, hy, hcx, hcy⟩ := recB_curve h k
    have hwl := WL4 (wl_edge hcx) (wl_edge hcy) (wl_edge hx) (wl_edge hy)
    have n2 : edgeN [r.cx, r.cy, r.x, r.y] ≤ 17 := by unfold edgeN; omega
    have g1 := putN_go 2 2 hw
    have g2 := putN_go (edgeN [r.cx, r.cy, r.x, r.y] - 2) 4 g1.1
    have g3 := numsW_go (edgeN [r.cx, r.cy, r.x, r.y]) [r.cx, r.cy, r.x, r.y] g2.1
    refine (g1.trans g2 (Nat.le_refl _)).trans g3 ?_
    show _ + _ * 4 ≤ _; omega
theorem blen_lt (n : Nat) : n < 2 ^ blen n := blen_le.1 (Nat.le_refl _)
theorem next_ok {r : Rec} {f s : Int} (h : recB r f s = true) {a b : Nat} (ha : a ≤ 4) (hb : b ≤ 4) (hf : f < 2 ^ a) (hs : s < 2 ^ b) :
    nextA r a ≤ 4 ∧ nextB r b ≤ 4 ∧ (nextF r f s).1 < 2 ^ nextA r a ∧ (nextF r f s).2 < 2 ^ nextB r b := by
  by_cases k : r.kind = 3
  · obtain ⟨_, hb'⟩ := recB_fresh h k
    obtain ⟨n1, n2, _, _⟩ := listsB_r hb'
    have e : (r.kind == 3) = true := by rw [k]; rfl
    unfold nextA nextB nextF
    rw [e]
    have c1 := blen_lt r.fills.length
    have c2 := blen_lt r.strks.length
    exact ⟨blen15 n1, blen15 n2, by show ((r.fills.length : Nat) : Int) < 2 ^ blen r.fills.length; exact_mod_cast c1, by show ((r.strks.length : Nat) : Int) < 2 ^ blen r.strks.length; exact_mod_cast c2⟩
  · have e : (r.kind == 3) = false := by simpa using k
    unfold nextA nextB nextF
    rw [e]
    exact ⟨ha, hb, hf, hs⟩
theorem recsB_cons {r : Rec} {f s kind : Int} {l : List Rec} (h : recsB f s (r :: l) kind = true) : recB r f s = true ∧ kindB r kind = true ∧ recsB (nextF r f s).1 (nextF r f s).2 l kind = true := by
  unfold recsB at h
  simp only [Bool.and_eq_true] at h
  exact ⟨h.1.1, h.1.2, h.2⟩
theorem recsW_go {kind : Int} : ∀ (l : List Rec) (f s : Int) (a b : Nat) (w : Wt), recsB f s l kind = true → a ≤ 4 → b ≤ 4 → f < 2 ^ a → s < 2 ^ b → WOk w → Wgo (9000 * l.length) w (recsW a b l w)
  | [], f, s, a, b, w, _, _, _, _, _, hw => .refl hw
  | r :: l, f, s, a, b, w, h, ha, hb, hf, hs, hw => by
    obtain ⟨h1, _, h3⟩ := recsB_cons h
    obtain ⟨c1, c2, c3, c4⟩ := next_ok h1 ha hb hf hs
    have g := recW_go h1 ha hb hw
    refine g.trans (recsW_go l _ _ _ _ _ h3 c1 c2 c3 c4 g.1) ?_
    simp only [List.length_cons]; omega
theorem putRecs_loop {l : List Rec} (hl : l.length ≤ 512) {kind : Int} (o1 : List UInt8) (o2 : Int) : ∀ (rest pre : List Rec) (f s : Int) (a b : Nat) (w : Wt), l = pre ++ rest → recsB f s rest kind = true → a ≤ 4 → b ≤ 4 → f < 2 ^ a → s < 2 ^ b → WOk w → w.1.length + 9000 * rest.length ≤ 380000000 →
    rW f_shape_PutRecords [] at_shape_PutRecords_L0 (S_shape_PutRecords_L0 (l.map Rec.e) l.length pre.length o1 o2 w.1 (w.2 : Nat) a b) = some ([.s (putN 0 6 (recsW a b rest w)).1, .i 0, .i 0], [])
  | [], pre, f, s, a, b, w, h, hr, ha, hb, hf, hs, hw, hlen => by
    have e1 := plain_w hw (by omega) (v := 0) (n := 6) (by decide) (by decide) a b
    rw [show ((0 : Nat) : Int) = 0 from rfl, show ((6 : Nat) : Int) = 6 from rfl] at e1
    rw [w_shape_PutRecords_L0]
    simp only [el_end h, e1, (putAlign_ans _ _).c, recsW, Option.bind_some, Option.bind_none, andB, orB, orB2, List.getD_cons_zero, List.getD_cons_succ, toB_b, toI_i, toS_s, toL_l, cond_true, cond_false, List.length_map]
  | r :: rest, pre, f, s, a, b, w, h, hr, ha, hb, hf, hs, hw, hlen => by
    obtain ⟨h1, h2, h3, h4, h5⟩ := el_step Rec.e h (Nat.le_trans hl (by decide))
    obtain ⟨b1, _, b3⟩ := recsB_cons hr
    obtain ⟨c1, c2, c3, c4⟩ := next_ok b1 ha hb hf hs
    have g := recW_go b1 ha hb hw
    simp only [List.length_cons] at hlen
    have e := record_w b1 ha hb hf hs hw (by omega)
    simp only [Rec.e] at e
    rw [w_shape_PutRecords_L0]
    simp only [h1, h2, h3, h4, Rec.e, e, Option.bind_some, Option.bind_none, andB, orB, orB2, List.getD_cons_zero, List.getD_cons_succ, toB_b, toI_i, toS_s, toL_l, cond_true, cond_false, List.length_map]
    exact putRecs_loop hl o1 o2 rest _ _ _ _ _ _ h5 b3 c1 c2 c3 c4 g.1 (by have := g.2.2; omega)
def putRecsF (S : List UInt8) (f s : Int) (l : List Rec) (kind : Int) : Res := bif rightRecs f s l kind then ([.s (recsT f.toNat s.toNat l S).1, .i 0, .i 0], []) else ([.s [], .i 0, .i 1], [])
theorem rightRecs_r {f s kind : Int} {l : List Rec} (h : rightRecs f s l kind = true) : (0 ≤ f ∧ f ≤ 15) ∧ (0 ≤ s ∧ s ≤ 15) ∧ (0 ≤ kind ∧ kind ≤ 2) ∧ l.length ≤ 512 ∧ recsB f s l kind = true := by
  unfold rightRecs at h
  simp only [Bool.and_eq_true, decide_eq_true_eq, inR_iff] at h
  exact ⟨h.1, h.2.1, h.2.2.1, by omega, h.2.2.2.2⟩
theorem headW_go (f s : Nat) (S : List UInt8) : Wgo 8 (S, 0) (headW f s S) := by
  have g1 := putN_go (blen f) 4 (ok_zero S)
  have g2 := putN_go (blen s) 4 g1.1
  exact g1.trans g2 (by decide)
theorem PutRecords_c {S : List UInt8} (hS : S.length ≤ 300000000) {l : List Rec} (hl : l.length ≤ 2 ^ 40) (hs : Shs l) (fr f s kind : Int) : cW f_shape_PutRecords [.s S, .i fr, .i f, .i s, .l (l.map Rec.e), .i kind] [] = some (putRecsF S f s l kind) := by
  rw [w_shape_PutRecords]
  simp only [rightRecs_c hl hs, Option.bind_some, Option.bind_none, andB, orB, orB2, List.getD_cons_zero, List.getD_cons_succ, toB_b, toI_i, toS_s, toL_l, cond_true, cond_false, List.length_map]
  unfold putRecsF
  cases h : rightRecs f s l kind with
  | false => rfl
  | true =>
    obtain ⟨⟨f0, f1⟩, ⟨s0, s1⟩, _, h5, hr⟩ := rightRecs_r h
    obtain ⟨m, rfl⟩ := Int.eq_ofNat_of_zero_le f0
    obtain ⟨n, rfl⟩ := Int.eq_ofNat_of_zero_le s0
    have e := widths_w (w := (S, 0)) (ok_zero S) (by show S.length ≤ _; omega) (m := m) (n := n) (by omega) (by omega) 0 0
    dsimp only at e
    rw [show ((0 : Nat) : Int) = 0 from rfl] at e
    have g := headW_go m n S
    have gl := g.2.2
    have e2 := putRecs_loop h5 [] 0 l [] m n (blen m) (blen n) (headW m n S) rfl hr (blen15 (by omega)) (blen15 (by omega)) (by exact_mod_cast blen_lt m) (by exact_mod_cast blen_lt n) g.1 (by dsimp only at gl; omega)
    simp only [Bool.not_true, cond_false, cond_true, (putAlign_ans _ _).c, e, Int.toNat_natCast, Option.bind_some, Option.bind_none, andB, orB, orB2, List.getD_cons_zero, List.getD_cons_succ, toB_b, toI_i, toS_s, toL_l, cond_true, cond_false, List.length_map]
    exact e2
end Go.AI
set_option linter.unusedVariables false
set_option linter.unusedSimpArgs false
set_option maxRecDepth 100000
namespace Go.AI
open Go Go.Proofs

end Go.AI
set_option linter.unusedVariables false
set_option linter.unusedSimpArgs false
set_option maxRecDepth 100000
namespace Go.AI
open Go Go.Proofs

end Go.AI
set_option linter.unusedVariables false
set_option linter.unusedSimpArgs false
set_option maxRecDepth 100000
namespace Go.AI
open Go Go.Proofs

end Go.AI
set_option linter.unusedVariables false
set_option linter.unusedSimpArgs false
set_option maxRecDepth 100000
namespace Go.AI
open Go Go.Proofs

end Go.AI
set_option linter.unusedVariables false
set_option linter.unusedSimpArgs false
set_option maxRecDepth 100000
namespace Go.AI
open Go Go.Proofs

end Go.AI
set_option linter.unusedVariables false
set_option linter.unusedSimpArgs false
set_option maxRecDepth 100000
namespace Go.AI
open Go Go.Proofs

end Go.AI
set_option linter.unusedVariables false
set_option linter.unusedSimpArgs false
set_option maxRecDepth 100000
namespace Go.AI
open Go Go.Proofs

end Go.AI
set_option linter.unusedVariables false
set_option linter.unusedSimpArgs false
set_option maxRecDepth 100000
namespace Go.AI
open Go Go.Proofs

end Go.AI
set_option linter.unusedVariables false
set_option linter.unusedSimpArgs false
set_option maxRecDepth 100000
namespace Go.AI
open Go Go.Proofs

theorem recsT_len {f s kind : Int} {l : List Rec} (h : rightRecs f s l kind = true) (S : List UInt8) : (recsT f.toNat s.toNat l S).1.length ≤ S.length + 9000 * 512 + 100 := by
  obtain ⟨⟨f0, f1⟩, ⟨s0, s1⟩, _, h5, hr⟩ := rightRecs_r h
  obtain ⟨m, rfl⟩ := Int.eq_ofNat_of_zero_le f0
  obtain ⟨n, rfl⟩ := Int.eq_ofNat_of_zero_le s0
  simp only [Int.toNat_natCast]
  have g := headW_go m n S
  have g2 := recsW_go l _ _ _ _ _ hr (blen15 (n := m) (by omega)) (blen15 (n := n) (by omega)) (by exact_mod_cast blen_lt m) (by exact_mod_cast blen_lt n) g.1
  have g3 := putN_go 0 6 g2.1
  have a1 := g.2.2
  have a2 := g2.2.2
  have a3 := g3.2.2
  dsimp only at a1
  show (putN 0 6 (recsW (blen m) (blen n) l (headW m n S))).1.length ≤ _
  omega
end Go.AI
set_option linter.unusedVariables false
set_option linter.unusedSimpArgs false
set_option maxRecDepth 100000
namespace Go.AI
open Go Go.Proofs

def frB (t : T9) : Bool := rectB t.2.1.1 t.2.1.2.1 t.2.1.2.2.1 t.2.1.2.2.2
def right9 (t : T9) : Bool := inB2 0 65535 t.1 && (frB t && (listsB t.2.2.1 t.2.2.2.1 && rightRecs (t.2.2.1.length : Nat) (t.2.2.2.1.length : Nat) t.2.2.2.2 0))
theorem Right9_c (t : T9) (h : sh9 t) : cW f_shape_Right (e9 t) [] = some ([.b (right9 t)], []) := by
  obtain ⟨a1, a2, a3, a4, a5⟩ := h
  unfold e9
  rw [w_shape_Right]
  simp only [within1_c, (rightRect_ans _ _ _ _).c, right_c a1 a3 a2, rightRecs_c a4 a5, Option.bind_some, Option.bind_none, andB, orB, orB2, List.getD_cons_zero, List.getD_cons_succ, toB_b, toI_i, toS_s, toL_l, cond_true, cond_false, List.length_map]
  unfold right9 frB
  rfl
def fr9 (t : T9) : Wt := rectW t.2.1.1 t.2.1.2.1 t.2.1.2.2.1 t.2.1.2.2.2 (twoS t.1, 0)
def put9 (t : T9) : Wt := recsT t.2.2.1.length t.2.2.2.1.length t.2.2.2.2 ((fr9 t).1 ++ listsS t.2.2.1 t.2.2.2.1)
theorem right9_r {t : T9} (h : right9 t = true) : (0 ≤ t.1 ∧ t.1 ≤ 65535) ∧ frB t = true ∧ listsB t.2.2.1 t.2.2.2.1 = true ∧ rightRecs (t.2.2.1.length : Nat) (t.2.2.2.1.length : Nat) t.2.2.2.2 0 = true := by
  unfold right9 at h
  simp only [Bool.and_eq_true, inR_iff, inR] at h
  exact h
theorem fr9_len {t : T9} (h : frB t = true) : (fr9 t).1.length ≤ 200 ∧ WOk (fr9 t) ∧ WExt (twoS t.1, 0) (fr9 t) := by
  unfold fr9 rectW
  obtain ⟨a, b, c, d⟩ := nums_ok 5 [t.2.1.1, t.2.1.2.1, t.2.1.2.2.1, t.2.1.2.2.2] (twoS t.1, 0) (ok_zero _)
  have := (rectB_fits h).wl
  refine ⟨Nat.le_trans d ?_, a, b⟩
  show (twoS t.1).length + 5 + _ * 4 ≤ 200
  have e : (twoS t.1).length = 2 := rfl
  omega
theorem Put9_c (t : T9) (h : sh9 t) : cW f_shape_Put ([.s [], .i 0] ++ e9 t) [] = some (bif right9 t then ([.s (put9 t).1, .i 0, .i 0], []) else ([.s [], .i 0, .i 1], [])) := by
  have hR := Right9_c t h
  obtain ⟨a1, a2, a3, a4, a5⟩ := h
  unfold e9 at hR ⊢
  simp only [List.cons_append, List.nil_append]
  rw [w_shape_Put]
  simp only [hR, Option.bind_some, Option.bind_none, andB, orB, orB2, List.getD_cons_zero, List.getD_cons_succ, toB_b, toI_i, toS_s, toL_l, cond_true, cond_false, List.length_map]
  cases hr : right9 t with
  | false => rfl
  | true =>
    obtain ⟨⟨n0, n1⟩, hb, hL, hk⟩ := right9_r hr
    obtain ⟨f1, f2, f3⟩ := fr9_len hb
    have hl := listsS_le hL
    have e1 := putLittle2_c (s := []) (by decide) 0 n0 (by omega)
    have e2 := (putRect_ans (s := twoS t.1) (by show 2 ≤ _; decide) 0 t.2.1.1 t.2.1.2.1 t.2.1.2.2.1 t.2.1.2.2.2).c
    have hb' : rectB t.2.1.1 t.2.1.2.1 t.2.1.2.2.1 t.2.1.2.2.2 = true := hb
    unfold putRectF at e2
    rw [if_pos hb'] at e2
    rw [show (rectW t.2.1.1 t.2.1.2.1 t.2.1.2.2.1 t.2.1.2.2.2 (twoS t.1, 0)).1 = (fr9 t).1 from rfl] at e2
    have e3 := Put_c a1 a3 a2 (s := (fr9 t).1) (by omega) 0
    unfold putListsF at e3
    rw [hL, cond_true] at e3
    have e4 := PutRecords_c (S := (fr9 t).1 ++ listsS t.2.2.1 t.2.2.2.1) (by simp; omega) a4 a5 0 (t.2.2.1.length : Nat) (t.2.2.2.1.length : Nat) 0
    unfold putRecsF at e4
    rw [hk, cond_true] at e4
    simp only [Int.toNat_natCast] at e4
    simp only [e1, e2, e3, e4, encW, List.nil_append, Bool.and_true, Bool.true_and, Bool.and_false, Bool.false_and, Bool.or_true, Bool.true_or, Bool.or_false, Bool.false_or, Bool.not_true, Bool.not_false, Option.bind_some, Option.bind_none, andB, orB, orB2, List.getD_cons_zero, List.getD_cons_succ, toB_b, toI_i, toS_s, toL_l, cond_true, cond_false, List.length_map]
    rfl
end Go.AI
set_option linter.unusedVariables false
set_option linter.unusedSimpArgs false
set_option maxRecDepth 100000
namespace Go.AI
open Go Go.Proofs

end Go.AI
set_option linter.unusedVariables false
set_option linter.unusedSimpArgs false
set_option maxRecDepth 100000
namespace Go.AI
open Go Go.Proofs

end Go.AI
set_option linter.unusedVariables false
set_option linter.unusedSimpArgs false
set_option maxRecDepth 100000
namespace Go.AI
open Go Go.Proofs

end Go.AI
set_option linter.unusedVariables false
set_option linter.unusedSimpArgs false
set_option maxRecDepth 100000
namespace Go.AI
open Go Go.Proofs

theorem put9_len {t : T9} (hr : right9 t = true) : (put9 t).1.length ≤ 300 + 9000 * 512 + 100 + 8000 := by
  obtain ⟨⟨n0, n1⟩, hb, hL, hk'⟩ := right9_r hr
  obtain ⟨f1, f2, f3⟩ := fr9_len hb
  have := listsS_le hL
  have e := recsT_len hk' ((fr9 t).1 ++ listsS t.2.2.1 t.2.2.2.1)
  simp only [Int.toNat_natCast, List.length_append] at e
  show (recsT t.2.2.1.length t.2.2.2.1.length t.2.2.2.2 ((fr9 t).1 ++ listsS t.2.2.1 t.2.2.2.1)).1.length ≤ _
  omega
end Go.AI
set_option linter.unusedVariables false
set_option linter.unusedSimpArgs false
set_option maxRecDepth 100000
namespace Go.AI
open Go Go.Proofs

end Go.AI
set_option linter.unusedVariables false
set_option linter.unusedSimpArgs false
set_option maxRecDepth 100000
namespace Go.AI
open Go Go.Proofs

/-- flags as the document has them -/
abbrev toldE (f : Int) (t0 t1 t2 t3 t4 : Int) : Prop := (bitB f 4 = (t0 == 1) ∧ bitB f 3 = (t1 == 1) ∧ bitB f 2 = (t2 == 1) ∧ bitB f 1 = (t3 == 1) ∧ bitB f 0 = (t4 == 1)) ∧ (0 ≤ t1 ∧ t1 ≤ 1) ∧ (0 ≤ t2 ∧ t2 ≤ 1) ∧ (0 ≤ t3 ∧ t3 ≤ 1)
section
variable {f t0 t1 t2 t3 t4 : Int} (h : toldE f t0 t1 t2 t3 t4) (kind : Int) (o1 : List UInt8) (o2 o3 : Int)
include h
end
end Go.AI
set_option linter.unusedVariables false
set_option linter.unusedSimpArgs false
set_option maxRecDepth 100000
namespace Go.AI
open Go Go.Proofs

section
variable {f t0 t1 t2 t3 t4 : Int} (h : toldE f t0 t1 t2 t3 t4) (kind : Int) (o1 : List UInt8) (o2 o3 : Int)
include h
end
end Go.AI
set_option linter.unusedVariables false
set_option linter.unusedSimpArgs false
set_option maxRecDepth 100000
namespace Go.AI
open Go Go.Proofs

/-- the same, or the same error -/
def Sim (x y : RS) : Prop := x.σ.2.2 = y.σ.2.2 ∧ (x.σ.2.2 = 0 → x = y)
theorem Sim.refl (x : RS) : Sim x x := ⟨rfl, fun _ => rfl⟩
end Go.AI
set_option linter.unusedVariables false
set_option linter.unusedSimpArgs false
set_option maxRecDepth 100000
namespace Go.AI
open Go Go.Proofs

end Go.AI
set_option linter.unusedVariables false
set_option linter.unusedSimpArgs false
set_option maxRecDepth 100000
namespace Go.AI
open Go Go.Proofs

end Go.AI
set_option linter.unusedVariables false
set_option linter.unusedSimpArgs false
set_option maxRecDepth 100000
namespace Go.AI
open Go Go.Proofs

end Go.AI
set_option linter.unusedVariables false
set_option linter.unusedSimpArgs false
set_option maxRecDepth 100000
namespace Go.AI
open Go Go.Proofs

def Rec.wf (r : Rec) : Prop := r.fills.length ≤ maxLen ∧ r.strks.length ≤ maxLen
abbrev LRec (f t : TypeId) : List LTy := [.int .i64, .int .i64, .int .i64, .int .i64, .int .i64, .int .i64, .int .i64, .int .i64, .sl f, .sl t]
theorem rec_of {P : Program} {f t k : TypeId} (hf : leaves P f = some (LFill k)) (hk : leaves P k = some (.int .i64 :: L4)) (ht : leaves P t = some (.int .i64 :: L4)) (x : List PV) (h : PWL P (LRec f t) x) : ∃ r : Rec, x = r.e ∧ r.wf := by
  obtain ⟨x0, q, rfl, w0, h⟩ := int_cons h
  obtain ⟨x1, q, rfl, w1, h⟩ := int_cons h
  obtain ⟨x2, q, rfl, w2, h⟩ := int_cons h
  obtain ⟨x3, q, rfl, w3, h⟩ := int_cons h
  obtain ⟨x4, q, rfl, w4, h⟩ := int_cons h
  obtain ⟨x5, q, rfl, w5, h⟩ := int_cons h
  obtain ⟨x6, q, rfl, w6, h⟩ := int_cons h
  obtain ⟨x7, q, rfl, w7, h⟩ := int_cons h
  obtain ⟨l, q, rfl, hl, hw, h⟩ := sl_cons (e := Fill.e) hf (fill_of hk) h
  obtain ⟨m, q, rfl, hm, hv, h⟩ := sl_cons (e := Strk.e) ht strk_of h
  obtain rfl := h.nil
  exact ⟨⟨x0, x1, x2, x3, x4, x5, x6, x7, l, m⟩, rfl, hl, hm⟩
end Go.AI
