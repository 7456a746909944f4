/- Records: what is the same, what is right. -/
import Derived.Test.YtkclfiliefadlaaU09
import Derived.Test.YtkclfiliefadlaaP08
import Derived.Test.YtkclfiliefadlaaP02
import Derived.Test.YtkclfiliefadlaaP07
set_option linter.unusedVariables false
set_option linter.unusedSimpArgs false
set_option maxRecDepth 100000
namespace Go.AI
open Go Go.Proofs

structure Rec where
  kind : Int
  x : Int
  y : Int
  cx : Int
  cy : Int
  left : Int
  right : Int
  line : Int
  fills : List Fill
  strks : List Strk
  deriving DecidableEq
def Rec.e (r : Rec) : List PV := [.i r.kind, .i r.x, .i r.y, .i r.cx, .i r.cy, .i r.left, .i r.right, .i r.line, .l (r.fills.map Fill.e), .l (r.strks.map Strk.e)]
/-- short enough -/
def Rec.sh (r : Rec) : Prop := r.fills.length ≤ 2 ^ 40 ∧ r.strks.length ≤ 2 ^ 40 ∧ Shorts r.fills
def intE (n : Int) : List PV := [.i n]
theorem idxInt_loop {l : List Int} (hl : l.length ≤ 2 ^ 40) (a b : Int) : ∀ (rest pre : List Int), l = pre ++ rest → ∃ n : Int,
    rW f_slices_IndexFunc___int_int_ [t_int, t_int] at_slices_IndexFunc___int_int__L0 (S_slices_IndexFunc___int_int__L0 (l.map intE) l.length pre.length a b) = some ([.i n], [(t_int, [.i a]), (t_int, [.i b])]) ∧ decide (n ≥ 0) = !rest.all (inB2 a b)
  | [], pre, h => by
    refine ⟨-1, ?_, rfl⟩
    rw [w_slices_IndexFunc___int_int__L0]; simp only [el_end h, Option.bind_some, Option.bind_none, andB, orB, orB2, List.getD_cons_zero, List.getD_cons_succ, toB_b, toI_i, toS_s, toL_l, cond_true, cond_false, List.length_map]
  | x :: rest, pre, h => by
    obtain ⟨h1, h2, h3, h4, h5⟩ := el_step intE h hl
    rw [w_slices_IndexFunc___int_int__L0]
    simp only [h1, h2, h3, h4, intE, w_shape_within_1, List.all_cons, Option.bind_some, Option.bind_none, andB, orB, orB2, List.getD_cons_zero, List.getD_cons_succ, toB_b, toI_i, toS_s, toL_l, cond_true, cond_false, List.length_map]
    cases hx : (decide (x < a) || decide (x > b)) with
    | true =>
      refine ⟨_, rfl, ?_⟩
      have : inB2 a b x = false := by
        unfold inB2
        simp only [Bool.or_eq_true, decide_eq_true_eq] at hx
        simp; omega
      rw [this]; simp
    | false =>
      have : inB2 a b x = true := by
        unfold inB2
        simp only [Bool.or_eq_false_iff, decide_eq_false_iff_not] at hx
        simp; omega
      rw [this, cond_false, Bool.true_and]
      exact idxInt_loop hl a b rest _ h5
theorem within_c {l : List Int} (hl : l.length ≤ 2 ^ 40) (a b : Int) : cW f_shape_within [.i a, .i b, .l (l.map intE)] [] = some ([.b (l.all (inB2 a b))], []) := by
  obtain ⟨n, h1, h2⟩ := idxInt_loop hl a b l [] rfl
  rw [w_shape_within]
  simp only [List.length_cons, List.length_nil]
  rw [w_slices_ContainsFunc___int_int_, w_slices_IndexFunc___int_int_]
  simp only [List.length_map]
  rw [show (0 : Int) = ((([] : List Int).length : Nat) : Int) from rfl, h1]
  simp only [Option.bind_some, Option.bind_none, andB, orB, orB2, List.getD_cons_zero, List.getD_cons_succ, toB_b, toI_i, toS_s, toL_l, cond_true, cond_false, List.length_map]
  rw [show decide (n ≥ ((([] : List Int).length : Nat) : Int)) = decide (n ≥ 0) from rfl, h2, Bool.not_not]
theorem within1_c (a b x : Int) : cW f_shape_within [.i a, .i b, .l (List.set [[PV.i 0]] 0 [PV.i x])] [] = some ([.b (inB2 a b x)], []) := by
  have := within_c (l := [x]) (by show (1 : Nat) ≤ _; decide) a b
  simpa [intE] using this
theorem within2_c (a b x y : Int) : cW f_shape_within [.i a, .i b, .l (List.set (List.set [[PV.i 0], [PV.i 0]] 0 [PV.i x]) 1 [PV.i y])] [] = some ([.b (inB2 a b x && inB2 a b y)], []) := by
  have := within_c (l := [x, y]) (by show (2 : Nat) ≤ _; decide) a b
  simpa [intE] using this
theorem within4_c (a b x y z u : Int) : cW f_shape_within [.i a, .i b, .l (List.set (List.set (List.set (List.set [[PV.i 0], [PV.i 0], [PV.i 0], [PV.i 0]] 0 [PV.i x]) 1 [PV.i y]) 2 [PV.i z]) 3 [PV.i u])] [] = some ([.b (inB2 a b x && (inB2 a b y && (inB2 a b z && inB2 a b u)))], []) := by
  have := within_c (l := [x, y, z, u]) (by show (4 : Nat) ≤ _; decide) a b
  simpa [intE] using this
/-! ### the same -/
theorem eqStrks_loop {l m : List Strk} (hl : l.length ≤ 2 ^ 40) : ∀ (r r' p p' : List Strk), l = p ++ r → m = p' ++ r' → p.length = p'.length → r.length = r'.length →
    rW f_slices_Equal___celluloid_api_Stroke_celluloid_api_Stroke_ [] at_slices_Equal___celluloid_api_Stroke_celluloid_api_Stroke__L0 (S_slices_Equal___celluloid_api_Stroke_celluloid_api_Stroke__L0 (l.map Strk.e) (m.map Strk.e) l.length p.length) = some ([.b (decide (r = r'))], [])
  | [], [], p, p', h, h', hp, hr => by
    rw [w_slices_Equal___celluloid_api_Stroke_celluloid_api_Stroke__L0]; simp only [el_end h, Option.bind_some, Option.bind_none, andB, orB, orB2, List.getD_cons_zero, List.getD_cons_succ, toB_b, toI_i, toS_s, toL_l, cond_true, cond_false, List.length_map]; rfl
  | [], y :: r', p, p', h, h', hp, hr => by simp at hr
  | x :: r, [], p, p', h, h', hp, hr => by simp at hr
  | x :: r, y :: r', p, p', h, h', hp, hr => by
    have hm : m.length ≤ 2 ^ 40 := by rw [h']; rw [h] at hl; simp at hl hr ⊢; omega
    obtain ⟨h1, h2, h3, h4, h5⟩ := el_step Strk.e h hl
    obtain ⟨_, k2, k3, _, k5⟩ := el_step Strk.e h' hm
    rw [← hp] at k2 k3
    rw [w_slices_Equal___celluloid_api_Stroke_celluloid_api_Stroke__L0]
    simp only [h1, h2, h3, h4, k2, k3, Strk.e, Option.bind_some, Option.bind_none, andB, orB, orB2, List.getD_cons_zero, List.getD_cons_succ, toB_b, toI_i, toS_s, toL_l, cond_true, cond_false, List.length_map]
    rw [strk_eq, list_eq_step']
    cases h : decide (x = y) with
    | false => simp only [Bool.not_false, cond_true, Bool.false_and]
    | true =>
      rw [Bool.not_true, cond_false, Bool.true_and]
      exact eqStrks_loop hl r r' _ _ h5 k5 (by simp [hp]) (by simpa using hr)
theorem eqStrks_c {l m : List Strk} (hl : l.length ≤ 2 ^ 40) : cW f_slices_Equal___celluloid_api_Stroke_celluloid_api_Stroke_ [.l (l.map Strk.e), .l (m.map Strk.e)] [] = some ([.b (decide (l = m))], []) := by
  rw [w_slices_Equal___celluloid_api_Stroke_celluloid_api_Stroke_]
  simp only [List.length_map]
  by_cases h : l.length = m.length
  · rw [show (((l.length : Nat) : Int) != ((m.length : Nat) : Int)) = false by simp [h], cond_false]
    exact eqStrks_loop hl l m [] [] rfl rfl rfl h
  · rw [show (((l.length : Nat) : Int) != ((m.length : Nat) : Int)) = true by simp [h]; omega, cond_true]
    rw [decide_eq_false (fun e => h (by rw [e]))]
def numsEq (a b : Rec) : Bool := (a.kind == b.kind) && ((a.x == b.x) && ((a.y == b.y) && ((a.cx == b.cx) && ((a.cy == b.cy) && ((a.left == b.left) && ((a.right == b.right) && (a.line == b.line)))))))
theorem rec_eq (a b : Rec) : decide (a = b) = (numsEq a b && (decide (a.fills = b.fills) && decide (a.strks = b.strks))) := by
  obtain ⟨a1, a2, a3, a4, a5, a6, a7, a8, a9, a10⟩ := a; obtain ⟨b1, b2, b3, b4, b5, b6, b7, b8, b9, b10⟩ := b
  unfold numsEq
  rw [Bool.eq_iff_iff]; simp [and_assoc]
theorem same_loop (a b : Rec) (ha : a.sh) : ∀ (r r' p p' : List Fill), a.fills = p ++ r → b.fills = p' ++ r' → p.length = p'.length → r.length = r'.length →
    rW f_shape_same [] at_shape_same_L0 (S_shape_same_L0 a.fills.length p.length a.kind a.x a.y a.cx a.cy a.left a.right a.line (a.fills.map Fill.e) (a.strks.map Strk.e) b.kind b.x b.y b.cx b.cy b.left b.right b.line (b.fills.map Fill.e) (b.strks.map Strk.e)) = some ([.b (decide (r = r') && numsEq a b)], [])
  | [], [], p, p', h, h', hp, hr => by
    rw [w_shape_same_L0]; simp only [el_end h, Option.bind_some, Option.bind_none, andB, orB, orB2, List.getD_cons_zero, List.getD_cons_succ, toB_b, toI_i, toS_s, toL_l, cond_true, cond_false, List.length_map]; rfl
  | [], y :: r', p, p', h, h', hp, hr => by simp at hr
  | x :: r, [], p, p', h, h', hp, hr => by simp at hr
  | x :: r, y :: r', p, p', h, h', hp, hr => by
    have hm : b.fills.length ≤ 2 ^ 40 := by have hl := ha.1; rw [h']; rw [h] at hl; simp at hl hr ⊢; omega
    obtain ⟨h1, h2, h3, h4, h5⟩ := el_step Fill.e h ha.1
    obtain ⟨_, k2, k3, _, k5⟩ := el_step Fill.e h' hm
    rw [← hp] at k2 k3
    have e := sameFill_c x y (ha.2.2 x (by rw [h]; simp))
    simp only [Fill.e, List.cons_append, List.nil_append] at e
    rw [w_shape_same_L0]
    simp only [h1, h2, h3, h4, k2, k3, Fill.e, e, Option.bind_some, Option.bind_none, andB, orB, orB2, List.getD_cons_zero, List.getD_cons_succ, toB_b, toI_i, toS_s, toL_l, cond_true, cond_false, List.length_map]
    rw [list_eq_step']
    cases h : decide (x = y) with
    | false => simp only [Bool.not_false, cond_true, Bool.false_and]
    | true =>
      rw [Bool.not_true, cond_false, Bool.true_and]
      exact same_loop a b ha r r' _ _ h5 k5 (by simp [hp]) (by simpa using hr)
theorem same_c (a b : Rec) (ha : a.sh) : cW f_shape_same (a.e ++ b.e) [] = some ([.b (decide (a = b))], []) := by
  simp only [Rec.e, List.cons_append, List.nil_append]
  rw [w_shape_same, rec_eq]
  simp only [eqStrks_c ha.2.1, Option.bind_some, Option.bind_none, andB, orB, orB2, List.getD_cons_zero, List.getD_cons_succ, toB_b, toI_i, toS_s, toL_l, cond_true, cond_false, List.length_map]
  by_cases h : a.fills.length = b.fills.length
  · rw [show (((a.fills.length : Nat) : Int) != ((b.fills.length : Nat) : Int)) = false by simp [h], Bool.false_or]
    cases hs : decide (a.strks = b.strks) with
    | false => simp only [Bool.not_false, cond_true, Bool.and_false]
    | true =>
      rw [Bool.not_true, cond_false, Bool.and_true, Bool.and_comm]
      exact same_loop a b ha a.fills b.fills [] [] rfl rfl rfl h
  · rw [show (((a.fills.length : Nat) : Int) != ((b.fills.length : Nat) : Int)) = true by simp [h]; omega, Bool.true_or, cond_true]
    rw [decide_eq_false (p := a.fills = b.fills) (fun e => h (by rw [e])), Bool.false_and, Bool.and_false]
def Shs (l : List Rec) : Prop := ∀ r, r ∈ l → r.sh
end Go.AI
set_option linter.unusedVariables false
set_option linter.unusedSimpArgs false
set_option maxRecDepth 100000
namespace Go.AI
open Go Go.Proofs

def Rec.wf (r : Rec) : Prop := r.fills.length ≤ maxLen ∧ r.strks.length ≤ maxLen
abbrev LRec (f t : TypeId) : List LTy := [.int .i64, .int .i64, .int .i64, .int .i64, .int .i64, .int .i64, .int .i64, .int .i64, .sl f, .sl t]
theorem rec_of {P : Program} {f t k : TypeId} (hf : leaves P f = some (LFill k)) (hk : leaves P k = some (.int .i64 :: L4)) (ht : leaves P t = some (.int .i64 :: L4)) (x : List PV) (h : PWL P (LRec f t) x) : ∃ r : Rec, x = r.e ∧ r.wf := by
  obtain ⟨x0, q, rfl, w0, h⟩ := int_cons h
  obtain ⟨x1, q, rfl, w1, h⟩ := int_cons h
  obtain ⟨x2, q, rfl, w2, h⟩ := int_cons h
  obtain ⟨x3, q, rfl, w3, h⟩ := int_cons h
  obtain ⟨x4, q, rfl, w4, h⟩ := int_cons h
  obtain ⟨x5, q, rfl, w5, h⟩ := int_cons h
  obtain ⟨x6, q, rfl, w6, h⟩ := int_cons h
  obtain ⟨x7, q, rfl, w7, h⟩ := int_cons h
  obtain ⟨l, q, rfl, hl, hw, h⟩ := sl_cons (e := Fill.e) hf (fill_of hk) h
  obtain ⟨m, q, rfl, hm, hv, h⟩ := sl_cons (e := Strk.e) ht strk_of h
  obtain rfl := h.nil
  exact ⟨⟨x0, x1, x2, x3, x4, x5, x6, x7, l, m⟩, rfl, hl, hm⟩
end Go.AI
set_option linter.unusedVariables false
set_option linter.unusedSimpArgs false
set_option maxRecDepth 100000
namespace Go.AI
open Go Go.Proofs

def noSt (r : Rec) : Prop := r.left = 0 ∧ r.right = 0 ∧ r.line = 0
def noLi (r : Rec) : Prop := r.fills.length = 0 ∧ r.strks.length = 0
def noCt (r : Rec) : Prop := r.cx = 0 ∧ r.cy = 0
def noPt (r : Rec) : Prop := r.x = 0 ∧ r.y = 0
def inR (a b n : Int) : Prop := a ≤ n ∧ n ≤ b
instance (r : Rec) : Decidable (noSt r) := by unfold noSt; infer_instance
instance (r : Rec) : Decidable (noLi r) := by unfold noLi; infer_instance
instance (r : Rec) : Decidable (noCt r) := by unfold noCt; infer_instance
instance (r : Rec) : Decidable (noPt r) := by unfold noPt; infer_instance
instance (a b n : Int) : Decidable (inR a b n) := by unfold inR; infer_instance
def recB (r : Rec) (f s : Int) : Bool :=
  bif r.kind == 1 then decide (noSt r ∧ noLi r ∧ noCt r ∧ inR (-1048576) 1048576 r.x ∧ inR (-1048576) 1048576 r.y)
  else bif r.kind == 2 then decide (noLi r ∧ noCt r ∧ noPt r ∧ (r.left ≥ 0 ∨ r.right ≥ 0 ∨ r.line ≥ 0) ∧ inR (-1) f r.left ∧ inR (-1) f r.right ∧ inR (-1) s r.line)
  else bif r.kind == 3 then decide (noSt r ∧ noCt r ∧ noPt r) && listsB r.fills r.strks
  else bif r.kind == 4 then decide (noSt r ∧ noLi r ∧ noCt r ∧ inR (-65536) 65535 r.x ∧ inR (-65536) 65535 r.y)
  else bif r.kind == 5 then decide (noSt r ∧ noLi r ∧ inR (-65536) 65535 r.x ∧ inR (-65536) 65535 r.y ∧ inR (-65536) 65535 r.cx ∧ inR (-65536) 65535 r.cy)
  else false
theorem inR_iff (a b n : Int) : inB2 a b n = true ↔ inR a b n := by unfold inB2 inR; simp
theorem rec_iff (r : Rec) (k x y cx cy l t n : Int) (f : List Fill) (s : List Strk) : r = ⟨k, x, y, cx, cy, l, t, n, f, s⟩ ↔ r.kind = k ∧ r.x = x ∧ r.y = y ∧ r.cx = cx ∧ r.cy = cy ∧ r.left = l ∧ r.right = t ∧ r.line = n ∧ r.fills = f ∧ r.strks = s := by
  obtain ⟨a1, a2, a3, a4, a5, a6, a7, a8, a9, a10⟩ := r
  simp
theorem sound_c (r : Rec) (h : r.sh) (f s : Int) : cW f_shape_sound (r.e ++ [.i f, .i s]) [] = some ([.b (recB r f s)], []) := by
  have e1 := same_c r ⟨r.kind, r.x, r.y, 0, 0, 0, 0, 0, [], []⟩ h
  have e2 := same_c r ⟨r.kind, 0, 0, 0, 0, r.left, r.right, r.line, [], []⟩ h
  have e3 := same_c r ⟨r.kind, 0, 0, 0, 0, 0, 0, 0, r.fills, r.strks⟩ h
  have e5 := same_c r ⟨r.kind, r.x, r.y, r.cx, r.cy, 0, 0, 0, [], []⟩ h
  simp only [Rec.e, List.cons_append, List.nil_append, List.map_nil] at e1 e2 e3 e5 ⊢
  rw [w_shape_sound]
  simp only [within1_c, within2_c, within4_c, right_c h.1 h.2.1 h.2.2, e1, e2, e3, e5, Option.bind_some, Option.bind_none, andB, orB, orB2, List.getD_cons_zero, List.getD_cons_succ, toB_b, toI_i, toS_s, toL_l, cond_true, cond_false, List.length_map]
  unfold recB
  cases k1 : (r.kind == 1) with
  | true =>
    simp only [cond_true]
    refine congrArg (fun b => some ([PV.b b], ([] : List BX))) ?_
    rw [Bool.eq_iff_iff]
    simp only [Bool.and_eq_true, decide_eq_true_eq, inR_iff, rec_iff, List.length_eq_zero_iff]
    simp only [noSt, noLi, noCt, List.length_eq_zero_iff]
    constructor
    · rintro ⟨⟨a, b⟩, c⟩; obtain ⟨_, _, _, c1, c2, c3, c4, c5, c6, c7⟩ := c; exact ⟨⟨c3, c4, c5⟩, ⟨c6, c7⟩, ⟨c1, c2⟩, a, b⟩
    · rintro ⟨⟨c3, c4, c5⟩, ⟨c6, c7⟩, ⟨c1, c2⟩, a, b⟩; exact ⟨⟨a, b⟩, trivial, trivial, trivial, c1, c2, c3, c4, c5, c6, c7⟩
  | false =>
    simp only [cond_false]
    cases k2 : (r.kind == 2) with
    | true =>
      simp only [cond_true]
      refine congrArg (fun b => some ([PV.b b], ([] : List BX))) ?_
      rw [Bool.eq_iff_iff]
      have hm : ((bif decide (r.line > bif decide (r.right > r.left) then r.right else r.left) then r.line else bif decide (r.right > r.left) then r.right else r.left) ≥ 0) ↔ (r.left ≥ 0 ∨ r.right ≥ 0 ∨ r.line ≥ 0) := by
        simp only [Bool.cond_decide]
        split <;> split <;> omega
      simp only [Bool.and_eq_true, decide_eq_true_eq, inR_iff, rec_iff, List.length_eq_zero_iff, hm]
      simp only [noLi, noCt, noPt, List.length_eq_zero_iff]
      constructor
      · rintro ⟨⟨a, b⟩, c, d, q⟩; obtain ⟨_, q1, q2, q3, q4, _, _, _, q6, q7⟩ := q; exact ⟨⟨q6, q7⟩, ⟨q3, q4⟩, ⟨q1, q2⟩, d, a, b, c⟩
      · rintro ⟨⟨q6, q7⟩, ⟨q3, q4⟩, ⟨q1, q2⟩, d, a, b, c⟩; exact ⟨⟨a, b⟩, c, d, trivial, q1, q2, q3, q4, trivial, trivial, trivial, q6, q7⟩
    | false =>
      simp only [cond_false]
      cases k3 : (r.kind == 3) with
      | true =>
        simp only [cond_true]
        refine congrArg (fun b => some ([PV.b b], ([] : List BX))) ?_
        rw [Bool.eq_iff_iff]
        simp only [Bool.and_eq_true, decide_eq_true_eq, rec_iff]
        simp only [noSt, noCt, noPt]
        constructor
        · rintro ⟨a, q⟩; obtain ⟨_, q1, q2, q3, q4, q5, q6, q7, _, _⟩ := q; exact ⟨⟨⟨q5, q6, q7⟩, ⟨q3, q4⟩, q1, q2⟩, a⟩
        · rintro ⟨⟨⟨q5, q6, q7⟩, ⟨q3, q4⟩, q1, q2⟩, a⟩; exact ⟨a, trivial, q1, q2, q3, q4, q5, q6, q7, trivial, trivial⟩
      | false =>
        simp only [cond_false]
        cases k4 : (r.kind == 4) with
        | true =>
          simp only [cond_true]
          refine congrArg (fun b => some ([PV.b b], ([] : List BX))) ?_
          rw [Bool.eq_iff_iff]
          simp only [Bool.and_eq_true, decide_eq_true_eq, inR_iff, rec_iff, List.length_eq_zero_iff]
          simp only [noSt, noLi, noCt, List.length_eq_zero_iff]
          constructor
          · rintro ⟨⟨a, b⟩, c⟩; obtain ⟨_, _, _, c1, c2, c3, c4, c5, c6, c7⟩ := c; exact ⟨⟨c3, c4, c5⟩, ⟨c6, c7⟩, ⟨c1, c2⟩, a, b⟩
          · rintro ⟨⟨c3, c4, c5⟩, ⟨c6, c7⟩, ⟨c1, c2⟩, a, b⟩; exact ⟨⟨a, b⟩, trivial, trivial, trivial, c1, c2, c3, c4, c5, c6, c7⟩
        | false =>
          simp only [cond_false]
          cases k5 : (r.kind == 5) with
          | true =>
            simp only [cond_true]
            refine congrArg (fun b => some ([PV.b b], ([] : List BX))) ?_
            rw [Bool.eq_iff_iff]
            simp only [Bool.and_eq_true, decide_eq_true_eq, inR_iff, rec_iff, List.length_eq_zero_iff]
            simp only [noSt, noLi, List.length_eq_zero_iff]
            constructor
            · rintro ⟨⟨a, b, c, d⟩, q⟩; obtain ⟨_, _, _, _, _, c3, c4, c5, c6, c7⟩ := q; exact ⟨⟨c3, c4, c5⟩, ⟨c6, c7⟩, a, b, c, d⟩
            · rintro ⟨⟨c3, c4, c5⟩, ⟨c6, c7⟩, a, b, c, d⟩; exact ⟨⟨a, b, c, d⟩, trivial, trivial, trivial, trivial, trivial, c3, c4, c5, c6, c7⟩
          | false => rfl
/-! ### lists of records -/
def kindB (r : Rec) (kind : Int) : Bool := !((r.kind == 3) && (kind != 0)) && !((r.kind == 2) && (kind == 2))
def nextF (r : Rec) (f s : Int) : Int × Int := bif r.kind == 3 then ((r.fills.length : Int), (r.strks.length : Int)) else (f, s)
def recsB : Int → Int → List Rec → Int → Bool
  | _, _, [], _ => true
  | f, s, r :: l, kind => (recB r f s && kindB r kind) && recsB (nextF r f s).1 (nextF r f s).2 l kind
def rightRecs (f s : Int) (l : List Rec) (kind : Int) : Bool := inB2 0 15 f && (inB2 0 15 s && (inB2 0 2 kind && (decide (((l.length : Nat) : Int) ≤ 512) && recsB f s l kind)))
theorem rr_loop {l : List Rec} (hl : l.length ≤ 2 ^ 40) (hs : Shs l) (kind : Int) : ∀ (rest pre : List Rec) (f s : Int), l = pre ++ rest →
    rW f_shape_RightRecords [] at_shape_RightRecords_L0 (S_shape_RightRecords_L0 f s kind (l.map Rec.e) l.length pre.length) = some ([.b (recsB f s rest kind)], [])
  | [], pre, f, s, h => by
    rw [w_shape_RightRecords_L0]; simp only [el_end h, Option.bind_some, Option.bind_none, andB, orB, orB2, List.getD_cons_zero, List.getD_cons_succ, toB_b, toI_i, toS_s, toL_l, cond_true, cond_false, List.length_map]; rfl
  | x :: rest, pre, f, s, h => by
    obtain ⟨h1, h2, h3, h4, h5⟩ := el_step Rec.e h hl
    have e := sound_c x (hs x (by rw [h]; simp)) f s
    simp only [Rec.e, List.cons_append, List.nil_append] at e
    have ih := rr_loop hl hs kind rest _ (nextF x f s).1 (nextF x f s).2 h5
    rw [w_shape_RightRecords_L0]
    simp only [h1, h2, h3, h4, Rec.e, e, Option.bind_some, Option.bind_none, andB, orB, orB2, List.getD_cons_zero, List.getD_cons_succ, toB_b, toI_i, toS_s, toL_l, cond_true, cond_false, List.length_map]
    unfold recsB
    cases hr : recB x f s with
    | false => rfl
    | true =>
      have hk : kindB x kind = !((x.kind == 3 && kind != 0) || (x.kind == 2 && kind == 2)) := by unfold kindB; rw [Bool.not_or]
      rw [hk]
      unfold nextF at ih ⊢
      cases k3 : (x.kind == 3) with
      | true =>
        have k2 : (x.kind == 2) = false := by simp only [beq_iff_eq] at k3; rw [k3]; rfl
        rw [k3] at ih
        simp only [k2, Bool.and_true, Bool.true_and, Bool.and_false, Bool.false_and, Bool.or_true, Bool.true_or, Bool.or_false, Bool.false_or, Bool.not_true, Bool.not_false, Option.bind_some, Option.bind_none, andB, orB, orB2, List.getD_cons_zero, List.getD_cons_succ, toB_b, toI_i, toS_s, toL_l, cond_true, cond_false, List.length_map] at ih ⊢
        cases (kind != 0) with
        | true => rfl
        | false => simpa using ih
      | false =>
        rw [k3] at ih
        simp only [Bool.and_true, Bool.true_and, Bool.and_false, Bool.false_and, Bool.or_true, Bool.true_or, Bool.or_false, Bool.false_or, Bool.not_true, Bool.not_false, Option.bind_some, Option.bind_none, andB, orB, orB2, List.getD_cons_zero, List.getD_cons_succ, toB_b, toI_i, toS_s, toL_l, cond_true, cond_false, List.length_map] at ih ⊢
        cases (x.kind == 2) with
        | true =>
          simp only [Bool.and_true, Bool.true_and, Bool.and_false, Bool.false_and, Bool.or_true, Bool.true_or, Bool.or_false, Bool.false_or, Bool.not_true, Bool.not_false, Option.bind_some, Option.bind_none, andB, orB, orB2, List.getD_cons_zero, List.getD_cons_succ, toB_b, toI_i, toS_s, toL_l, cond_true, cond_false, List.length_map]
          cases (kind == 2) with
          | true => rfl
          | false => simpa using ih
        | false => simpa using ih
theorem rightRecs_c {l : List Rec} (hl : l.length ≤ 2 ^ 40) (hs : Shs l) (f s kind : Int) : cW f_shape_RightRecords [.i f, .i s, .l (l.map Rec.e), .i kind] [] = some ([.b (rightRecs f s l kind)], []) := by
  have e := rr_loop hl hs kind l [] f s rfl
  rw [w_shape_RightRecords]
  simp only [within2_c, within1_c, Option.bind_some, Option.bind_none, andB, orB, orB2, List.getD_cons_zero, List.getD_cons_succ, toB_b, toI_i, toS_s, toL_l, cond_true, cond_false, List.length_map]
  unfold rightRecs
  cases inB2 0 15 f with
  | false => rfl
  | true =>
    cases inB2 0 15 s with
    | false => rfl
    | true =>
      cases inB2 0 2 kind with
      | false => rfl
      | true =>
        simp only [Bool.and_true, Bool.true_and, Bool.and_false, Bool.false_and, Bool.or_true, Bool.true_or, Bool.or_false, Bool.false_or, Bool.not_true, Bool.not_false, Option.bind_some, Option.bind_none, andB, orB, orB2, List.getD_cons_zero, List.getD_cons_succ, toB_b, toI_i, toS_s, toL_l, cond_true, cond_false, List.length_map]
        by_cases h : ((l.length : Nat) : Int) ≤ 512
        · rw [decide_eq_false (p := ((l.length : Nat) : Int) > 512) (by omega), decide_eq_true h]
          exact e
        · rw [decide_eq_true (p := ((l.length : Nat) : Int) > 512) (by omega), decide_eq_false h]; rfl
end Go.AI
set_option linter.unusedVariables false
set_option linter.unusedSimpArgs false
set_option maxRecDepth 100000
namespace Go.AI
open Go Go.Proofs

/-- writers go on -/
def Wgo (n : Nat) (w w' : Wt) : Prop := WOk w' ∧ WExt w w' ∧ w'.1.length ≤ w.1.length + n
theorem Wgo.trans {n m k : Nat} {w w' w'' : Wt} (h : Wgo n w w') (h' : Wgo m w' w'') (hk : n + m ≤ k) : Wgo k w w'' := ⟨h'.1, h.2.1.trans h'.2.1, by have := h.2.2; have := h'.2.2; omega⟩
/-- what is right of a kind -/
theorem recB_move {r : Rec} {f s : Int} (h : recB r f s = true) (k : r.kind = 1) : (noSt r ∧ noLi r ∧ noCt r) ∧ (-1048576 ≤ r.x ∧ r.x ≤ 1048576) ∧ (-1048576 ≤ r.y ∧ r.y ≤ 1048576) := by
  unfold recB at h; rw [k] at h
  obtain ⟨a, b, c, d, e⟩ := of_decide_eq_true h
  exact ⟨⟨a, b, c⟩, d, e⟩
theorem recB_set {r : Rec} {f s : Int} (h : recB r f s = true) (k : r.kind = 2) : (noLi r ∧ noCt r ∧ noPt r) ∧ (r.left ≥ 0 ∨ r.right ≥ 0 ∨ r.line ≥ 0) ∧ (-1 ≤ r.left ∧ r.left ≤ f) ∧ (-1 ≤ r.right ∧ r.right ≤ f) ∧ (-1 ≤ r.line ∧ r.line ≤ s) := by
  unfold recB at h; rw [k] at h
  obtain ⟨a, b, c, d, e, g, i⟩ := of_decide_eq_true h
  exact ⟨⟨a, b, c⟩, d, e, g, i⟩
theorem recB_line {r : Rec} {f s : Int} (h : recB r f s = true) (k : r.kind = 4) : (noSt r ∧ noLi r ∧ noCt r) ∧ (-65536 ≤ r.x ∧ r.x ≤ 65535) ∧ (-65536 ≤ r.y ∧ r.y ≤ 65535) := by
  unfold recB at h; rw [k] at h
  obtain ⟨a, b, c, d, e⟩ := of_decide_eq_true h
  exact ⟨⟨a, b, c⟩, d, e⟩
theorem recB_curve {r : Rec} {f s : Int} (h : recB r f s = true) (k : r.kind = 5) : (noSt r ∧ noLi r) ∧ (-65536 ≤ r.x ∧ r.x ≤ 65535) ∧ (-65536 ≤ r.y ∧ r.y ≤ 65535) ∧ (-65536 ≤ r.cx ∧ r.cx ≤ 65535) ∧ (-65536 ≤ r.cy ∧ r.cy ≤ 65535) := by
  unfold recB at h; rw [k] at h
  obtain ⟨a, b, c, d, e, g⟩ := of_decide_eq_true h
  exact ⟨⟨a, b⟩, c, d, e, g⟩
theorem recB_kind {r : Rec} {f s : Int} (h : recB r f s = true) : r.kind = 1 ∨ r.kind = 2 ∨ r.kind = 3 ∨ r.kind = 4 ∨ r.kind = 5 := by
  by_cases k1 : r.kind = 1
  · exact .inl k1
  by_cases k2 : r.kind = 2
  · exact .inr (.inl k2)
  by_cases k3 : r.kind = 3
  · exact .inr (.inr (.inl k3))
  by_cases k4 : r.kind = 4
  · exact .inr (.inr (.inr (.inl k4)))
  by_cases k5 : r.kind = 5
  · exact .inr (.inr (.inr (.inr k5)))
  unfold recB at h
  rw [show (r.kind == 1) = false by simpa using k1, show (r.kind == 2) = false by simpa using k2, show (r.kind == 3) = false by simpa using k3, show (r.kind == 4) = false by simpa using k4, show (r.kind == 5) = false by simpa using k5] at h
  cases h
end Go.AI
set_option linter.unusedVariables false
set_option linter.unusedSimpArgs false
set_option maxRecDepth 100000
namespace Go.AI
open Go Go.Proofs

end Go.AI
set_option linter.unusedVariables false
set_option linter.unusedSimpArgs false
set_option maxRecDepth 100000
namespace Go.AI
open Go Go.Proofs

theorem rightRecs_r {f s kind : Int} {l : List Rec} (h : rightRecs f s l kind = true) : (0 ≤ f ∧ f ≤ 15) ∧ (0 ≤ s ∧ s ≤ 15) ∧ (0 ≤ kind ∧ kind ≤ 2) ∧ l.length ≤ 512 ∧ recsB f s l kind = true := by
  unfold rightRecs at h
  simp only [Bool.and_eq_true, decide_eq_true_eq, inR_iff] at h
  exact ⟨h.1, h.2.1, h.2.2.1, by omega, h.2.2.2.2⟩
end Go.AI
set_option linter.unusedVariables false
set_option linter.unusedSimpArgs false
set_option maxRecDepth 100000
namespace Go.AI
open Go Go.Proofs

/-- a reader of records -/
structure RS where
  σ : Rs
  fs : Int
  ss : Int
  a : Int
  b : Int
  l : List Rec
def RS.ok (x : RS) : Prop := LenOk x.σ ∧ x.l.length ≤ 100000
theorem rec_row (l : List Rec) (r : Rec) : l.map Rec.e ++ List.set [[PV.i 0, PV.i 0, PV.i 0, PV.i 0, PV.i 0, PV.i 0, PV.i 0, PV.i 0, PV.l [], PV.l []]] 0 [PV.i r.kind, PV.i r.x, PV.i r.y, PV.i r.cx, PV.i r.cy, PV.i r.left, PV.i r.right, PV.i r.line, PV.l (r.fills.map Fill.e), PV.l (r.strks.map Strk.e)] = (l ++ [r]).map Rec.e := by
  rw [List.map_append]; rfl
end Go.AI
set_option linter.unusedVariables false
set_option linter.unusedSimpArgs false
set_option maxRecDepth 100000
namespace Go.AI
open Go Go.Proofs

end Go.AI
set_option linter.unusedVariables false
set_option linter.unusedSimpArgs false
set_option maxRecDepth 100000
namespace Go.AI
open Go Go.Proofs

/-- what went on well went on forward -/
def Adv (σ τ : Rs) : Prop := τ.2.2 = 0 → σ.2.2 = 0 ∧ τ.1 = σ.1 ∧ σ.2.1 ≤ τ.2.1
theorem Adv.trans {σ τ ρ : Rs} (h : Adv σ τ) (k : Adv τ ρ) : Adv σ ρ := fun e => by
  obtain ⟨a, b, c⟩ := k e
  obtain ⟨a', b', c'⟩ := h a
  exact ⟨a', b.trans b', Int.le_trans c' c⟩
end Go.AI
set_option linter.unusedVariables false
set_option linter.unusedSimpArgs false
set_option maxRecDepth 100000
namespace Go.AI
open Go Go.Proofs

end Go.AI
set_option linter.unusedVariables false
set_option linter.unusedSimpArgs false
set_option maxRecDepth 100000
namespace Go.AI
open Go Go.Proofs

end Go.AI
set_option linter.unusedVariables false
set_option linter.unusedSimpArgs false
set_option maxRecDepth 100000
namespace Go.AI
open Go Go.Proofs

/-- a shape's parts: the number, the frame, the fills, the strokes, the records -/
abbrev T9 := Int × I4 × List Fill × List Strk × List Rec
def e9 (t : T9) : List PV := [.i t.1, .i t.2.1.1, .i t.2.1.2.1, .i t.2.1.2.2.1, .i t.2.1.2.2.2, .l (t.2.2.1.map Fill.e), .l (t.2.2.2.1.map Strk.e), .l (t.2.2.2.2.map Rec.e)]
/-- short enough -/
def sh9 (t : T9) : Prop := t.2.2.1.length ≤ 2 ^ 40 ∧ Shorts t.2.2.1 ∧ t.2.2.2.1.length ≤ 2 ^ 40 ∧ t.2.2.2.2.length ≤ 2 ^ 40 ∧ Shs t.2.2.2.2
end Go.AI
set_option linter.unusedVariables false
set_option linter.unusedSimpArgs false
set_option maxRecDepth 100000
namespace Go.AI
open Go Go.Proofs

end Go.AI
set_option linter.unusedVariables false
set_option linter.unusedSimpArgs false
set_option maxRecDepth 100000
namespace Go.AI
open Go Go.Proofs

end Go.AI
set_option linter.unusedVariables false
set_option linter.unusedSimpArgs false
set_option maxRecDepth 100000
namespace Go.AI
open Go Go.Proofs

end Go.AI
set_option linter.unusedVariables false
set_option linter.unusedSimpArgs false
set_option maxRecDepth 100000
namespace Go.AI
open Go Go.Proofs

end Go.AI
set_option linter.unusedVariables false
set_option linter.unusedSimpArgs false
set_option maxRecDepth 100000
namespace Go.AI
open Go Go.Proofs

end Go.AI
set_option linter.unusedVariables false
set_option linter.unusedSimpArgs false
set_option maxRecDepth 100000
namespace Go.AI
open Go Go.Proofs

end Go.AI
set_option linter.unusedVariables false
set_option linter.unusedSimpArgs false
set_option maxRecDepth 100000
namespace Go.AI
open Go Go.Proofs

end Go.AI
set_option linter.unusedVariables false
set_option linter.unusedSimpArgs false
set_option maxRecDepth 100000
namespace Go.AI
open Go Go.Proofs

end Go.AI
set_option linter.unusedVariables false
set_option linter.unusedSimpArgs false
set_option maxRecDepth 100000
namespace Go.AI
open Go Go.Proofs

def smallR (l : List Rec) : Bool := (l.take 600).all (fun r => smallB r.fills r.strks) && decide (l.length ≤ 600)
theorem small9_loop {l : List Rec} (hl : l.length ≤ 9223372036854775807) (hf : ∀ r, r ∈ l → r.fills.length ≤ 9223372036854775807) : ∀ (rest pre : List Rec), l = pre ++ rest → pre.length ≤ 600 →
    rW f_celluloidref09_Small [] at_celluloidref09_Small_L0 (S_celluloidref09_Small_L0 (l.map Rec.e) 600 pre.length) = some ([.b ((rest.take (600 - pre.length)).all (fun r => smallB r.fills r.strks) && decide (l.length ≤ 600))], [])
  | [], pre, h, hp => by
    rw [w_celluloidref09_Small_L0]
    simp only [el_end h, Option.bind_some, Option.bind_none, andB, orB, orB2, List.getD_cons_zero, List.getD_cons_succ, toB_b, toI_i, toS_s, toL_l, cond_true, cond_false, List.length_map]
    rw [show decide (((l.length : Nat) : Int) ≤ 600) = decide (l.length ≤ 600) by simp; omega]
    simp
  | x :: rest, pre, h, hp => by
    obtain ⟨h1, h2, h3, h4, h5⟩ := el_stepM Rec.e h hl
    have e := small_c (l := x.fills) (m := x.strks) (hf x (by rw [h]; simp))
    rw [w_celluloidref09_Small_L0]
    simp only [h1, h2, h3, h4, Rec.e, e, Option.bind_some, Option.bind_none, andB, orB, orB2, List.getD_cons_zero, List.getD_cons_succ, toB_b, toI_i, toS_s, toL_l, cond_true, cond_false, List.length_map]
    by_cases hx : pre.length < 600
    · rw [decide_eq_true (p := ((pre.length : Nat) : Int) < 600) (by omega)]
      rw [show 600 - pre.length = (600 - (pre ++ [x]).length) + 1 by simp; omega, List.take_succ_cons, List.all_cons]
      cases hsm : smallB x.fills x.strks with
      | true =>
        simp only [Bool.true_and, Bool.and_true, Bool.true_and, Bool.and_false, Bool.false_and, Bool.or_true, Bool.true_or, Bool.or_false, Bool.false_or, Bool.not_true, Bool.not_false, Option.bind_some, Option.bind_none, andB, orB, orB2, List.getD_cons_zero, List.getD_cons_succ, toB_b, toI_i, toS_s, toL_l, cond_true, cond_false, List.length_map]
        exact small9_loop hl hf rest _ h5 (by simp; omega)
      | false => simp only [Bool.false_and, Bool.and_true, Bool.true_and, Bool.and_false, Bool.false_and, Bool.or_true, Bool.true_or, Bool.or_false, Bool.false_or, Bool.not_true, Bool.not_false, Option.bind_some, Option.bind_none, andB, orB, orB2, List.getD_cons_zero, List.getD_cons_succ, toB_b, toI_i, toS_s, toL_l, cond_true, cond_false, List.length_map]
    · rw [decide_eq_false (p := ((pre.length : Nat) : Int) < 600) (by omega), show 600 - pre.length = 0 by omega]
      simp only [List.take_zero, List.all_nil, Bool.and_true, Bool.true_and, Bool.and_false, Bool.false_and, Bool.or_true, Bool.true_or, Bool.or_false, Bool.false_or, Bool.not_true, Bool.not_false, Option.bind_some, Option.bind_none, andB, orB, orB2, List.getD_cons_zero, List.getD_cons_succ, toB_b, toI_i, toS_s, toL_l, cond_true, cond_false, List.length_map]
      rw [show decide (((l.length : Nat) : Int) ≤ 600) = decide (l.length ≤ 600) by simp; omega]
theorem small9_c {l : List Rec} (hl : l.length ≤ 9223372036854775807) (hf : ∀ r, r ∈ l → r.fills.length ≤ 9223372036854775807) : cW f_celluloidref09_Small [.l (l.map Rec.e), .i 600] [] = some ([.b (smallR l)], []) := by
  rw [w_celluloidref09_Small]
  exact small9_loop hl hf l [] rfl (by decide)
theorem smallR_r {l : List Rec} (h : smallR l = true) : l.length ≤ 600 ∧ Shs l := by
  unfold smallR at h
  simp only [Bool.and_eq_true, decide_eq_true_eq] at h
  refine ⟨h.2, fun r hr => ?_⟩
  have e := h.1
  rw [List.take_of_length_le h.2] at e
  obtain ⟨a, b, c⟩ := smallB_r (List.all_eq_true.1 e r hr)
  exact ⟨Nat.le_trans (Nat.le_of_lt b) (by decide), Nat.le_trans (Nat.le_of_lt c) (by decide), fun f hf => Nat.le_trans (a f hf) (by decide)⟩
end Go.AI
set_option linter.unusedVariables false
set_option linter.unusedSimpArgs false
set_option maxRecDepth 100000
namespace Go.AI
open Go Go.Proofs

theorem sameRecs_loop {l : List Rec} (hl : l.length ≤ 2 ^ 40) (hs : Shs l) : ∀ (rest pre : List Rec), l = pre ++ rest →
    rW f_slices_EqualFunc___celluloid_api_Record___celluloid_api_Record_celluloid_api_Record_celluloid_api_Record_ [] at_slices_EqualFunc___celluloid_api_Record___celluloid_api_Record_celluloid_api_Record_celluloid_api_Record__L0 (S_slices_EqualFunc___celluloid_api_Record___celluloid_api_Record_celluloid_api_Record_celluloid_api_Record__L0 (l.map Rec.e) (l.map Rec.e) l.length pre.length) = some ([.b true], [])
  | [], pre, h => by
    rw [w_slices_EqualFunc___celluloid_api_Record___celluloid_api_Record_celluloid_api_Record_celluloid_api_Record__L0]
    simp only [el_end h, Option.bind_some, Option.bind_none, andB, orB, orB2, List.getD_cons_zero, List.getD_cons_succ, toB_b, toI_i, toS_s, toL_l, cond_true, cond_false, List.length_map]
  | x :: rest, pre, h => by
    obtain ⟨h1, h2, h3, h4, h5⟩ := el_step Rec.e h hl
    have e := same_c x x (hs x (by rw [h]; simp))
    simp only [Rec.e, List.cons_append, List.nil_append] at e
    rw [w_slices_EqualFunc___celluloid_api_Record___celluloid_api_Record_celluloid_api_Record_celluloid_api_Record__L0]
    simp only [h1, h2, h3, h4, Rec.e, e, decide_true, Bool.and_true, Bool.true_and, Bool.and_false, Bool.false_and, Bool.or_true, Bool.true_or, Bool.or_false, Bool.false_or, Bool.not_true, Bool.not_false, Option.bind_some, Option.bind_none, andB, orB, orB2, List.getD_cons_zero, List.getD_cons_succ, toB_b, toI_i, toS_s, toL_l, cond_true, cond_false, List.length_map]
    exact sameRecs_loop hl hs rest _ h5
theorem sameRecs_c {l : List Rec} (hl : l.length ≤ 2 ^ 40) (hs : Shs l) : cW f_shape_SameRecords [.l (l.map Rec.e), .l (l.map Rec.e)] [] = some ([.b true], []) := by
  rw [w_shape_SameRecords, w_slices_EqualFunc___celluloid_api_Record___celluloid_api_Record_celluloid_api_Record_celluloid_api_Record_]
  have e := sameRecs_loop hl hs l [] rfl
  simp only [bne_self_eq_false, Option.bind_some, Option.bind_none, andB, orB, orB2, List.getD_cons_zero, List.getD_cons_succ, toB_b, toI_i, toS_s, toL_l, cond_true, cond_false, List.length_map]
  rw [show ((([] : List Rec).length : Nat) : Int) = 0 from rfl] at e
  rw [e]; rfl
end Go.AI
set_option linter.unusedVariables false
set_option linter.unusedSimpArgs false
set_option maxRecDepth 100000
namespace Go.AI
open Go Go.Proofs

def frB (t : T9) : Bool := rectB t.2.1.1 t.2.1.2.1 t.2.1.2.2.1 t.2.1.2.2.2
def right9 (t : T9) : Bool := inB2 0 65535 t.1 && (frB t && (listsB t.2.2.1 t.2.2.2.1 && rightRecs (t.2.2.1.length : Nat) (t.2.2.2.1.length : Nat) t.2.2.2.2 0))
theorem Right9_c (t : T9) (h : sh9 t) : cW f_shape_Right (e9 t) [] = some ([.b (right9 t)], []) := by
  obtain ⟨a1, a2, a3, a4, a5⟩ := h
  unfold e9
  rw [w_shape_Right]
  simp only [within1_c, (rightRect_ans _ _ _ _).c, right_c a1 a3 a2, rightRecs_c a4 a5, Option.bind_some, Option.bind_none, andB, orB, orB2, List.getD_cons_zero, List.getD_cons_succ, toB_b, toI_i, toS_s, toL_l, cond_true, cond_false, List.length_map]
  unfold right9 frB
  rfl
end Go.AI
