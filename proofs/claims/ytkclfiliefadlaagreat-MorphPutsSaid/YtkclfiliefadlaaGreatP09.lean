/- Records: what is the same, what is right. -/
import Derived.Test.YtkclfiliefadlaaGreatU09
import Derived.Test.YtkclfiliefadlaaGreatP08
import Derived.Test.YtkclfiliefadlaaGreatP07
import Derived.Test.YtkclfiliefadlaaGreatP02
set_option linter.unusedVariables false
set_option linter.unusedSimpArgs false
set_option maxRecDepth 100000
namespace Go.AI
open Go Go.Proofs

structure Rec where
  kind : Int
  x : Int
  y : Int
  cx : Int
  cy : Int
  left : Int
  right : Int
  line : Int
  fills : List Fill
  strks : List Strk
  deriving DecidableEq
def Rec.e (r : Rec) : List PV := [.i r.kind, .i r.x, .i r.y, .i r.cx, .i r.cy, .i r.left, .i r.right, .i r.line, .l (r.fills.map Fill.e), .l (r.strks.map Strk.e)]
/-- short enough -/
def Rec.sh (r : Rec) : Prop := r.fills.length ≤ 2 ^ 40 ∧ r.strks.length ≤ 2 ^ 40 ∧ Shorts r.fills
def intE (n : Int) : List PV := [.i n]
theorem idxInt_loop {l : List Int} (hl : l.length ≤ 2 ^ 40) (a b : Int) : ∀ (rest pre : List Int), l = pre ++ rest → ∃ n : Int,
    rW f_q116 [t_int, t_int] at_q54 (S_q54 (l.map intE) l.length pre.length a b) = some ([.i n], [(t_int, [.i a]), (t_int, [.i b])]) ∧ decide (n ≥ 0) = !rest.all (inB2 a b)
  | [], pre, h => by
    refine ⟨-1, ?_, rfl⟩
    rw [w_q54]; simp only [el_end h, zcf]
  | x :: rest, pre, h => by
    obtain ⟨h1, h2, h3, h4, h5⟩ := el_step intE h hl
    rw [w_q54]
    simp only [h1, h2, h3, h4, intE, w_q185, List.all_cons, zcf]
    cases hx : (decide (x < a) || decide (x > b)) with
    | true =>
      refine ⟨_, rfl, ?_⟩
      have : inB2 a b x = false := by
        unfold inB2
        simp only [Bool.or_eq_true, decide_eq_true_eq] at hx
        simp; omega
      rw [this]; simp
    | false =>
      have : inB2 a b x = true := by
        unfold inB2
        simp only [Bool.or_eq_false_iff, decide_eq_false_iff_not] at hx
        simp; omega
      rw [this, cond_false, Bool.true_and]
      exact idxInt_loop hl a b rest _ h5
theorem within_c {l : List Int} (hl : l.length ≤ 2 ^ 40) (a b : Int) : cW f_q121 [.i a, .i b, .l (l.map intE)] [] = some ([.b (l.all (inB2 a b))], []) := by
  obtain ⟨n, h1, h2⟩ := idxInt_loop hl a b l [] rfl
  rw [w_q121]
  simp only [List.length_cons, List.length_nil]
  rw [w_q175, w_q116]
  simp only [zq7]
  rw [show (0 : Int) = ((([] : List Int).length : Nat) : Int) from rfl, h1]
  simp only [zcf]
  rw [show decide (n ≥ ((([] : List Int).length : Nat) : Int)) = decide (n ≥ 0) from rfl, h2, Bool.not_not]
theorem within1_c (a b x : Int) : cW f_q121 [.i a, .i b, .l (List.set [[PV.i 0]] 0 [PV.i x])] [] = some ([.b (inB2 a b x)], []) := by
  have := within_c (l := [x]) (by show (1 : Nat) ≤ _; decide) a b
  simpa [intE] using this
theorem within2_c (a b x y : Int) : cW f_q121 [.i a, .i b, .l (List.set (List.set [[PV.i 0], [PV.i 0]] 0 [PV.i x]) 1 [PV.i y])] [] = some ([.b (inB2 a b x && inB2 a b y)], []) := by
  have := within_c (l := [x, y]) (by show (2 : Nat) ≤ _; decide) a b
  simpa [intE] using this
theorem within4_c (a b x y z u : Int) : cW f_q121 [.i a, .i b, .l (List.set (List.set (List.set (List.set [[PV.i 0], [PV.i 0], [PV.i 0], [PV.i 0]] 0 [PV.i x]) 1 [PV.i y]) 2 [PV.i z]) 3 [PV.i u])] [] = some ([.b (inB2 a b x && (inB2 a b y && (inB2 a b z && inB2 a b u)))], []) := by
  have := within_c (l := [x, y, z, u]) (by show (4 : Nat) ≤ _; decide) a b
  simpa [intE] using this
theorem in_c (n a b : Int) : cW f_q71 [.i n, .i a, .i b] [] = some ([.b (inB2 a b n)], []) := by
  rw [w_q71]; simp only [zcf]; rfl
/-! ### the same -/
theorem eqStrks_loop {l m : List Strk} (hl : l.length ≤ 2 ^ 40) : ∀ (r r' p p' : List Strk), l = p ++ r → m = p' ++ r' → p.length = p'.length → r.length = r'.length →
    rW f_q24 [] at_q14 (S_q14 (l.map Strk.e) (m.map Strk.e) l.length p.length) = some ([.b (decide (r = r'))], [])
  | [], [], p, p', h, h', hp, hr => by
    rw [w_q14]; simp only [el_end h, zcf]; rfl
  | [], y :: r', p, p', h, h', hp, hr => by simp at hr
  | x :: r, [], p, p', h, h', hp, hr => by simp at hr
  | x :: r, y :: r', p, p', h, h', hp, hr => by
    have hm : m.length ≤ 2 ^ 40 := by rw [h']; rw [h] at hl; simp at hl hr ⊢; omega
    obtain ⟨h1, h2, h3, h4, h5⟩ := el_step Strk.e h hl
    obtain ⟨_, k2, k3, _, k5⟩ := el_step Strk.e h' hm
    rw [← hp] at k2 k3
    rw [w_q14]
    simp only [h1, h2, h3, h4, k2, k3, Strk.e, zcf]
    rw [strk_eq, list_eq_step']
    cases h : decide (x = y) with
    | false => simp only [zq17, zq5, zq11]
    | true =>
      rw [Bool.not_true, cond_false, Bool.true_and]
      exact eqStrks_loop hl r r' _ _ h5 k5 (by simp [hp]) (by simpa using hr)
theorem eqStrks_c {l m : List Strk} (hl : l.length ≤ 2 ^ 40) : cW f_q24 [.l (l.map Strk.e), .l (m.map Strk.e)] [] = some ([.b (decide (l = m))], []) := by
  rw [w_q24]
  simp only [zq7]
  by_cases h : l.length = m.length
  · rw [show (((l.length : Nat) : Int) != ((m.length : Nat) : Int)) = false by simp [h], cond_false]
    exact eqStrks_loop hl l m [] [] rfl rfl rfl h
  · rw [show (((l.length : Nat) : Int) != ((m.length : Nat) : Int)) = true by simp [h]; omega, cond_true]
    rw [decide_eq_false (fun e => h (by rw [e]))]
def numsEq (a b : Rec) : Bool := (a.kind == b.kind) && ((a.x == b.x) && ((a.y == b.y) && ((a.cx == b.cx) && ((a.cy == b.cy) && ((a.left == b.left) && ((a.right == b.right) && (a.line == b.line)))))))
theorem rec_eq (a b : Rec) : decide (a = b) = (numsEq a b && (decide (a.fills = b.fills) && decide (a.strks = b.strks))) := by
  obtain ⟨a1, a2, a3, a4, a5, a6, a7, a8, a9, a10⟩ := a; obtain ⟨b1, b2, b3, b4, b5, b6, b7, b8, b9, b10⟩ := b
  unfold numsEq
  rw [Bool.eq_iff_iff]; simp [and_assoc]
theorem same_loop (a b : Rec) (ha : a.sh) : ∀ (r r' p p' : List Fill), a.fills = p ++ r → b.fills = p' ++ r' → p.length = p'.length → r.length = r'.length →
    rW f_q171 [] at_q151 (S_q151 a.fills.length p.length a.kind a.x a.y a.cx a.cy a.left a.right a.line (a.fills.map Fill.e) (a.strks.map Strk.e) b.kind b.x b.y b.cx b.cy b.left b.right b.line (b.fills.map Fill.e) (b.strks.map Strk.e)) = some ([.b (decide (r = r') && numsEq a b)], [])
  | [], [], p, p', h, h', hp, hr => by
    rw [w_q151]; simp only [el_end h, zcf]; rfl
  | [], y :: r', p, p', h, h', hp, hr => by simp at hr
  | x :: r, [], p, p', h, h', hp, hr => by simp at hr
  | x :: r, y :: r', p, p', h, h', hp, hr => by
    have hm : b.fills.length ≤ 2 ^ 40 := by have hl := ha.1; rw [h']; rw [h] at hl; simp at hl hr ⊢; omega
    obtain ⟨h1, h2, h3, h4, h5⟩ := el_step Fill.e h ha.1
    obtain ⟨_, k2, k3, _, k5⟩ := el_step Fill.e h' hm
    rw [← hp] at k2 k3
    have e := sameFill_c x y (ha.2.2 x (by rw [h]; simp))
    simp only [Fill.e, List.cons_append, List.nil_append] at e
    rw [w_q151]
    simp only [h1, h2, h3, h4, k2, k3, Fill.e, e, zcf]
    rw [list_eq_step']
    cases h : decide (x = y) with
    | false => simp only [zq17, zq5, zq11]
    | true =>
      rw [Bool.not_true, cond_false, Bool.true_and]
      exact same_loop a b ha r r' _ _ h5 k5 (by simp [hp]) (by simpa using hr)
theorem same_c (a b : Rec) (ha : a.sh) : cW f_q171 (a.e ++ b.e) [] = some ([.b (decide (a = b))], []) := by
  simp only [Rec.e, List.cons_append, List.nil_append]
  rw [w_q171, rec_eq]
  simp only [eqStrks_c ha.2.1, zcf]
  by_cases h : a.fills.length = b.fills.length
  · rw [show (((a.fills.length : Nat) : Int) != ((b.fills.length : Nat) : Int)) = false by simp [h], Bool.false_or]
    cases hs : decide (a.strks = b.strks) with
    | false => simp only [zq17, zq5, zq10]
    | true =>
      rw [Bool.not_true, cond_false, Bool.and_true, Bool.and_comm]
      exact same_loop a b ha a.fills b.fills [] [] rfl rfl rfl h
  · rw [show (((a.fills.length : Nat) : Int) != ((b.fills.length : Nat) : Int)) = true by simp [h]; omega, Bool.true_or, cond_true]
    rw [decide_eq_false (p := a.fills = b.fills) (fun e => h (by rw [e])), Bool.false_and, Bool.and_false]
def Shs (l : List Rec) : Prop := ∀ r, r ∈ l → r.sh
theorem rsame_loop {l m : List Rec} (hl : l.length ≤ 2 ^ 40) (hs : Shs l) : ∀ (r r' p p' : List Rec), l = p ++ r → m = p' ++ r' → p.length = p'.length → r.length = r'.length →
    rW f_q131 [] at_q95 (S_q95 (l.map Rec.e) (m.map Rec.e) p.length) = some ([.b (decide (r = r'))], [])
  | [], [], p, p', h, h', hp, hr => by
    rw [w_q95]; simp only [el_end h, zcf]; rfl
  | [], y :: r', p, p', h, h', hp, hr => by simp at hr
  | x :: r, [], p, p', h, h', hp, hr => by simp at hr
  | x :: r, y :: r', p, p', h, h', hp, hr => by
    have hm : m.length ≤ 2 ^ 40 := by rw [h']; rw [h] at hl; simp at hl hr ⊢; omega
    obtain ⟨h1, h2, h3, h4, h5⟩ := el_step Rec.e h hl
    obtain ⟨_, k2, k3, _, k5⟩ := el_step Rec.e h' hm
    rw [← hp] at k2 k3
    have hx := hs x (by rw [h]; simp)
    have e := sameLists_c (l := x.fills) (m := y.fills) (s := x.strks) (t := y.strks) hx.1 hx.2.2 hx.2.1
    rw [w_q95]
    simp only [h1, h2, h3, h4, k2, k3, Rec.e, e, zcf]
    rw [list_eq_step', rec_eq]
    have hn : ((x.kind != y.kind) || ((x.x != y.x) || ((x.y != y.y) || ((x.cx != y.cx) || ((x.cy != y.cy) || ((x.left != y.left) || ((x.right != y.right) || (x.line != y.line)))))))) = !numsEq x y := by
      unfold numsEq; simp only [bne, Bool.not_and]
    rw [hn]
    cases numsEq x y with
    | false => simp only [zq17, zq5, zq11]
    | true =>
      rw [Bool.not_true, cond_false, Bool.true_and]
      cases h : (decide (x.fills = y.fills) && decide (x.strks = y.strks)) with
      | false => simp only [zq17, zq5, zq11]
      | true =>
        rw [Bool.not_true, cond_false, Bool.true_and]
        exact rsame_loop hl hs r r' _ _ h5 k5 (by simp [hp]) (by simpa using hr)
theorem rsame_c {l m : List Rec} (hl : l.length ≤ 2 ^ 40) (hs : Shs l) : cW f_q131 [.l (l.map Rec.e), .l (m.map Rec.e)] [] = some ([.b (decide (l = m))], []) := by
  rw [w_q131]
  simp only [zq7]
  by_cases h : l.length = m.length
  · rw [show (((l.length : Nat) : Int) != ((m.length : Nat) : Int)) = false by simp [h], cond_false]
    exact rsame_loop hl hs l m [] [] rfl rfl rfl h
  · rw [show (((l.length : Nat) : Int) != ((m.length : Nat) : Int)) = true by simp [h]; omega, cond_true]
    rw [decide_eq_false (fun e => h (by rw [e]))]
end Go.AI
set_option linter.unusedVariables false
set_option linter.unusedSimpArgs false
set_option maxRecDepth 100000
namespace Go.AI
open Go Go.Proofs

def Rec.wf (r : Rec) : Prop := r.fills.length ≤ maxLen ∧ r.strks.length ≤ maxLen
abbrev LRec (f t : TypeId) : List LTy := [.int .i64, .int .i64, .int .i64, .int .i64, .int .i64, .int .i64, .int .i64, .int .i64, .sl f, .sl t]
theorem rec_of {P : Program} {f t k : TypeId} (hf : leaves P f = some (LFill k)) (hk : leaves P k = some (.int .i64 :: L4)) (ht : leaves P t = some (.int .i64 :: L4)) (x : List PV) (h : PWL P (LRec f t) x) : ∃ r : Rec, x = r.e ∧ r.wf := by
  obtain ⟨x0, q, rfl, w0, h⟩ := int_cons h
  obtain ⟨x1, q, rfl, w1, h⟩ := int_cons h
  obtain ⟨x2, q, rfl, w2, h⟩ := int_cons h
  obtain ⟨x3, q, rfl, w3, h⟩ := int_cons h
  obtain ⟨x4, q, rfl, w4, h⟩ := int_cons h
  obtain ⟨x5, q, rfl, w5, h⟩ := int_cons h
  obtain ⟨x6, q, rfl, w6, h⟩ := int_cons h
  obtain ⟨x7, q, rfl, w7, h⟩ := int_cons h
  obtain ⟨l, q, rfl, hl, hw, h⟩ := sl_cons (e := Fill.e) hf (fill_of hk) h
  obtain ⟨m, q, rfl, hm, hv, h⟩ := sl_cons (e := Strk.e) ht strk_of h
  obtain rfl := h.nil
  exact ⟨⟨x0, x1, x2, x3, x4, x5, x6, x7, l, m⟩, rfl, hl, hm⟩
end Go.AI
set_option linter.unusedVariables false
set_option linter.unusedSimpArgs false
set_option maxRecDepth 100000
namespace Go.AI
open Go Go.Proofs

def noSt (r : Rec) : Prop := r.left = 0 ∧ r.right = 0 ∧ r.line = 0
def noLi (r : Rec) : Prop := r.fills.length = 0 ∧ r.strks.length = 0
def noCt (r : Rec) : Prop := r.cx = 0 ∧ r.cy = 0
def noPt (r : Rec) : Prop := r.x = 0 ∧ r.y = 0
def inR (a b n : Int) : Prop := a ≤ n ∧ n ≤ b
instance (r : Rec) : Decidable (noSt r) := by unfold noSt; infer_instance
instance (r : Rec) : Decidable (noLi r) := by unfold noLi; infer_instance
instance (r : Rec) : Decidable (noCt r) := by unfold noCt; infer_instance
instance (r : Rec) : Decidable (noPt r) := by unfold noPt; infer_instance
instance (a b n : Int) : Decidable (inR a b n) := by unfold inR; infer_instance
def recB (r : Rec) (f s : Int) : Bool :=
  bif r.kind == 1 then decide (noSt r ∧ noLi r ∧ noCt r ∧ inR (-1048576) 1048576 r.x ∧ inR (-1048576) 1048576 r.y)
  else bif r.kind == 2 then decide (noLi r ∧ noCt r ∧ noPt r ∧ (r.left ≥ 0 ∨ r.right ≥ 0 ∨ r.line ≥ 0) ∧ inR (-1) f r.left ∧ inR (-1) f r.right ∧ inR (-1) s r.line)
  else bif r.kind == 3 then decide (noSt r ∧ noCt r ∧ noPt r) && listsB r.fills r.strks
  else bif r.kind == 4 then decide (noSt r ∧ noLi r ∧ noCt r ∧ inR (-65536) 65535 r.x ∧ inR (-65536) 65535 r.y)
  else bif r.kind == 5 then decide (noSt r ∧ noLi r ∧ inR (-65536) 65535 r.x ∧ inR (-65536) 65535 r.y ∧ inR (-65536) 65535 r.cx ∧ inR (-65536) 65535 r.cy)
  else false
theorem inR_iff (a b n : Int) : inB2 a b n = true ↔ inR a b n := by unfold inB2 inR; simp
theorem rec_iff (r : Rec) (k x y cx cy l t n : Int) (f : List Fill) (s : List Strk) : r = ⟨k, x, y, cx, cy, l, t, n, f, s⟩ ↔ r.kind = k ∧ r.x = x ∧ r.y = y ∧ r.cx = cx ∧ r.cy = cy ∧ r.left = l ∧ r.right = t ∧ r.line = n ∧ r.fills = f ∧ r.strks = s := by
  obtain ⟨a1, a2, a3, a4, a5, a6, a7, a8, a9, a10⟩ := r
  simp
theorem sound_c (r : Rec) (h : r.sh) (f s : Int) : cW f_q213 (r.e ++ [.i f, .i s]) [] = some ([.b (recB r f s)], []) := by
  have e1 := same_c r ⟨r.kind, r.x, r.y, 0, 0, 0, 0, 0, [], []⟩ h
  have e2 := same_c r ⟨r.kind, 0, 0, 0, 0, r.left, r.right, r.line, [], []⟩ h
  have e3 := same_c r ⟨r.kind, 0, 0, 0, 0, 0, 0, 0, r.fills, r.strks⟩ h
  have e5 := same_c r ⟨r.kind, r.x, r.y, r.cx, r.cy, 0, 0, 0, [], []⟩ h
  simp only [Rec.e, List.cons_append, List.nil_append, List.map_nil] at e1 e2 e3 e5 ⊢
  rw [w_q213]
  simp only [within1_c, within2_c, within4_c, right_c h.1 h.2.1 h.2.2, e1, e2, e3, e5, zcf]
  unfold recB
  cases k1 : (r.kind == 1) with
  | true =>
    simp only [zq5]
    refine congrArg (fun b => some ([PV.b b], ([] : List BX))) ?_
    rw [Bool.eq_iff_iff]
    simp only [Bool.and_eq_true, decide_eq_true_eq, inR_iff, rec_iff, List.length_eq_zero_iff]
    simp only [noSt, noLi, noCt, List.length_eq_zero_iff]
    constructor
    · rintro ⟨⟨a, b⟩, c⟩; obtain ⟨_, _, _, c1, c2, c3, c4, c5, c6, c7⟩ := c; exact ⟨⟨c3, c4, c5⟩, ⟨c6, c7⟩, ⟨c1, c2⟩, a, b⟩
    · rintro ⟨⟨c3, c4, c5⟩, ⟨c6, c7⟩, ⟨c1, c2⟩, a, b⟩; exact ⟨⟨a, b⟩, trivial, trivial, trivial, c1, c2, c3, c4, c5, c6, c7⟩
  | false =>
    simp only [zq6]
    cases k2 : (r.kind == 2) with
    | true =>
      simp only [zq5]
      refine congrArg (fun b => some ([PV.b b], ([] : List BX))) ?_
      rw [Bool.eq_iff_iff]
      have hm : ((bif decide (r.line > bif decide (r.right > r.left) then r.right else r.left) then r.line else bif decide (r.right > r.left) then r.right else r.left) ≥ 0) ↔ (r.left ≥ 0 ∨ r.right ≥ 0 ∨ r.line ≥ 0) := by
        simp only [Bool.cond_decide]
        split <;> split <;> omega
      simp only [Bool.and_eq_true, decide_eq_true_eq, inR_iff, rec_iff, List.length_eq_zero_iff, hm]
      simp only [noLi, noCt, noPt, List.length_eq_zero_iff]
      constructor
      · rintro ⟨⟨a, b⟩, c, d, q⟩; obtain ⟨_, q1, q2, q3, q4, _, _, _, q6, q7⟩ := q; exact ⟨⟨q6, q7⟩, ⟨q3, q4⟩, ⟨q1, q2⟩, d, a, b, c⟩
      · rintro ⟨⟨q6, q7⟩, ⟨q3, q4⟩, ⟨q1, q2⟩, d, a, b, c⟩; exact ⟨⟨a, b⟩, c, d, trivial, q1, q2, q3, q4, trivial, trivial, trivial, q6, q7⟩
    | false =>
      simp only [zq6]
      cases k3 : (r.kind == 3) with
      | true =>
        simp only [zq5]
        refine congrArg (fun b => some ([PV.b b], ([] : List BX))) ?_
        rw [Bool.eq_iff_iff]
        simp only [Bool.and_eq_true, decide_eq_true_eq, rec_iff]
        simp only [noSt, noCt, noPt]
        constructor
        · rintro ⟨a, q⟩; obtain ⟨_, q1, q2, q3, q4, q5, q6, q7, _, _⟩ := q; exact ⟨⟨⟨q5, q6, q7⟩, ⟨q3, q4⟩, q1, q2⟩, a⟩
        · rintro ⟨⟨⟨q5, q6, q7⟩, ⟨q3, q4⟩, q1, q2⟩, a⟩; exact ⟨a, trivial, q1, q2, q3, q4, q5, q6, q7, trivial, trivial⟩
      | false =>
        simp only [zq6]
        cases k4 : (r.kind == 4) with
        | true =>
          simp only [zq5]
          refine congrArg (fun b => some ([PV.b b], ([] : List BX))) ?_
          rw [Bool.eq_iff_iff]
          simp only [Bool.and_eq_true, decide_eq_true_eq, inR_iff, rec_iff, List.length_eq_zero_iff]
          simp only [noSt, noLi, noCt, List.length_eq_zero_iff]
          constructor
          · rintro ⟨⟨a, b⟩, c⟩; obtain ⟨_, _, _, c1, c2, c3, c4, c5, c6, c7⟩ := c; exact ⟨⟨c3, c4, c5⟩, ⟨c6, c7⟩, ⟨c1, c2⟩, a, b⟩
          · rintro ⟨⟨c3, c4, c5⟩, ⟨c6, c7⟩, ⟨c1, c2⟩, a, b⟩; exact ⟨⟨a, b⟩, trivial, trivial, trivial, c1, c2, c3, c4, c5, c6, c7⟩
        | false =>
          simp only [zq6]
          cases k5 : (r.kind == 5) with
          | true =>
            simp only [zq5]
            refine congrArg (fun b => some ([PV.b b], ([] : List BX))) ?_
            rw [Bool.eq_iff_iff]
            simp only [Bool.and_eq_true, decide_eq_true_eq, inR_iff, rec_iff, List.length_eq_zero_iff]
            simp only [noSt, noLi, List.length_eq_zero_iff]
            constructor
            · rintro ⟨⟨a, b, c, d⟩, q⟩; obtain ⟨_, _, _, _, _, c3, c4, c5, c6, c7⟩ := q; exact ⟨⟨c3, c4, c5⟩, ⟨c6, c7⟩, a, b, c, d⟩
            · rintro ⟨⟨c3, c4, c5⟩, ⟨c6, c7⟩, a, b, c, d⟩; exact ⟨⟨a, b, c, d⟩, trivial, trivial, trivial, trivial, trivial, c3, c4, c5, c6, c7⟩
          | false => rfl
/-- the document's -/
theorem wrapS {a b : Nat} (ha : a ≤ 2 ^ 40) (hb : b ≤ 2 ^ 40) : decide (IntKind.wrap .i64 ((a : Int) + (b : Int)) > 0) = !(a == 0 && b == 0) := by
  have : (2 : Nat) ^ 40 = 1099511627776 := rfl
  rw [wrap64 (by omega) (by omega), Bool.eq_iff_iff]
  simp; omega
theorem one_c' (r : Rec) (h : r.sh) (f s : Int) : cW f_q195 (r.e ++ [.i f, .i s]) [] = some ([.b (recB r f s)], []) := by
  simp only [Rec.e, List.cons_append, List.nil_append]
  rw [w_q195]
  simp only [in_c, qRight_c h.1 h.2.1 h.2.2, wrapS h.1 h.2.1, zcf]
  unfold recB
  cases k1 : (r.kind == 1) with
  | true =>
    simp only [zq5]
    refine congrArg (fun b => some ([PV.b b], ([] : List BX))) ?_
    rw [Bool.eq_iff_iff]
    simp only [Bool.and_eq_true, Bool.or_eq_true, Bool.not_eq_true', Bool.or_eq_false_iff, bne_eq_false_iff_eq, Bool.not_eq_false', beq_iff_eq, decide_eq_true_eq, inR_iff]
    simp only [noSt, noLi, noCt]
  | false =>
    simp only [zq6]
    cases k2 : (r.kind == 2) with
    | true =>
      simp only [zq5]
      refine congrArg (fun b => some ([PV.b b], ([] : List BX))) ?_
      rw [Bool.eq_iff_iff]
      simp only [Bool.and_eq_true, Bool.or_eq_true, Bool.not_eq_true', Bool.or_eq_false_iff, bne_eq_false_iff_eq, Bool.not_eq_false', beq_iff_eq, decide_eq_true_eq, inR_iff]
      simp only [noPt, noLi, noCt]
      constructor
      · rintro ⟨d, ⟨e, g⟩, ⟨i, j⟩, k, l, m, n⟩; exact ⟨d, ⟨e, g⟩, ⟨i, j⟩, by omega, l, m, n⟩
      · rintro ⟨d, ⟨e, g⟩, ⟨i, j⟩, k, l, m, n⟩; exact ⟨d, ⟨e, g⟩, ⟨i, j⟩, by omega, l, m, n⟩
    | false =>
      simp only [zq6]
      cases k3 : (r.kind == 3) with
      | true =>
        simp only [zq5]
        refine congrArg (fun b => some ([PV.b b], ([] : List BX))) ?_
        rw [Bool.eq_iff_iff]
        simp only [Bool.and_eq_true, Bool.or_eq_true, Bool.not_eq_true', Bool.or_eq_false_iff, bne_eq_false_iff_eq, Bool.not_eq_false', beq_iff_eq, decide_eq_true_eq]
        simp only [noSt, noCt, noPt]
        constructor
        · rintro ⟨⟨a, b, c⟩, ⟨e, g⟩, ⟨i, j⟩, k⟩; exact ⟨⟨⟨a, b, c⟩, ⟨e, g⟩, i, j⟩, k⟩
        · rintro ⟨⟨⟨a, b, c⟩, ⟨e, g⟩, i, j⟩, k⟩; exact ⟨⟨a, b, c⟩, ⟨e, g⟩, ⟨i, j⟩, k⟩
      | false =>
        simp only [zq6]
        cases k4 : (r.kind == 4) with
        | true =>
          simp only [zq5]
          refine congrArg (fun b => some ([PV.b b], ([] : List BX))) ?_
          rw [Bool.eq_iff_iff]
          simp only [Bool.and_eq_true, Bool.or_eq_true, Bool.not_eq_true', Bool.or_eq_false_iff, bne_eq_false_iff_eq, Bool.not_eq_false', beq_iff_eq, decide_eq_true_eq, inR_iff]
          simp only [noSt, noLi, noCt]
        | false =>
          simp only [zq6]
          cases k5 : (r.kind == 5) with
          | true =>
            simp only [zq5]
            refine congrArg (fun b => some ([PV.b b], ([] : List BX))) ?_
            rw [Bool.eq_iff_iff]
            simp only [Bool.and_eq_true, Bool.or_eq_true, Bool.not_eq_true', Bool.or_eq_false_iff, bne_eq_false_iff_eq, Bool.not_eq_false', beq_iff_eq, decide_eq_true_eq, inR_iff]
            simp only [noSt, noLi]
          | false => rfl
/-! ### lists of records -/
def kindB (r : Rec) (kind : Int) : Bool := !((r.kind == 3) && (kind != 0)) && !((r.kind == 2) && (kind == 2))
def nextF (r : Rec) (f s : Int) : Int × Int := bif r.kind == 3 then ((r.fills.length : Int), (r.strks.length : Int)) else (f, s)
def recsB : Int → Int → List Rec → Int → Bool
  | _, _, [], _ => true
  | f, s, r :: l, kind => (recB r f s && kindB r kind) && recsB (nextF r f s).1 (nextF r f s).2 l kind
def rightRecs (f s : Int) (l : List Rec) (kind : Int) : Bool := inB2 0 15 f && (inB2 0 15 s && (inB2 0 2 kind && (decide (((l.length : Nat) : Int) ≤ 512) && recsB f s l kind)))
theorem rr_loop {l : List Rec} (hl : l.length ≤ 2 ^ 40) (hs : Shs l) (kind : Int) : ∀ (rest pre : List Rec) (f s : Int), l = pre ++ rest →
    rW f_q117 [] at_q76 (S_q76 f s kind (l.map Rec.e) l.length pre.length) = some ([.b (recsB f s rest kind)], [])
  | [], pre, f, s, h => by
    rw [w_q76]; simp only [el_end h, zcf]; rfl
  | x :: rest, pre, f, s, h => by
    obtain ⟨h1, h2, h3, h4, h5⟩ := el_step Rec.e h hl
    have e := sound_c x (hs x (by rw [h]; simp)) f s
    simp only [Rec.e, List.cons_append, List.nil_append] at e
    have ih := rr_loop hl hs kind rest _ (nextF x f s).1 (nextF x f s).2 h5
    rw [w_q76]
    simp only [h1, h2, h3, h4, Rec.e, e, zcf]
    unfold recsB
    cases hr : recB x f s with
    | false => rfl
    | true =>
      have hk : kindB x kind = !((x.kind == 3 && kind != 0) || (x.kind == 2 && kind == 2)) := by unfold kindB; rw [Bool.not_or]
      rw [hk]
      unfold nextF at ih ⊢
      cases k3 : (x.kind == 3) with
      | true =>
        have k2 : (x.kind == 2) = false := by simp only [beq_iff_eq] at k3; rw [k3]; rfl
        rw [k3] at ih
        simp only [k2, zbc, zcf] at ih ⊢
        cases (kind != 0) with
        | true => rfl
        | false => simpa using ih
      | false =>
        rw [k3] at ih
        simp only [zbc, zcf] at ih ⊢
        cases (x.kind == 2) with
        | true =>
          simp only [zbc, zcf]
          cases (kind == 2) with
          | true => rfl
          | false => simpa using ih
        | false => simpa using ih
theorem rightRecs_c {l : List Rec} (hl : l.length ≤ 2 ^ 40) (hs : Shs l) (f s kind : Int) : cW f_q117 [.i f, .i s, .l (l.map Rec.e), .i kind] [] = some ([.b (rightRecs f s l kind)], []) := by
  have e := rr_loop hl hs kind l [] f s rfl
  rw [w_q117]
  simp only [within2_c, within1_c, zcf]
  unfold rightRecs
  cases inB2 0 15 f with
  | false => rfl
  | true =>
    cases inB2 0 15 s with
    | false => rfl
    | true =>
      cases inB2 0 2 kind with
      | false => rfl
      | true =>
        simp only [zbc, zcf]
        by_cases h : ((l.length : Nat) : Int) ≤ 512
        · rw [decide_eq_false (p := ((l.length : Nat) : Int) > 512) (by omega), decide_eq_true h]
          exact e
        · rw [decide_eq_true (p := ((l.length : Nat) : Int) > 512) (by omega), decide_eq_false h]; rfl
theorem qrr_loop {l : List Rec} (hl : l.length ≤ 2 ^ 40) (hs : Shs l) {kind : Int} (hk0 : 0 ≤ kind ∧ kind ≤ 2) : ∀ (rest pre : List Rec) (f s : Int), l = pre ++ rest →
    rW f_q103 [] at_q58 (S_q58 f s (l.map Rec.e) kind pre.length) = some ([.b (recsB f s rest kind)], [])
  | [], pre, f, s, h => by
    rw [w_q58]; simp only [el_end h, zcf]; rfl
  | x :: rest, pre, f, s, h => by
    obtain ⟨h1, h2, h3, h4, h5⟩ := el_step Rec.e h hl
    have e := one_c' x (hs x (by rw [h]; simp)) f s
    simp only [Rec.e, List.cons_append, List.nil_append] at e
    have ih := qrr_loop hl hs hk0 rest _ (nextF x f s).1 (nextF x f s).2 h5
    rw [w_q58]
    simp only [h1, h2, h3, h4, Rec.e, e, zcf]
    unfold recsB
    have c1 : decide (kind > 0) = (kind != 0) := by rw [Bool.eq_iff_iff]; simp; omega
    have c2 : decide (kind > 1) = (kind == 2) := by rw [Bool.eq_iff_iff]; simp; omega
    rw [c1, c2]
    cases hr : recB x f s with
    | false => rfl
    | true =>
      have hk : kindB x kind = !((x.kind == 3 && kind != 0) || (x.kind == 2 && kind == 2)) := by unfold kindB; rw [Bool.not_or]
      rw [hk]
      unfold nextF at ih ⊢
      cases k3 : (x.kind == 3) with
      | true =>
        have k2 : (x.kind == 2) = false := by simp only [beq_iff_eq] at k3; rw [k3]; rfl
        rw [k3] at ih
        simp only [k2, zbc, zcf] at ih ⊢
        cases (kind != 0) with
        | true => rfl
        | false => simpa using ih
      | false =>
        rw [k3] at ih
        simp only [zbc, zcf] at ih ⊢
        cases (x.kind == 2) with
        | true =>
          simp only [zbc, zcf]
          cases (kind == 2) with
          | true => rfl
          | false => simpa using ih
        | false => simpa using ih
theorem qRecords_c {l : List Rec} (hl : l.length ≤ 2 ^ 40) (hs : Shs l) (f s kind : Int) : cW f_q103 [.i f, .i s, .l (l.map Rec.e), .i kind] [] = some ([.b (rightRecs f s l kind)], []) := by
  rw [w_q103]
  simp only [in_c, zcf]
  unfold rightRecs
  cases inB2 0 15 f with
  | false => rfl
  | true =>
    cases inB2 0 15 s with
    | false => rfl
    | true =>
      cases hk : inB2 0 2 kind with
      | false => rfl
      | true =>
        have e := qrr_loop hl hs ((inR_iff 0 2 kind).1 hk) l [] f s rfl
        simp only [zbc, zcf]
        by_cases h : ((l.length : Nat) : Int) ≤ 512
        · rw [decide_eq_false (p := ((l.length : Nat) : Int) > 512) (by omega), decide_eq_true h]
          exact e
        · rw [decide_eq_true (p := ((l.length : Nat) : Int) > 512) (by omega), decide_eq_false h]; rfl
end Go.AI
set_option linter.unusedVariables false
set_option linter.unusedSimpArgs false
set_option maxRecDepth 100000
namespace Go.AI
open Go Go.Proofs

/-- a reader of records -/
structure RS where
  σ : Rs
  fs : Int
  ss : Int
  a : Int
  b : Int
  l : List Rec
def RS.ok (x : RS) : Prop := LenOk x.σ ∧ x.l.length ≤ 100000
def plR (x : RS) (n : Int) : Int × RS := ((pl x.σ n).1, { x with σ := (pl x.σ n).2 })
def sgR (x : RS) (n : Int) : Int × RS := ((sg x.σ n).1, { x with σ := (sg x.σ n).2 })
def failX (x : RS) (e : Int) : RS := { x with σ := failR x.σ e }
def takeR (x : RS) (r : Rec) : RS := bif (x.σ.2.2 == 0) && (x.l.length == 512) then failX x 7 else { x with l := x.l ++ [r] }
theorem plR_len (x : RS) (n : Int) (h : LenOk x.σ) : LenOk (plR x n).2.σ := pl_len h n
theorem sgR_len (x : RS) (n : Int) (h : LenOk x.σ) : LenOk (sgR x n).2.σ := sg_len h n
theorem takeR_len (x : RS) (r : Rec) (h : LenOk x.σ) : LenOk (takeR x r).σ := by
  unfold takeR
  cases (x.σ.2.2 == 0) && (x.l.length == 512)
  · exact h
  · exact fail_len h 7
theorem takeR_n (x : RS) (r : Rec) : (takeR x r).l.length ≤ x.l.length + 1 := by
  unfold takeR
  cases (x.σ.2.2 == 0) && (x.l.length == 512)
  · show (x.l ++ [r]).length ≤ _; simp
  · show x.l.length ≤ _; omega
theorem plR_c (x : RS) (h : LenOk x.σ) (n : Int) : cW f_q20 [.u, .i n] [(t_q1, [PV.s (x).σ.1, PV.i (x).σ.2.1, PV.i (x).σ.2.2, PV.i (x).fs, PV.i (x).ss, PV.i (x).a, PV.i (x).b, PV.l ((x).l.map Rec.e)])] = some ([.i (plR x n).1], [(t_q1, [PV.s ((plR x n).2).σ.1, PV.i ((plR x n).2).σ.2.1, PV.i ((plR x n).2).σ.2.2, PV.i ((plR x n).2).fs, PV.i ((plR x n).2).ss, PV.i ((plR x n).2).a, PV.i ((plR x n).2).b, PV.l (((plR x n).2).l.map Rec.e)])]) := by
  rw [w_q20]
  unfold plR pl
  by_cases he : x.σ.2.2 = 0
  · rw [show (x.σ.2.2 != 0) = false by simp [he], (plain_ans h x.σ.2.1 n).c, if_neg (by simp [he])]
    rfl
  · rw [show (x.σ.2.2 != 0) = true by simp [he], if_pos he]; rfl
theorem sgR_c (x : RS) (h : LenOk x.σ) (n : Int) : cW f_q35 [.u, .i n] [(t_q1, [PV.s (x).σ.1, PV.i (x).σ.2.1, PV.i (x).σ.2.2, PV.i (x).fs, PV.i (x).ss, PV.i (x).a, PV.i (x).b, PV.l ((x).l.map Rec.e)])] = some ([.i (sgR x n).1], [(t_q1, [PV.s ((sgR x n).2).σ.1, PV.i ((sgR x n).2).σ.2.1, PV.i ((sgR x n).2).σ.2.2, PV.i ((sgR x n).2).fs, PV.i ((sgR x n).2).ss, PV.i ((sgR x n).2).a, PV.i ((sgR x n).2).b, PV.l (((sgR x n).2).l.map Rec.e)])]) := by
  rw [w_q35]
  unfold sgR sg
  by_cases he : x.σ.2.2 = 0
  · rw [show (x.σ.2.2 != 0) = false by simp [he], (signed_ans h x.σ.2.1 n).c, if_neg (by simp [he])]
    rfl
  · rw [show (x.σ.2.2 != 0) = true by simp [he], if_pos he]; rfl
theorem failX_c (x : RS) (e : Int) : cW f_q119 [.u, .i e] [(t_q1, [PV.s (x).σ.1, PV.i (x).σ.2.1, PV.i (x).σ.2.2, PV.i (x).fs, PV.i (x).ss, PV.i (x).a, PV.i (x).b, PV.l ((x).l.map Rec.e)])] = some ([], [(t_q1, [PV.s (failX x e).σ.1, PV.i (failX x e).σ.2.1, PV.i (failX x e).σ.2.2, PV.i (failX x e).fs, PV.i (failX x e).ss, PV.i (failX x e).a, PV.i (failX x e).b, PV.l ((failX x e).l.map Rec.e)])]) := by
  rw [w_q119]
  unfold failX failR
  by_cases he : x.σ.2.2 = 0
  · rw [show (x.σ.2.2 == 0) = true by simp [he], if_pos he]; rfl
  · rw [show (x.σ.2.2 == 0) = false by simp [he], if_neg he]; rfl
theorem rec_row (l : List Rec) (r : Rec) : l.map Rec.e ++ List.set [[PV.i 0, PV.i 0, PV.i 0, PV.i 0, PV.i 0, PV.i 0, PV.i 0, PV.i 0, PV.l [], PV.l []]] 0 [PV.i r.kind, PV.i r.x, PV.i r.y, PV.i r.cx, PV.i r.cy, PV.i r.left, PV.i r.right, PV.i r.line, PV.l (r.fills.map Fill.e), PV.l (r.strks.map Strk.e)] = (l ++ [r]).map Rec.e := by
  rw [List.map_append]; rfl
theorem takeR_c (x : RS) (r : Rec) (h : x.l.length ≤ 1000000) : cW f_q62 (.u :: r.e) [(t_q1, [PV.s (x).σ.1, PV.i (x).σ.2.1, PV.i (x).σ.2.2, PV.i (x).fs, PV.i (x).ss, PV.i (x).a, PV.i (x).b, PV.l ((x).l.map Rec.e)])] = some ([], [(t_q1, [PV.s (takeR x r).σ.1, PV.i (takeR x r).σ.2.1, PV.i (takeR x r).σ.2.2, PV.i (takeR x r).fs, PV.i (takeR x r).ss, PV.i (takeR x r).a, PV.i (takeR x r).b, PV.l ((takeR x r).l.map Rec.e)])]) := by
  simp only [Rec.e]
  rw [w_q62]
  simp only [failX_c, zcf]
  unfold takeR
  have e : (((x.l.length : Nat) : Int) == 512) = (x.l.length == 512) := by rw [Bool.eq_iff_iff]; simp; omega
  rw [e, rec_row, room1 _ _ (by omega)]
  cases (x.σ.2.2 == 0) && (x.l.length == 512) <;> rfl
def lineRec (x y : Int) : Rec := ⟨4, x, y, 0, 0, 0, 0, 0, [], []⟩
def edgeR (x : RS) : RS :=
  let s := plR x 1
  let m := plR s.2 4
  let n := m.1 + 2
  bif !(s.1 == 1) then
    let c1 := sgR m.2 n; let c2 := sgR c1.2 n; let c3 := sgR c2.2 n; let c4 := sgR c3.2 n
    takeR c4.2 ⟨5, c3.1, c4.1, c1.1, c2.1, 0, 0, 0, [], []⟩
  else
    let t := plR m.2 1
    bif t.1 == 1 then
      let p := sgR t.2 n; let q := sgR p.2 n
      takeR q.2 (lineRec p.1 q.1)
    else
      let u := plR t.2 1
      let p := sgR u.2 n
      bif u.1 == 1 then takeR p.2 (lineRec 0 p.1) else takeR p.2 (lineRec p.1 0)
theorem pl_rng (σ : Rs) (n : Nat) (hn : n ≤ 31) : 0 ≤ (pl σ n).1 ∧ (pl σ n).1 < 2 ^ n := by
  have hp : (0 : Int) < 2 ^ n := Int.pow_pos (by decide)
  unfold pl
  split
  · exact ⟨Int.le_refl _, hp⟩
  · rcases plainF_cases σ.1 σ.2.1 n with e | e | ⟨a, m, ha, hm, _, _, e⟩ <;> rw [e]
    · exact ⟨Int.le_refl _, hp⟩
    · exact ⟨Int.le_refl _, hp⟩
    · have := fieldN_lt σ.1 a m
      have hm' : n = m := by omega
      subst hm'
      exact ⟨Int.natCast_nonneg _, by show ((fieldN σ.1 a n : Nat) : Int) < 2 ^ n; exact_mod_cast this⟩
theorem edge_c (x : RS) (h : x.ok) : cW f_q157 [.u] [(t_q1, [PV.s (x).σ.1, PV.i (x).σ.2.1, PV.i (x).σ.2.2, PV.i (x).fs, PV.i (x).ss, PV.i (x).a, PV.i (x).b, PV.l ((x).l.map Rec.e)])] = some ([], [(t_q1, [PV.s (edgeR x).σ.1, PV.i (edgeR x).σ.2.1, PV.i (edgeR x).σ.2.2, PV.i (edgeR x).fs, PV.i (edgeR x).ss, PV.i (edgeR x).a, PV.i (edgeR x).b, PV.l ((edgeR x).l.map Rec.e)])]) := by
  have h1 := plR_len x 1 h.1
  have h2 := plR_len _ 4 h1
  have r4 := pl_rng (plR x 1).2.σ 4 (by decide)
  have hw : IntKind.wrap .i64 ((plR (plR x 1).2 4).1 + 2) = (plR (plR x 1).2 4).1 + 2 := by
    have : (plR (plR x 1).2 4).1 < 16 := r4.2
    have : 0 ≤ (plR (plR x 1).2 4).1 := r4.1
    exact wrap64 (by omega) (by omega)
  have hl : ∀ y : RS, y.l = x.l → y.l.length ≤ 1000000 := fun y e => by rw [e]; have := h.2; omega
  rw [w_q157]
  unfold edgeR
  simp only [plR_c x h.1, plR_c _ h1, hw, zcf]
  cases ((plR x 1).1 == 1) with
  | false =>
    have g1 := sgR_len _ ((plR (plR x 1).2 4).1 + 2) h2
    have g2 := sgR_len _ ((plR (plR x 1).2 4).1 + 2) g1
    have g3 := sgR_len _ ((plR (plR x 1).2 4).1 + 2) g2
    have e := takeR_c (sgR (sgR (sgR (sgR (plR (plR x 1).2 4).2 ((plR (plR x 1).2 4).1 + 2)).2 ((plR (plR x 1).2 4).1 + 2)).2 ((plR (plR x 1).2 4).1 + 2)).2 ((plR (plR x 1).2 4).1 + 2)).2 ⟨5, (sgR (sgR (sgR (plR (plR x 1).2 4).2 ((plR (plR x 1).2 4).1 + 2)).2 ((plR (plR x 1).2 4).1 + 2)).2 ((plR (plR x 1).2 4).1 + 2)).1, (sgR (sgR (sgR (sgR (plR (plR x 1).2 4).2 ((plR (plR x 1).2 4).1 + 2)).2 ((plR (plR x 1).2 4).1 + 2)).2 ((plR (plR x 1).2 4).1 + 2)).2 ((plR (plR x 1).2 4).1 + 2)).1, (sgR (plR (plR x 1).2 4).2 ((plR (plR x 1).2 4).1 + 2)).1, (sgR (sgR (plR (plR x 1).2 4).2 ((plR (plR x 1).2 4).1 + 2)).2 ((plR (plR x 1).2 4).1 + 2)).1, 0, 0, 0, [], []⟩ (hl _ rfl)
    simp only [Rec.e, List.map_nil] at e
    simp only [sgR_c _ h2, sgR_c _ g1, sgR_c _ g2, sgR_c _ g3, e, zbc, zcf]
  | true =>
    have h3 := plR_len _ 1 h2
    simp only [plR_c _ h2, zbc, zcf]
    cases ((plR (plR (plR x 1).2 4).2 1).1 == 1) with
    | true =>
      have g1 := sgR_len _ ((plR (plR x 1).2 4).1 + 2) h3
      have e := takeR_c (sgR (sgR (plR (plR (plR x 1).2 4).2 1).2 ((plR (plR x 1).2 4).1 + 2)).2 ((plR (plR x 1).2 4).1 + 2)).2 (lineRec (sgR (plR (plR (plR x 1).2 4).2 1).2 ((plR (plR x 1).2 4).1 + 2)).1 (sgR (sgR (plR (plR (plR x 1).2 4).2 1).2 ((plR (plR x 1).2 4).1 + 2)).2 ((plR (plR x 1).2 4).1 + 2)).1) (hl _ rfl)
      simp only [Rec.e, lineRec, List.map_nil] at e
      simp only [sgR_c _ h3, sgR_c _ g1, e, lineRec, zbc, zcf]
    | false =>
      have h4 := plR_len _ 1 h3
      simp only [plR_c _ h3, zbc, zcf]
      have e1 := takeR_c (sgR (plR (plR (plR (plR x 1).2 4).2 1).2 1).2 ((plR (plR x 1).2 4).1 + 2)).2 (lineRec 0 (sgR (plR (plR (plR (plR x 1).2 4).2 1).2 1).2 ((plR (plR x 1).2 4).1 + 2)).1) (hl _ rfl)
      have e2 := takeR_c (sgR (plR (plR (plR (plR x 1).2 4).2 1).2 1).2 ((plR (plR x 1).2 4).1 + 2)).2 (lineRec (sgR (plR (plR (plR (plR x 1).2 4).2 1).2 1).2 ((plR (plR x 1).2 4).1 + 2)).1 0) (hl _ rfl)
      simp only [Rec.e, lineRec, List.map_nil] at e1 e2
      cases ((plR (plR (plR (plR x 1).2 4).2 1).2 1).1 == 1) with
      | true => simp only [sgR_c _ h4, e1, lineRec, zbc, zcf]
      | false => simp only [sgR_c _ h4, e2, lineRec, zbc, zcf]
def freshRec (l : List Fill) (m : List Strk) : Rec := ⟨3, 0, 0, 0, 0, 0, 0, 0, l, m⟩
def freshR (x : RS) : RS :=
  bif x.σ.2.2 != 0 then x else
    let t := takeF x.σ.1 x.σ.2.1
    let y : RS := { x with σ := t.2.2, fs := t.1.length, ss := t.2.1.length }
    let p := plR y 4
    let q := plR p.2 4
    takeR { q.2 with a := p.1, b := q.1 } (freshRec t.1 t.2.1)
theorem takeF_len {s : List UInt8} (h : s.length ≤ 2 ^ 40) (a : Int) : LenOk (takeF s a).2.2 := by
  have hσ : LenOk (s, a, 0) := h
  unfold takeF finT
  split
  · exact Nat.zero_le _
  · exact strksP_len _ _ (many_len (fillsP_len _ _ (many_len hσ)))
theorem fresh_c (x : RS) (h : x.ok) : cW f_q155 [.u] [(t_q1, [PV.s (x).σ.1, PV.i (x).σ.2.1, PV.i (x).σ.2.2, PV.i (x).fs, PV.i (x).ss, PV.i (x).a, PV.i (x).b, PV.l ((x).l.map Rec.e)])] = some ([], [(t_q1, [PV.s (freshR x).σ.1, PV.i (freshR x).σ.2.1, PV.i (freshR x).σ.2.2, PV.i (freshR x).fs, PV.i (freshR x).ss, PV.i (freshR x).a, PV.i (freshR x).b, PV.l ((freshR x).l.map Rec.e)])]) := by
  rw [w_q155]
  unfold freshR
  cases he : (x.σ.2.2 != 0) with
  | true => rfl
  | false =>
    have ht := takeF_len h.1 x.σ.2.1
    have e1 := plR_c { x with σ := (takeF x.σ.1 x.σ.2.1).2.2, fs := (takeF x.σ.1 x.σ.2.1).1.length, ss := (takeF x.σ.1 x.σ.2.1).2.1.length } ht 4
    have h2 := plR_len { x with σ := (takeF x.σ.1 x.σ.2.1).2.2, fs := (takeF x.σ.1 x.σ.2.1).1.length, ss := (takeF x.σ.1 x.σ.2.1).2.1.length } 4 ht
    have e2 := plR_c _ h2 4
    have e3 := takeR_c { (plR (plR { x with σ := (takeF x.σ.1 x.σ.2.1).2.2, fs := (takeF x.σ.1 x.σ.2.1).1.length, ss := (takeF x.σ.1 x.σ.2.1).2.1.length } 4).2 4).2 with a := (plR { x with σ := (takeF x.σ.1 x.σ.2.1).2.2, fs := (takeF x.σ.1 x.σ.2.1).1.length, ss := (takeF x.σ.1 x.σ.2.1).2.1.length } 4).1, b := (plR (plR { x with σ := (takeF x.σ.1 x.σ.2.1).2.2, fs := (takeF x.σ.1 x.σ.2.1).1.length, ss := (takeF x.σ.1 x.σ.2.1).2.1.length } 4).2 4).1 } (freshRec (takeF x.σ.1 x.σ.2.1).1 (takeF x.σ.1 x.σ.2.1).2.1) (by have := h.2; show x.l.length ≤ _; omega)
    simp only [Rec.e, freshRec] at e3
    simp only [zq6, Take_c h.1, encT, e1, e2, e3, freshRec, zcf]
end Go.AI
set_option linter.unusedVariables false
set_option linter.unusedSimpArgs false
set_option maxRecDepth 100000
namespace Go.AI
open Go Go.Proofs

def bitB (f : Int) (k : Nat) : Bool := f / 2 ^ k % 2 == 1
def anyB (f : Int) : Bool := bitB f 1 || (bitB f 2 || bitB f 3)
theorem flag_bits {f : Int} (h0 : 0 ≤ f) (h1 : f < 32) : (bitsOp .and .i64 f 1 != 0) = bitB f 0 ∧ (bitsOp .and .i64 f 2 != 0) = bitB f 1 ∧ (bitsOp .and .i64 f 4 != 0) = bitB f 2 ∧ (bitsOp .and .i64 f 8 != 0) = bitB f 3 ∧ (bitsOp .and .i64 f 16 != 0) = bitB f 4 ∧ (bitsOp .and .i64 f 14 != 0) = anyB f := by
  have : ∀ k : Fin 32, (bitsOp .and .i64 ((k.1 : Nat) : Int) 1 != 0) = bitB ((k.1 : Nat) : Int) 0 ∧ (bitsOp .and .i64 ((k.1 : Nat) : Int) 2 != 0) = bitB ((k.1 : Nat) : Int) 1 ∧ (bitsOp .and .i64 ((k.1 : Nat) : Int) 4 != 0) = bitB ((k.1 : Nat) : Int) 2 ∧ (bitsOp .and .i64 ((k.1 : Nat) : Int) 8 != 0) = bitB ((k.1 : Nat) : Int) 3 ∧ (bitsOp .and .i64 ((k.1 : Nat) : Int) 16 != 0) = bitB ((k.1 : Nat) : Int) 4 ∧ (bitsOp .and .i64 ((k.1 : Nat) : Int) 14 != 0) = anyB ((k.1 : Nat) : Int) := by decide +kernel
  have := this ⟨f.toNat, by omega⟩
  rwa [show ((f.toNat : Nat) : Int) = f by omega] at this
def moveRec (x y : Int) : Rec := ⟨1, x, y, 0, 0, 0, 0, 0, [], []⟩
def setRec (l r n : Int) : Rec := ⟨2, 0, 0, 0, 0, l, r, n, [], []⟩
/-- the parts of several -/
def mvR (x : RS) (f : Int) : (Int × Int) × RS := bif bitB f 0 then (((sgR (plR x 5).2 (plR x 5).1).1, (sgR (sgR (plR x 5).2 (plR x 5).1).2 (plR x 5).1).1), (sgR (sgR (plR x 5).2 (plR x 5).1).2 (plR x 5).1).2) else ((0, 0), x)
def stR (c : Bool) (x : RS) (n : Int) : Int × RS := bif c then plR x n else (-1, x)
def chR (x : RS) (mx my l r n : Int) : RS := bif (x.σ.2.2 == 0) && (!(inB2 (-1048576) 1048576 mx && inB2 (-1048576) 1048576 my) || (decide ((bif decide (r > l) then r else l) > x.fs) || decide (n > x.ss))) then failX x 3 else x
def endR (x : RS) (f mx my l r n : Int) : RS :=
  let y := bif bitB f 0 then takeR x (moveRec mx my) else x
  bif anyB f then takeR y (setRec l r n) else y
def s4R (x : RS) (f mx my l r n : Int) : RS := endR (chR (bif bitB f 4 then freshR x else x) mx my l r n) f mx my l r n
def s3R (x : RS) (f mx my l r : Int) : RS := s4R (stR (bitB f 3) x x.b).2 f mx my l r (stR (bitB f 3) x x.b).1
def s2R (x : RS) (f mx my l : Int) : RS := s3R (stR (bitB f 2) x x.a).2 f mx my l (stR (bitB f 2) x x.a).1
def s1R (x : RS) (f mx my : Int) : RS := s2R (stR (bitB f 1) x x.a).2 f mx my (stR (bitB f 1) x x.a).1
def sevR (x : RS) (f kind : Int) : RS := bif (bitB f 4 && (kind != 0)) || (anyB f && (kind == 2)) then failX x 3 else s1R (mvR x f).2 f (mvR x f).1.1 (mvR x f).1.2
theorem stR_ok {c : Bool} {x : RS} (h : x.ok) (n : Int) : (stR c x n).2.ok := by
  unfold stR; cases c
  · exact h
  · exact ⟨plR_len x n h.1, h.2⟩
theorem mvR_ok {x : RS} (h : x.ok) (f : Int) : (mvR x f).2.ok := by
  unfold mvR; cases bitB f 0
  · exact h
  · exact ⟨sgR_len _ _ (sgR_len _ _ (plR_len _ _ h.1)), h.2⟩
theorem freshR_len {x : RS} (h : LenOk x.σ) : LenOk (freshR x).σ := by
  unfold freshR
  cases x.σ.2.2 != 0
  · refine takeR_len _ _ ?_
    exact plR_len _ _ (plR_len _ _ (takeF_len h x.σ.2.1))
  · exact h
theorem freshR_n (x : RS) : (freshR x).l.length ≤ x.l.length + 1 := by
  unfold freshR
  cases x.σ.2.2 != 0
  · exact takeR_n _ _
  · show x.l.length ≤ _; omega
theorem end_c (x : RS) (h : x.l.length ≤ 100010) {f : Int} (h0 : 0 ≤ f) (h1 : f < 32) (mx my l r n : Int) :
    rW f_q4 [t_q1] at_q45 (S_q45 f (x.l.map Rec.e) x.σ.1 x.σ.2.1 x.σ.2.2 x.fs x.ss x.a x.b [] [] 1 mx my 0 0 0 0 0 [] [] 2 0 0 0 0 l r n) = some ([], [(t_q1, [PV.s (endR x f mx my l r n).σ.1, PV.i (endR x f mx my l r n).σ.2.1, PV.i (endR x f mx my l r n).σ.2.2, PV.i (endR x f mx my l r n).fs, PV.i (endR x f mx my l r n).ss, PV.i (endR x f mx my l r n).a, PV.i (endR x f mx my l r n).b, PV.l ((endR x f mx my l r n).l.map Rec.e)])]) := by
  obtain ⟨b1, _, _, _, _, b14⟩ := flag_bits h0 h1
  have tail : ∀ y : RS, y.l.length ≤ 1000000 → rW f_q4 [t_q1] at_q46 (S_q46 f (y.l.map Rec.e) y.σ.1 y.σ.2.1 y.σ.2.2 y.fs y.ss y.a y.b [] [] 2 0 0 0 0 l r n) = some ([], [(t_q1, [PV.s (bif anyB f then takeR y (setRec l r n) else y).σ.1, PV.i (bif anyB f then takeR y (setRec l r n) else y).σ.2.1, PV.i (bif anyB f then takeR y (setRec l r n) else y).σ.2.2, PV.i (bif anyB f then takeR y (setRec l r n) else y).fs, PV.i (bif anyB f then takeR y (setRec l r n) else y).ss, PV.i (bif anyB f then takeR y (setRec l r n) else y).a, PV.i (bif anyB f then takeR y (setRec l r n) else y).b, PV.l ((bif anyB f then takeR y (setRec l r n) else y).l.map Rec.e)])]) := by
    intro y hy
    have e := takeR_c y (setRec l r n) hy
    simp only [Rec.e, setRec, List.map_nil] at e
    rw [w_q46, b14]
    cases anyB f with
    | true => simp only [e, setRec, zcf]
    | false => rfl
  have e := takeR_c x (moveRec mx my) (by omega)
  simp only [Rec.e, moveRec, List.map_nil] at e
  rw [w_q45, b1]
  unfold endR
  cases bitB f 0 with
  | true =>
    simp only [e, zcf]
    exact tail _ (by have := takeR_n x (moveRec mx my); show (takeR x (moveRec mx my)).l.length ≤ _; omega)
  | false => exact tail x (by omega)
theorem s4_c (x : RS) (h : x.ok) {f : Int} (h0 : 0 ≤ f) (h1 : f < 32) (mx my l r n : Int) :
    rW f_q4 [t_q1] at_q43 (S_q43 f (x.l.map Rec.e) x.σ.1 x.σ.2.1 x.σ.2.2 x.fs x.ss x.a x.b [] [] 1 mx my 0 0 0 0 0 [] [] 2 0 0 0 0 l r n) = some ([], [(t_q1, [PV.s (s4R x f mx my l r n).σ.1, PV.i (s4R x f mx my l r n).σ.2.1, PV.i (s4R x f mx my l r n).σ.2.2, PV.i (s4R x f mx my l r n).fs, PV.i (s4R x f mx my l r n).ss, PV.i (s4R x f mx my l r n).a, PV.i (s4R x f mx my l r n).b, PV.l ((s4R x f mx my l r n).l.map Rec.e)])]) := by
  obtain ⟨_, _, _, _, b16, _⟩ := flag_bits h0 h1
  have tail : ∀ y : RS, y.l.length ≤ 100005 → rW f_q4 [t_q1] at_q44 (S_q44 f (y.l.map Rec.e) y.σ.1 y.σ.2.1 y.σ.2.2 y.fs y.ss y.a y.b [] [] 1 mx my 0 0 0 0 0 [] [] 2 0 0 0 0 l r n) = some ([], [(t_q1, [PV.s (endR (chR y mx my l r n) f mx my l r n).σ.1, PV.i (endR (chR y mx my l r n) f mx my l r n).σ.2.1, PV.i (endR (chR y mx my l r n) f mx my l r n).σ.2.2, PV.i (endR (chR y mx my l r n) f mx my l r n).fs, PV.i (endR (chR y mx my l r n) f mx my l r n).ss, PV.i (endR (chR y mx my l r n) f mx my l r n).a, PV.i (endR (chR y mx my l r n) f mx my l r n).b, PV.l ((endR (chR y mx my l r n) f mx my l r n).l.map Rec.e)])]) := by
    intro y hy
    rw [w_q44]
    simp only [within2_c, failX_c, zcf]
    unfold chR
    cases ((y.σ.2.2 == 0) && (!(inB2 (-1048576) 1048576 mx && inB2 (-1048576) 1048576 my) || (decide ((bif decide (r > l) then r else l) > y.fs) || decide (n > y.ss)))) with
    | true => exact end_c (failX y 3) (by show y.l.length ≤ _; omega) h0 h1 mx my l r n
    | false => exact end_c y (by omega) h0 h1 mx my l r n
  rw [w_q43, b16]
  unfold s4R
  cases bitB f 4 with
  | true =>
    simp only [fresh_c x h, zcf]
    exact tail (freshR x) (by have := freshR_n x; have := h.2; omega)
  | false => exact tail x (by have := h.2; omega)
theorem s3_c (x : RS) (h : x.ok) {f : Int} (h0 : 0 ≤ f) (h1 : f < 32) (mx my l r : Int) :
    rW f_q4 [t_q1] at_q42 (S_q42 f (x.l.map Rec.e) x.σ.1 x.σ.2.1 x.σ.2.2 x.fs x.ss x.a x.b [] [] 1 mx my 0 0 0 0 0 [] [] 2 0 0 0 0 l r (-1)) = some ([], [(t_q1, [PV.s (s3R x f mx my l r).σ.1, PV.i (s3R x f mx my l r).σ.2.1, PV.i (s3R x f mx my l r).σ.2.2, PV.i (s3R x f mx my l r).fs, PV.i (s3R x f mx my l r).ss, PV.i (s3R x f mx my l r).a, PV.i (s3R x f mx my l r).b, PV.l ((s3R x f mx my l r).l.map Rec.e)])]) := by
  obtain ⟨_, _, _, b8, _, _⟩ := flag_bits h0 h1
  have ho := stR_ok (c := bitB f 3) h x.b
  have e := s4_c (stR (bitB f 3) x x.b).2 ho h0 h1 mx my l r (stR (bitB f 3) x x.b).1
  rw [w_q42, b8]
  unfold s3R
  unfold stR at e ⊢
  cases hc : bitB f 3 with
  | true =>
    rw [hc] at e
    simp only [plR_c x h.1, zcf]
    exact e
  | false => rw [hc] at e; exact e
theorem s2_c (x : RS) (h : x.ok) {f : Int} (h0 : 0 ≤ f) (h1 : f < 32) (mx my l : Int) :
    rW f_q4 [t_q1] at_q48 (S_q48 f (x.l.map Rec.e) x.σ.1 x.σ.2.1 x.σ.2.2 x.fs x.ss x.a x.b [] [] 1 mx my 0 0 0 0 0 [] [] 2 0 0 0 0 l (-1) (-1)) = some ([], [(t_q1, [PV.s (s2R x f mx my l).σ.1, PV.i (s2R x f mx my l).σ.2.1, PV.i (s2R x f mx my l).σ.2.2, PV.i (s2R x f mx my l).fs, PV.i (s2R x f mx my l).ss, PV.i (s2R x f mx my l).a, PV.i (s2R x f mx my l).b, PV.l ((s2R x f mx my l).l.map Rec.e)])]) := by
  obtain ⟨_, _, b4, _, _, _⟩ := flag_bits h0 h1
  have ho := stR_ok (c := bitB f 2) h x.a
  have e := s3_c (stR (bitB f 2) x x.a).2 ho h0 h1 mx my l (stR (bitB f 2) x x.a).1
  rw [w_q48, b4]
  unfold s2R
  unfold stR at e ⊢
  cases hc : bitB f 2 with
  | true =>
    rw [hc] at e
    simp only [plR_c x h.1, zcf]
    exact e
  | false => rw [hc] at e; exact e
theorem s1_c (x : RS) (h : x.ok) {f : Int} (h0 : 0 ≤ f) (h1 : f < 32) (mx my : Int) :
    rW f_q4 [t_q1] at_q47 (S_q47 f (x.l.map Rec.e) x.σ.1 x.σ.2.1 x.σ.2.2 x.fs x.ss x.a x.b [] [] 1 mx my 0 0 0 0 0) = some ([], [(t_q1, [PV.s (s1R x f mx my).σ.1, PV.i (s1R x f mx my).σ.2.1, PV.i (s1R x f mx my).σ.2.2, PV.i (s1R x f mx my).fs, PV.i (s1R x f mx my).ss, PV.i (s1R x f mx my).a, PV.i (s1R x f mx my).b, PV.l ((s1R x f mx my).l.map Rec.e)])]) := by
  obtain ⟨_, b2, _, _, _, _⟩ := flag_bits h0 h1
  have ho := stR_ok (c := bitB f 1) h x.a
  have e := s2_c (stR (bitB f 1) x x.a).2 ho h0 h1 mx my (stR (bitB f 1) x x.a).1
  rw [w_q47, b2]
  unfold s1R
  unfold stR at e ⊢
  cases hc : bitB f 1 with
  | true =>
    rw [hc] at e
    simp only [plR_c x h.1, zcf]
    exact e
  | false => rw [hc] at e; exact e
theorem sev_c (x : RS) (h : x.ok) {f : Int} (h0 : 0 ≤ f) (h1 : f < 32) (kind : Int) : cW f_q4 [.u, .i f, .i kind] [(t_q1, [PV.s (x).σ.1, PV.i (x).σ.2.1, PV.i (x).σ.2.2, PV.i (x).fs, PV.i (x).ss, PV.i (x).a, PV.i (x).b, PV.l ((x).l.map Rec.e)])] = some ([], [(t_q1, [PV.s (sevR x f kind).σ.1, PV.i (sevR x f kind).σ.2.1, PV.i (sevR x f kind).σ.2.2, PV.i (sevR x f kind).fs, PV.i (sevR x f kind).ss, PV.i (sevR x f kind).a, PV.i (sevR x f kind).b, PV.l ((sevR x f kind).l.map Rec.e)])]) := by
  obtain ⟨b1, _, _, _, b16, b14⟩ := flag_bits h0 h1
  have ho := mvR_ok h f
  have e := s1_c (mvR x f).2 ho h0 h1 (mvR x f).1.1 (mvR x f).1.2
  rw [w_q4, b16, b14, b1]
  unfold sevR
  have hc : ∀ b c : Bool, ((bif b then (bif (kind != 0) then some [PV.b true] else (bif c then some [PV.b (kind == 2)] else some [PV.b false])) else (bif c then some [PV.b (kind == 2)] else some [PV.b false])) : Option (List PV)) = some [PV.b ((b && (kind != 0)) || (c && (kind == 2)))] := by
    intro b c; cases b <;> cases c <;> cases (kind != 0) <;> cases (kind == 2) <;> rfl
  rw [hc]
  simp only [zcf]
  cases ((bitB f 4 && (kind != 0)) || (anyB f && (kind == 2))) with
  | true => simp only [failX_c, zcf]
  | false =>
    have g1 := plR_len x 5 h.1
    have g2 := sgR_len (plR x 5).2 (plR x 5).1 g1
    unfold mvR at e ⊢
    cases hb : bitB f 0 with
    | true =>
      rw [hb] at e
      simp only [plR_c x h.1, sgR_c _ g1, sgR_c _ g2, zcf]
      exact e
    | false => rw [hb] at e; exact e
/-- the records, by rounds -/
def loopR (kind : Int) : Nat → RS → RS
  | 0, x => x
  | n + 1, x => bif x.σ.2.2 == 0 then
      (bif (plR x 1).1 == 1 then loopR kind n (edgeR (plR x 1).2)
       else bif (plR (plR x 1).2 5).1 == 0 then (plR (plR x 1).2 5).2
       else loopR kind n (sevR (plR (plR x 1).2 5).2 (plR (plR x 1).2 5).1 kind))
    else x
end Go.AI
set_option linter.unusedVariables false
set_option linter.unusedSimpArgs false
set_option maxRecDepth 100000
namespace Go.AI
open Go Go.Proofs

/-- what went on well went on forward -/
def Adv (σ τ : Rs) : Prop := τ.2.2 = 0 → σ.2.2 = 0 ∧ τ.1 = σ.1 ∧ σ.2.1 ≤ τ.2.1
theorem Adv.refl (σ : Rs) : Adv σ σ := fun h => ⟨h, rfl, Int.le_refl _⟩
theorem Adv.trans {σ τ ρ : Rs} (h : Adv σ τ) (k : Adv τ ρ) : Adv σ ρ := fun e => by
  obtain ⟨a, b, c⟩ := k e
  obtain ⟨a', b', c'⟩ := h a
  exact ⟨a', b.trans b', Int.le_trans c' c⟩
theorem pl_adv (σ : Rs) (n : Int) : Adv σ (pl σ n).2 := fun e => by
  obtain ⟨h1, h2, N, v, hn, _, _, _, hp⟩ := pl_val e
  rw [hp]; exact ⟨h1, rfl, by show σ.2.1 ≤ σ.2.1 + N; omega⟩
theorem pl_adv1 {σ : Rs} {n : Int} (hn : 0 < n) (e : (pl σ n).2.2.2 = 0) : σ.2.2 = 0 ∧ (pl σ n).2.1 = σ.1 ∧ σ.2.1 + n = (pl σ n).2.2.1 ∧ σ.2.1 + n ≤ 8 * (σ.1.length : Int) := by
  obtain ⟨h1, h2, N, v, hn', _, _, hl, hp⟩ := pl_val e
  rw [hp]; exact ⟨h1, rfl, by show σ.2.1 + n = σ.2.1 + N; omega, by omega⟩
theorem sg_adv (σ : Rs) (n : Int) : Adv σ (sg σ n).2 := fun e => by
  obtain ⟨h1, h2, N, hn, _, _, _, hp⟩ := sg_val e
  rw [hp]; exact ⟨h1, rfl, by show σ.2.1 ≤ σ.2.1 + N; omega⟩
theorem fail_adv (σ τ : Rs) {e : Int} (he : e ≠ 0) : Adv σ (failR τ e) := fun h => absurd h (failR_ne he)
theorem takeR_adv (x : RS) (r : Rec) : Adv x.σ (takeR x r).σ := by
  unfold takeR
  cases (x.σ.2.2 == 0) && (x.l.length == 512)
  · exact .refl _
  · exact fail_adv _ _ (by decide)
theorem plR_adv (x : RS) (n : Int) : Adv x.σ (plR x n).2.σ := pl_adv _ _
theorem sgR_adv (x : RS) (n : Int) : Adv x.σ (sgR x n).2.σ := sg_adv _ _
theorem takeF_adv (s : List UInt8) (a : Int) : Adv (s, a, 0) (takeF s a).2.2 := fun h => by
  unfold takeF finT at h ⊢
  split at h
  · rename_i e; exact absurd h e
  · rename_i e
    rw [if_neg e]
    obtain ⟨v, _⟩ := lists_val (σ := (s, a, 0)) (by simpa using e)
    obtain ⟨_, p, q, hp, hq, hk⟩ := v
    rw [hq]
    exact ⟨rfl, rfl, by show a ≤ (q : Int); have hp : a = (p : Int) := hp; omega⟩
theorem edgeR_adv (x : RS) : Adv x.σ (edgeR x).σ := by
  have a1 := plR_adv x 1
  have a2 := a1.trans (plR_adv (plR x 1).2 4)
  unfold edgeR
  dsimp only
  generalize (plR (plR x 1).2 4).1 + 2 = n
  cases (plR x 1).1 == 1 with
  | false =>
    have b1 := a2.trans (sgR_adv (plR (plR x 1).2 4).2 n)
    have b2 := b1.trans (sgR_adv (sgR (plR (plR x 1).2 4).2 n).2 n)
    have b3 := b2.trans (sgR_adv (sgR (sgR (plR (plR x 1).2 4).2 n).2 n).2 n)
    have b4 := b3.trans (sgR_adv (sgR (sgR (sgR (plR (plR x 1).2 4).2 n).2 n).2 n).2 n)
    exact b4.trans (takeR_adv _ _)
  | true =>
    have a3 := a2.trans (plR_adv (plR (plR x 1).2 4).2 1)
    simp only [zq16, zq6]
    cases (plR (plR (plR x 1).2 4).2 1).1 == 1 with
    | true =>
      have b1 := a3.trans (sgR_adv (plR (plR (plR x 1).2 4).2 1).2 n)
      have b2 := b1.trans (sgR_adv (sgR (plR (plR (plR x 1).2 4).2 1).2 n).2 n)
      exact b2.trans (takeR_adv _ _)
    | false =>
      have a4 := a3.trans (plR_adv (plR (plR (plR x 1).2 4).2 1).2 1)
      have b1 := a4.trans (sgR_adv (plR (plR (plR (plR x 1).2 4).2 1).2 1).2 n)
      simp only [zq6]
      cases (plR (plR (plR (plR x 1).2 4).2 1).2 1).1 == 1 with
      | true => exact b1.trans (takeR_adv _ _)
      | false => exact b1.trans (takeR_adv _ _)
theorem freshR_adv (x : RS) : Adv x.σ (freshR x).σ := by
  unfold freshR
  cases he : x.σ.2.2 != 0 with
  | true => exact .refl _
  | false =>
    have hz : x.σ.2.2 = 0 := by simpa using he
    have a1 := takeF_adv x.σ.1 x.σ.2.1
    have e : x.σ = (x.σ.1, x.σ.2.1, 0) := by rw [← hz]
    rw [← e] at a1
    dsimp only [zq6]
    have a2 := a1.trans (plR_adv { x with σ := (takeF x.σ.1 x.σ.2.1).2.2, fs := (takeF x.σ.1 x.σ.2.1).1.length, ss := (takeF x.σ.1 x.σ.2.1).2.1.length } 4)
    have a3 := a2.trans (plR_adv (plR { x with σ := (takeF x.σ.1 x.σ.2.1).2.2, fs := (takeF x.σ.1 x.σ.2.1).1.length, ss := (takeF x.σ.1 x.σ.2.1).2.1.length } 4).2 4)
    exact a3.trans (takeR_adv { (plR (plR { x with σ := (takeF x.σ.1 x.σ.2.1).2.2, fs := (takeF x.σ.1 x.σ.2.1).1.length, ss := (takeF x.σ.1 x.σ.2.1).2.1.length } 4).2 4).2 with a := _, b := _ } _)
theorem stR_adv (c : Bool) (x : RS) (n : Int) : Adv x.σ (stR c x n).2.σ := by
  unfold stR; cases c
  · exact .refl _
  · exact plR_adv _ _
theorem mvR_adv (x : RS) (f : Int) : Adv x.σ (mvR x f).2.σ := by
  unfold mvR; cases bitB f 0
  · exact .refl _
  · exact ((plR_adv x 5).trans (sgR_adv (plR x 5).2 (plR x 5).1)).trans (sgR_adv (sgR (plR x 5).2 (plR x 5).1).2 (plR x 5).1)
theorem chR_adv (x : RS) (mx my l r n : Int) : Adv x.σ (chR x mx my l r n).σ := by
  unfold chR
  cases (x.σ.2.2 == 0) && (!(inB2 (-1048576) 1048576 mx && inB2 (-1048576) 1048576 my) || (decide ((bif decide (r > l) then r else l) > x.fs) || decide (n > x.ss)))
  · exact .refl _
  · exact fail_adv _ _ (by decide)
theorem endR_adv (x : RS) (f mx my l r n : Int) : Adv x.σ (endR x f mx my l r n).σ := by
  unfold endR
  dsimp only
  cases bitB f 0 <;> cases anyB f
  · exact .refl _
  · exact takeR_adv _ _
  · exact takeR_adv _ _
  · exact (takeR_adv x (moveRec mx my)).trans (takeR_adv (takeR x (moveRec mx my)) _)
theorem s1R_adv (x : RS) (f mx my : Int) : Adv x.σ (s1R x f mx my).σ := by
  unfold s1R s2R s3R s4R
  have a1 := stR_adv (bitB f 1) x x.a
  have a2 := a1.trans (stR_adv (bitB f 2) (stR (bitB f 1) x x.a).2 (stR (bitB f 1) x x.a).2.a)
  have a3 := a2.trans (stR_adv (bitB f 3) (stR (bitB f 2) (stR (bitB f 1) x x.a).2 (stR (bitB f 1) x x.a).2.a).2 (stR (bitB f 2) (stR (bitB f 1) x x.a).2 (stR (bitB f 1) x x.a).2.a).2.b)
  generalize (stR (bitB f 3) (stR (bitB f 2) (stR (bitB f 1) x x.a).2 (stR (bitB f 1) x x.a).2.a).2 (stR (bitB f 2) (stR (bitB f 1) x x.a).2 (stR (bitB f 1) x x.a).2.a).2.b) = y at a3 ⊢
  have a4 : Adv x.σ (bif bitB f 4 then freshR y.2 else y.2).σ := by
    cases bitB f 4
    · exact a3
    · exact a3.trans (freshR_adv y.2)
  generalize (bif bitB f 4 then freshR y.2 else y.2) = z at a4 ⊢
  have a5 := a4.trans (chR_adv z mx my (stR (bitB f 1) x x.a).1 (stR (bitB f 2) (stR (bitB f 1) x x.a).2 (stR (bitB f 1) x x.a).2.a).1 y.1)
  exact a5.trans (endR_adv _ _ _ _ _ _ _)
theorem sevR_adv (x : RS) (f kind : Int) : Adv x.σ (sevR x f kind).σ := by
  unfold sevR
  cases ((bitB f 4 && (kind != 0)) || (anyB f && (kind == 2)))
  · exact (mvR_adv x f).trans (s1R_adv (mvR x f).2 _ _ _)
  · exact fail_adv _ _ (by decide)
/-- how many there are -/
def Cnt (x : RS) : Prop := x.σ.2.2 = 0 → x.l.length ≤ 512
theorem takeR_cnt {x : RS} (h : Cnt x) (r : Rec) : Cnt (takeR x r) := by
  intro e
  obtain ⟨he, _, _⟩ := takeR_adv x r e
  have hl := h he
  unfold takeR at e ⊢
  rw [show (x.σ.2.2 == 0) = true by simpa using he, Bool.true_and] at e ⊢
  cases hc : (x.l.length == 512) with
  | true => rw [hc] at e; exact absurd e (failR_ne (by decide))
  | false =>
    have : x.l.length ≠ 512 := by simpa using hc
    show (x.l ++ [r]).length ≤ 512
    simp; omega
theorem cnt_of {x y : RS} (h : Cnt x) (a : Adv x.σ y.σ) (hl : y.l = x.l) : Cnt y := fun e => by rw [hl]; exact h (a e).1
theorem sgR_cnt {x : RS} (h : Cnt x) (n : Int) : Cnt (sgR x n).2 := cnt_of h (sgR_adv x n) rfl
theorem plR_cnt {x : RS} (h : Cnt x) (n : Int) : Cnt (plR x n).2 := cnt_of h (plR_adv x n) rfl
theorem edgeR_cnt {x : RS} (h : Cnt x) : Cnt (edgeR x) := by
  have c2 := plR_cnt (plR_cnt h 1) 4
  unfold edgeR
  dsimp only
  cases (plR x 1).1 == 1 with
  | false => exact takeR_cnt (sgR_cnt (sgR_cnt (sgR_cnt (sgR_cnt c2 _) _) _) _) _
  | true =>
    have c3 := plR_cnt c2 1
    simp only [zq16, zq6]
    cases (plR (plR (plR x 1).2 4).2 1).1 == 1 with
    | true => exact takeR_cnt (sgR_cnt (sgR_cnt c3 _) _) _
    | false =>
      have c4 := plR_cnt c3 1
      simp only [zq6]
      cases (plR (plR (plR (plR x 1).2 4).2 1).2 1).1 == 1 with
      | true => exact takeR_cnt (sgR_cnt c4 _) _
      | false => exact takeR_cnt (sgR_cnt c4 _) _
theorem freshR_cnt {x : RS} (h : Cnt x) : Cnt (freshR x) := by
  unfold freshR
  cases he : x.σ.2.2 != 0 with
  | true => exact h
  | false =>
    have hz : x.σ.2.2 = 0 := by simpa using he
    dsimp only [zq6]
    refine takeR_cnt ?_ _
    exact fun _ => h hz
theorem stR_cnt {x : RS} (h : Cnt x) (c : Bool) (n : Int) : Cnt (stR c x n).2 := cnt_of h (stR_adv c x n) (by unfold stR; cases c <;> rfl)
theorem mvR_cnt {x : RS} (h : Cnt x) (f : Int) : Cnt (mvR x f).2 := cnt_of h (mvR_adv x f) (by unfold mvR; cases bitB f 0 <;> rfl)
theorem chR_l (x : RS) (mx my l r n : Int) : (chR x mx my l r n).l = x.l := by unfold chR; generalize (x.σ.2.2 == 0 && _) = c; cases c <;> rfl
theorem s1R_cnt {x : RS} (h : Cnt x) (f mx my : Int) : Cnt (s1R x f mx my) := by
  have c1 := stR_cnt h (bitB f 1) x.a
  have c2 := stR_cnt c1 (bitB f 2) (stR (bitB f 1) x x.a).2.a
  have c3 := stR_cnt c2 (bitB f 3) (stR (bitB f 2) (stR (bitB f 1) x x.a).2 (stR (bitB f 1) x x.a).2.a).2.b
  unfold s1R s2R s3R s4R
  generalize (stR (bitB f 3) (stR (bitB f 2) (stR (bitB f 1) x x.a).2 (stR (bitB f 1) x x.a).2.a).2 (stR (bitB f 2) (stR (bitB f 1) x x.a).2 (stR (bitB f 1) x x.a).2.a).2.b) = y at c3 ⊢
  have c4 : Cnt (bif bitB f 4 then freshR y.2 else y.2) := by
    cases bitB f 4
    · exact c3
    · exact freshR_cnt c3
  generalize (bif bitB f 4 then freshR y.2 else y.2) = z at c4 ⊢
  have c5 := cnt_of c4 (chR_adv z mx my (stR (bitB f 1) x x.a).1 (stR (bitB f 2) (stR (bitB f 1) x x.a).2 (stR (bitB f 1) x x.a).2.a).1 y.1) (chR_l ..)
  unfold endR
  dsimp only
  cases bitB f 0 <;> cases anyB f
  · exact c5
  · exact takeR_cnt c5 _
  · exact takeR_cnt c5 _
  · exact takeR_cnt (takeR_cnt c5 _) _
theorem sevR_cnt {x : RS} (h : Cnt x) (f kind : Int) : Cnt (sevR x f kind) := by
  unfold sevR
  cases ((bitB f 4 && (kind != 0)) || (anyB f && (kind == 2)))
  · exact s1R_cnt (mvR_cnt h f) _ _ _
  · exact cnt_of (x := x) h (fail_adv _ _ (by decide)) rfl
/-- lengths -/
theorem edgeR_len {x : RS} (h : LenOk x.σ) : LenOk (edgeR x).σ := by
  have h1 := plR_len x 1 h
  have h2 := plR_len _ 4 h1
  unfold edgeR
  dsimp only
  cases (plR x 1).1 == 1 with
  | false => exact takeR_len _ _ (sgR_len _ _ (sgR_len _ _ (sgR_len _ _ (sgR_len _ _ h2))))
  | true =>
    have h3 := plR_len _ 1 h2
    simp only [zq16, zq6]
    cases (plR (plR (plR x 1).2 4).2 1).1 == 1 with
    | true => exact takeR_len _ _ (sgR_len _ _ (sgR_len _ _ h3))
    | false =>
      have h4 := plR_len _ 1 h3
      simp only [zq6]
      cases (plR (plR (plR (plR x 1).2 4).2 1).2 1).1 == 1 with
      | true => exact takeR_len _ _ (sgR_len _ _ h4)
      | false => exact takeR_len _ _ (sgR_len _ _ h4)
theorem edgeR_n (x : RS) : (edgeR x).l.length ≤ x.l.length + 1 := by
  unfold edgeR
  dsimp only
  cases (plR x 1).1 == 1 with
  | false => exact takeR_n _ _
  | true =>
    simp only [zq16, zq6]
    cases (plR (plR (plR x 1).2 4).2 1).1 == 1 with
    | true => exact takeR_n _ _
    | false =>
      simp only [zq6]
      cases (plR (plR (plR (plR x 1).2 4).2 1).2 1).1 == 1 with
      | true => exact takeR_n _ _
      | false => exact takeR_n _ _
theorem stR_l (c : Bool) (x : RS) (n : Int) : (stR c x n).2.l = x.l := by unfold stR; cases c <;> rfl
theorem sevR_both {x : RS} (h : x.ok) (f kind : Int) : LenOk (sevR x f kind).σ ∧ (sevR x f kind).l.length ≤ x.l.length + 3 := by
  unfold sevR
  cases ((bitB f 4 && (kind != 0)) || (anyB f && (kind == 2))) with
  | true => exact ⟨fail_len h.1 3, by show x.l.length ≤ _; omega⟩
  | false =>
    simp only [zq6]
    have m1 := mvR_ok h f
    have ml : (mvR x f).2.l = x.l := by unfold mvR; cases bitB f 0 <;> rfl
    generalize (mvR x f).1.1 = mx
    generalize (mvR x f).1.2 = my
    generalize (mvR x f).2 = y at m1 ml ⊢
    unfold s1R s2R s3R s4R
    have k1 := stR_ok (c := bitB f 1) m1 y.a
    have k2 := stR_ok (c := bitB f 2) k1 (stR (bitB f 1) y y.a).2.a
    have k3 := stR_ok (c := bitB f 3) k2 (stR (bitB f 2) (stR (bitB f 1) y y.a).2 (stR (bitB f 1) y y.a).2.a).2.b
    have kl : (stR (bitB f 3) (stR (bitB f 2) (stR (bitB f 1) y y.a).2 (stR (bitB f 1) y y.a).2.a).2 (stR (bitB f 2) (stR (bitB f 1) y y.a).2 (stR (bitB f 1) y y.a).2.a).2.b).2.l = x.l := by rw [stR_l, stR_l, stR_l, ml]
    generalize (stR (bitB f 3) (stR (bitB f 2) (stR (bitB f 1) y y.a).2 (stR (bitB f 1) y y.a).2.a).2 (stR (bitB f 2) (stR (bitB f 1) y y.a).2 (stR (bitB f 1) y y.a).2.a).2.b) = z at k3 kl ⊢
    have c4 : LenOk (bif bitB f 4 then freshR z.2 else z.2).σ ∧ (bif bitB f 4 then freshR z.2 else z.2).l.length ≤ x.l.length + 1 := by
      cases bitB f 4
      · exact ⟨k3.1, by show z.2.l.length ≤ _; rw [kl]; omega⟩
      · have := freshR_n z.2; rw [kl] at this; exact ⟨freshR_len k3.1, this⟩
    generalize (bif bitB f 4 then freshR z.2 else z.2) = u at c4 ⊢
    have c5 : ∀ mx my l r n, LenOk (chR u mx my l r n).σ := fun mx my l r n => by
      unfold chR
      generalize (u.σ.2.2 == 0 && _) = c
      cases c
      · exact c4.1
      · exact fail_len c4.1 3
    have c6 := chR_l u
    generalize hch : chR u mx my _ _ _ = v
    have v1 : LenOk v.σ := by rw [← hch]; exact c5 ..
    have v2 : v.l.length ≤ x.l.length + 1 := by rw [← hch, chR_l]; exact c4.2
    unfold endR
    dsimp only
    cases bitB f 0 <;> cases anyB f
    · exact ⟨v1, by show v.l.length ≤ _; omega⟩
    · exact ⟨takeR_len _ _ v1, by have := takeR_n v (setRec (stR (bitB f 1) y y.a).1 (stR (bitB f 2) (stR (bitB f 1) y y.a).2 (stR (bitB f 1) y y.a).2.a).1 z.1); show (takeR v _).l.length ≤ _; omega⟩
    · exact ⟨takeR_len _ _ v1, by have := takeR_n v (moveRec mx my); show (takeR v _).l.length ≤ _; omega⟩
    · refine ⟨takeR_len _ _ (takeR_len _ _ v1), ?_⟩
      have a := takeR_n v (moveRec mx my)
      have b := takeR_n (takeR v (moveRec mx my)) (setRec (stR (bitB f 1) y y.a).1 (stR (bitB f 2) (stR (bitB f 1) y y.a).2 (stR (bitB f 1) y y.a).2.a).1 z.1)
      show (takeR (takeR v _) _).l.length ≤ _
      omega
end Go.AI
set_option linter.unusedVariables false
set_option linter.unusedSimpArgs false
set_option maxRecDepth 100000
namespace Go.AI
open Go Go.Proofs

def finX (x : RS) : List Rec × Rs := if x.σ.2.2 ≠ 0 then ([], ([], 0, x.σ.2.2)) else (x.l, (x.σ.1, alignF x.σ.1 x.σ.2.1, 0))
def encX (r : List Rec × Rs) : Res := ([.l (r.1.map Rec.e), .s r.2.1, .i r.2.2.1, .i r.2.2.2], [])
theorem fin_c (x : RS) (h : LenOk x.σ) : (bif x.σ.2.2 != 0 then some ([PV.l [], PV.s [], PV.i 0, PV.i x.σ.2.2], ([] : List BX)) else (cW f_q183 [.s x.σ.1, .i x.σ.2.1] []).bind fun r => some ([PV.l (x.l.map Rec.e), PV.s (r.1.getD 0 PV.u).toS, PV.i (r.1.getD 1 PV.u).toI, PV.i 0], [])) = some (encX (finX x)) := by
  unfold finX
  by_cases he : x.σ.2.2 = 0
  · rw [show (x.σ.2.2 != 0) = false by simp [he], if_neg (by simp [he]), (align_ans h _).c]; rfl
  · rw [show (x.σ.2.2 != 0) = true by simp [he], if_pos he]; rfl
/-- rounds enough -/
def Fuel (n : Nat) (σ : Rs) : Prop := σ.2.2 = 0 → 1 ≤ n ∧ 8 * (σ.1.length : Int) - σ.2.1 + 1 ≤ n
theorem fuel_next {n : Nat} {σ τ : Rs} (h : Fuel (n + 1) σ) {ρ : Rs} (h1 : ρ = (pl σ 1).2) (h2 : Adv ρ τ) : Fuel n τ := fun e => by
  obtain ⟨a, b, c⟩ := h2 e
  rw [h1] at a b c
  obtain ⟨d, e1, e2, e3⟩ := pl_adv1 (by decide) a
  obtain ⟨f1, f2⟩ := h d
  rw [b, e1]
  omega
theorem pl5_rng (x : RS) : 0 ≤ (plR x 5).1 ∧ (plR x 5).1 < 32 := pl_rng x.σ 5 (by decide)
theorem take_rounds (kind : Int) (o1 : List UInt8) (o2 : Int) : ∀ (n : Nat) (x : RS), x.ok → x.l.length ≤ 600 → Cnt x → Fuel n x.σ →
    rW f_q143 [] at_q80 (S_q80 kind o1 o2 (x.l.map Rec.e) x.σ.1 x.σ.2.1 x.σ.2.2 x.fs x.ss x.a x.b) = some (encX (finX (loopR kind n x))) := by
  intro n
  induction n with
  | zero =>
    intro x h hl hc hf
    have he : x.σ.2.2 ≠ 0 := fun e => by have := (hf e).1; omega
    rw [w_q80, show (x.σ.2.2 == 0) = false by simpa using he]
    simp only [zcf]
    exact fin_c x h.1
  | succ n ih =>
    intro x h hl hc hf
    rw [w_q80]
    unfold loopR
    cases he : (x.σ.2.2 == 0) with
    | false =>
      simp only [zcf]
      exact fin_c x h.1
    | true =>
      have he' : x.σ.2.2 = 0 := by simpa using he
      have h1 := plR_len x 1 h.1
      have o1' : (plR x 1).2.ok := ⟨h1, h.2⟩
      have c1 := plR_cnt hc 1
      simp only [plR_c x h.1, zcf]
      cases hq : ((plR x 1).1 == 1) with
      | true =>
        simp only [edge_c _ o1', zcf]
        have a := edgeR_adv (plR x 1).2
        have cn := edgeR_cnt c1
        have ln := edgeR_n (plR x 1).2
        have ln' : (edgeR (plR x 1).2).l.length ≤ 513 := by
          have := hc he'
          have e2 : (plR x 1).2.l = x.l := rfl
          rw [e2] at ln; omega
        exact ih _ ⟨edgeR_len h1, by omega⟩ (by omega) cn (fuel_next hf rfl a)
      | false =>
        have h2 := plR_len _ 5 h1
        have o2' : (plR (plR x 1).2 5).2.ok := ⟨h2, h.2⟩
        have c2 := plR_cnt c1 5
        obtain ⟨r0, r1⟩ := pl5_rng (plR x 1).2
        simp only [plR_c _ h1, zcf]
        cases hz : ((plR (plR x 1).2 5).1 == 0) with
        | true =>
          simp only [zcf]
          exact fin_c _ h2
        | false =>
          simp only [sev_c _ o2' r0 r1, zcf]
          have a := (plR_adv (plR x 1).2 5).trans (sevR_adv (plR (plR x 1).2 5).2 (plR (plR x 1).2 5).1 kind)
          have cn := sevR_cnt c2 (plR (plR x 1).2 5).1 kind
          obtain ⟨le, ln⟩ := sevR_both o2' (plR (plR x 1).2 5).1 kind
          have ln' : (sevR (plR (plR x 1).2 5).2 (plR (plR x 1).2 5).1 kind).l.length ≤ 515 := by
            have := hc he'
            have e2 : (plR (plR x 1).2 5).2.l = x.l := rfl
            rw [e2] at ln; omega
          exact ih _ ⟨le, by omega⟩ (by omega) cn (fuel_next hf rfl a)
def startR (σ : Rs) (fs ss : Int) : RS :=
  let p := plR { σ := σ, fs := fs, ss := ss, a := 0, b := 0, l := [] } 4
  let q := plR p.2 4
  { q.2 with a := p.1, b := q.1 }
def okArg (fs ss kind : Int) : Bool := inB2 0 15 fs && (inB2 0 15 ss && inB2 0 2 kind)
def takeRecsX (s : List UInt8) (a fs ss kind : Int) : List Rec × Rs := finX (loopR kind (8 * s.length + 1) (startR (beginP s a) fs ss))
def takeRecsF (s : List UInt8) (a fs ss kind : Int) : List Rec × Rs := bif okArg fs ss kind then takeRecsX s a fs ss kind else ([], ([], 0, 1))
theorem start_ok {σ : Rs} (h : LenOk σ) (fs ss : Int) : LenOk (startR σ fs ss).σ ∧ (startR σ fs ss).l = [] ∧ Adv σ (startR σ fs ss).σ := by
  refine ⟨plR_len _ 4 (plR_len _ 4 h), rfl, ?_⟩
  exact (plR_adv { σ := σ, fs := fs, ss := ss, a := 0, b := 0, l := [] } 4).trans (plR_adv (plR { σ := σ, fs := fs, ss := ss, a := 0, b := 0, l := [] } 4).2 4)
theorem start_fuel {s : List UInt8} {a fs ss : Int} {σ : Rs} (hs : σ.1 = s) (ha : σ.2.2 = 0 → 0 ≤ σ.2.1) (h : LenOk σ) : Fuel (8 * s.length + 1) (startR σ fs ss).σ := fun e => by
  obtain ⟨x, y, z⟩ := (start_ok h fs ss).2.2 e
  have := ha x
  rw [y, hs]
  omega
theorem plain0 (s : List UInt8) (a : Int) : (plainF s a 0).2.2.2 = if rightB s a = true then 0 else 1 := by
  unfold plainF
  by_cases h : rightB s a = true
  · obtain ⟨h1, h2⟩ := rightB_iff.1 h
    rw [if_pos h, if_neg (by simp [h]), if_neg (by omega)]
  · rw [if_neg h, if_pos (by left; simpa using h)]
theorem TakeRecords_c {s : List UInt8} (h : s.length ≤ 2 ^ 40) (a fs ss kind : Int) : cW f_q143 [.s s, .i a, .i fs, .i ss, .i kind] [] = some (encX (takeRecsF s a fs ss kind)) := by
  rw [w_q143]
  simp only [within2_c, within1_c, zcf]
  have hg : (!(inB2 0 15 fs && inB2 0 15 ss) || !inB2 0 2 kind) = !okArg fs ss kind := by
    unfold okArg; cases inB2 0 15 fs <;> cases inB2 0 15 ss <;> cases inB2 0 2 kind <;> rfl
  rw [hg]
  unfold takeRecsF
  cases okArg fs ss kind with
  | false => rfl
  | true =>
    have hb := (begin_len h a).1
    have e0 := plain0 s a
    have hp : (plainF s a 0).2.2.2 = (beginP s a).2.2 := e0
    have p1 := plR_c { σ := beginP s a, fs := fs, ss := ss, a := 0, b := 0, l := [] } hb 4
    have h1 := plR_len { σ := beginP s a, fs := fs, ss := ss, a := 0, b := 0, l := [] } 4 hb
    have p2 := plR_c _ h1 4
    obtain ⟨s1, s2, s3⟩ := start_ok hb fs ss
    have hr := take_rounds kind [] 0 (8 * s.length + 1) (startR (beginP s a) fs ss) ⟨s1, by rw [s2]; exact Nat.zero_le _⟩ (by rw [s2]; exact Nat.zero_le _) (fun _ => by rw [s2]; exact Nat.zero_le _)
      (start_fuel (a := a) rfl (fun e => by
        have hr : rightB s a = true := by
          have e : (beginP s a).2.2 = 0 := e
          unfold beginP at e
          by_cases hr : rightB s a = true
          · exact hr
          · rw [if_neg hr] at e; exact absurd e (by show (1 : Int) ≠ 0; decide)
        obtain ⟨q1, q2⟩ := rightB_iff.1 hr
        show 0 ≤ alignF s a
        unfold alignF; rw [if_pos hr]; omega) hb)
    have e1 : (beginP s a).1 = s := rfl
    have e2 : (beginP s a).2.1 = alignF s a := rfl
    dsimp only at p1
    rw [e1, e2] at p1
    simp only [zq16, zq6, zq5, (plain_ans h a 0).c, encF, hp, (align_ans h a).c, zcf]
    rw [show ([] : List (List PV)) = ([] : List Rec).map Rec.e from rfl]
    simp only [p1, p2, zcf]
    exact hr
end Go.AI
set_option linter.unusedVariables false
set_option linter.unusedSimpArgs false
set_option maxRecDepth 100000
namespace Go.AI
open Go Go.Proofs

end Go.AI
set_option linter.unusedVariables false
set_option linter.unusedSimpArgs false
set_option maxRecDepth 100000
namespace Go.AI
open Go Go.Proofs

/-- a shape's parts: the number, the frame, the fills, the strokes, the records -/
abbrev T9 := Int × I4 × List Fill × List Strk × List Rec
def e9 (t : T9) : List PV := [.i t.1, .i t.2.1.1, .i t.2.1.2.1, .i t.2.1.2.2.1, .i t.2.1.2.2.2, .l (t.2.2.1.map Fill.e), .l (t.2.2.2.1.map Strk.e), .l (t.2.2.2.2.map Rec.e)]
theorem rect_len {σ : Rs} (h : LenOk σ) : LenOk (takeRectF σ).2 := by
  unfold takeRectF
  dsimp only
  split <;> exact done_len (tk_len 5 4 h) _
end Go.AI
set_option linter.unusedVariables false
set_option linter.unusedSimpArgs false
set_option maxRecDepth 100000
namespace Go.AI
open Go Go.Proofs

end Go.AI
set_option linter.unusedVariables false
set_option linter.unusedSimpArgs false
set_option maxRecDepth 100000
namespace Go.AI
open Go Go.Proofs

/-- flags as the document has them -/
abbrev toldE (f : Int) (t0 t1 t2 t3 t4 : Int) : Prop := (bitB f 4 = (t0 == 1) ∧ bitB f 3 = (t1 == 1) ∧ bitB f 2 = (t2 == 1) ∧ bitB f 1 = (t3 == 1) ∧ bitB f 0 = (t4 == 1)) ∧ (0 ≤ t1 ∧ t1 ≤ 1) ∧ (0 ≤ t2 ∧ t2 ≤ 1) ∧ (0 ≤ t3 ∧ t3 ≤ 1)
section
variable {f t0 t1 t2 t3 t4 : Int} (h : toldE f t0 t1 t2 t3 t4) (kind : Int) (o1 : List UInt8) (o2 o3 : Int)
include h
end
end Go.AI
set_option linter.unusedVariables false
set_option linter.unusedSimpArgs false
set_option maxRecDepth 100000
namespace Go.AI
open Go Go.Proofs

section
variable {f t0 t1 t2 t3 t4 : Int} (h : toldE f t0 t1 t2 t3 t4) (kind : Int) (o1 : List UInt8) (o2 o3 : Int)
include h
end
end Go.AI
set_option linter.unusedVariables false
set_option linter.unusedSimpArgs false
set_option maxRecDepth 100000
namespace Go.AI
open Go Go.Proofs

/-- the same, or the same error -/
def Sim (x y : RS) : Prop := x.σ.2.2 = y.σ.2.2 ∧ (x.σ.2.2 = 0 → x = y)
theorem Sim.refl (x : RS) : Sim x x := ⟨rfl, fun _ => rfl⟩
end Go.AI
set_option linter.unusedVariables false
set_option linter.unusedSimpArgs false
set_option maxRecDepth 100000
namespace Go.AI
open Go Go.Proofs

end Go.AI
set_option linter.unusedVariables false
set_option linter.unusedSimpArgs false
set_option maxRecDepth 100000
namespace Go.AI
open Go Go.Proofs

end Go.AI
set_option linter.unusedVariables false
set_option linter.unusedSimpArgs false
set_option maxRecDepth 100000
namespace Go.AI
open Go Go.Proofs

end Go.AI
set_option linter.unusedVariables false
set_option linter.unusedSimpArgs false
set_option maxRecDepth 100000
namespace Go.AI
open Go Go.Proofs

theorem plain_w {w : Wt} (hw : WOk w) (hl : w.1.length ≤ 500000000) {v n : Nat} (hn : n ≤ 31) (hv : v < 2 ^ n) (a b : Int) :
    cW f_q18 [.u, .i (v : Int), .i (n : Int)] [(t_q5, [PV.s (w).1, PV.i (((w).2 : Nat) : Int), .i a, .i b])] = some ([], [(t_q5, [PV.s (putN v n w).1, PV.i (((putN v n w).2 : Nat) : Int), .i a, .i b])]) := by
  have hp : 2 ^ n ≤ 2 ^ 31 := Nat.pow_le_pow_right (by decide) hn
  have hp : 2 ^ n ≤ 2147483648 := hp
  rw [w_q18, (putPlain_ans hl w.2 v n (by omega)).c, putPlain_ok hw hn hv]
  rfl
theorem signed_loop {l : List Int} (hI : ∀ v, v ∈ l → I64 v) {n : Nat} (hn : n ≤ 31) (hv : ∀ v, v ∈ l → widthN v ≤ n) (hll : l.length ≤ 100) (a b : Int) : ∀ (rest pre : List Int) (w : Wt), l = pre ++ rest → WOk w → w.1.length + 31 * rest.length ≤ 500000000 →
    rW f_q40 [t_q5] at_q38 (S_q38 n (l.map intE) l.length pre.length w.1 w.2 a b) = some ([], [(t_q5, [PV.s (numsW n rest w).1, PV.i (((numsW n rest w).2 : Nat) : Int), .i a, .i b])])
  | [], pre, w, h, hw, hl => by
    rw [w_q38]; simp only [el_end h, zcf]; rfl
  | v :: rest, pre, w, h, hw, hl => by
    obtain ⟨h1, h2, h3, h4, h5⟩ := el_step intE h (Nat.le_trans hll (by decide))
    have hm : v ∈ l := by rw [h]; simp
    obtain ⟨o1, _, _, _, o5⟩ := putN_ext (signU v n).toNat n w hw
    simp only [List.length_cons] at hl
    rw [w_q38]
    simp only [h1, h2, h3, h4, intE, (putSigned_ans (s := w.1) (by omega) w.2 v n (hI v hm)).c, putSigned_ok hw hn (hv v hm), encW, zcf]
    exact signed_loop hI hn hv hll a b rest _ _ h5 o1 (by omega)
theorem signed_w {l : List Int} (hI : ∀ v, v ∈ l → I64 v) {n : Nat} (hn : n ≤ 31) (hv : ∀ v, v ∈ l → widthN v ≤ n) (hll : l.length ≤ 100) {w : Wt} (hw : WOk w) (hl : w.1.length + 31 * l.length ≤ 500000000) (a b : Int) :
    cW f_q40 [.u, .i (n : Int), .l (l.map intE)] [(t_q5, [PV.s (w).1, PV.i (((w).2 : Nat) : Int), .i a, .i b])] = some ([], [(t_q5, [PV.s (numsW n l w).1, PV.i (((numsW n l w).2 : Nat) : Int), .i a, .i b])]) := by
  rw [w_q40]
  simp only [zq7]
  exact signed_loop hI hn hv hll a b l [] w rfl hw hl
theorem width_w {l : List Int} (hI : ∀ v, v ∈ l → I64 v) (hll : l.length ≤ 100) : cW f_q133 [.l (l.map intE)] [] = some ([.i ((WL l : Nat) : Int)], []) := by
  have := (width_ans (es := ints l) (by rw [ints_length]; omega) (ints_I64 hI)).c
  rw [ints_length] at this
  exact this
theorem plainWidth1_w {n : Nat} (hn : n ≤ 9223372036854775807) : cW f_q146 [.l (List.set [[PV.i 0]] 0 [PV.i (n : Int)])] [] = some ([.i ((blen n : Nat) : Int)], []) := by
  have h : ∀ i, i < (ints [(n : Int)]).length → I64 (elI (ints [(n : Int)]) i) := ints_I64 (fun v hv => by simp at hv; subst hv; unfold I64; omega)
  have := (plainWidth_ans (es := ints [(n : Int)]) (by rw [ints_length]; show (1 : Nat) ≤ _; decide) h).c
  rw [ints_length] at this
  refine this.trans ?_
  show some ([PV.i ((max 0 (blen ((n : Int).toNat)) : Nat) : Int)], _) = _
  rw [Int.toNat_natCast, Nat.zero_max]
/-- a choice of a style -/
def optP (v : Int) (n : Nat) (w : Wt) : Wt := if v ≥ 0 then putN v.toNat n w else w
def flagsR (r : Rec) : Nat := (if r.left ≥ 0 then 2 else 0) + (if r.right ≥ 0 then 4 else 0) + (if r.line ≥ 0 then 8 else 0)
def setW (a b : Nat) (r : Rec) (w : Wt) : Wt := optP r.line b (optP r.right a (optP r.left a (putN (flagsR r) 6 w)))
def edgeN (l : List Int) : Nat := max (WL l) 2
def lineW (r : Rec) (w : Wt) : Wt :=
  let n := edgeN [r.x, r.y]
  let w := putN (n - 2) 4 (putN 3 2 w)
  if r.x = 0 then numsW n [r.y] (putN 1 2 w) else if r.y = 0 then numsW n [r.x] (putN 0 2 w) else numsW n [r.x, r.y] (putN 1 1 w)
def curveW (r : Rec) (w : Wt) : Wt := numsW (edgeN [r.cx, r.cy, r.x, r.y]) [r.cx, r.cy, r.x, r.y] (putN (edgeN [r.cx, r.cy, r.x, r.y] - 2) 4 (putN 2 2 w))
def moveW (r : Rec) (w : Wt) : Wt := numsW (WL [r.x, r.y]) [r.x, r.y] (putN (WL [r.x, r.y]) 5 (putN 1 6 w))
def freshW (r : Rec) (w : Wt) : Wt := putN (blen r.strks.length) 4 (putN (blen r.fills.length) 4 ((putN 16 6 w).1 ++ listsS r.fills r.strks, 0))
def nextA (r : Rec) (a : Nat) : Nat := bif r.kind == 3 then blen r.fills.length else a
def nextB (r : Rec) (b : Nat) : Nat := bif r.kind == 3 then blen r.strks.length else b
def recW (a b : Nat) (r : Rec) (w : Wt) : Wt :=
  bif r.kind == 1 then moveW r w else bif r.kind == 2 then setW a b r w else bif r.kind == 3 then freshW r w else bif r.kind == 4 then lineW r w else curveW r w
/-- writers go on -/
def Wgo (n : Nat) (w w' : Wt) : Prop := WOk w' ∧ WExt w w' ∧ w'.1.length ≤ w.1.length + n
theorem Wgo.trans {n m k : Nat} {w w' w'' : Wt} (h : Wgo n w w') (h' : Wgo m w' w'') (hk : n + m ≤ k) : Wgo k w w'' := ⟨h'.1, h.2.1.trans h'.2.1, by have := h.2.2; have := h'.2.2; omega⟩
theorem Wgo.refl {n : Nat} {w : Wt} (h : WOk w) : Wgo n w w := ⟨h, WExt.refl _, by omega⟩
theorem putN_go (v n : Nat) {w : Wt} (h : WOk w) : Wgo n w (putN v n w) := by obtain ⟨a, b, _, _, e⟩ := putN_ext v n w h; exact ⟨a, b, e⟩
theorem numsW_go (n : Nat) (l : List Int) {w : Wt} (h : WOk w) : Wgo (n * l.length) w (numsW n l w) := by obtain ⟨a, b, _, e⟩ := numsW_ok n l w h; exact ⟨a, b, e⟩
theorem optP_go (v : Int) (n : Nat) {w : Wt} (h : WOk w) : Wgo n w (optP v n w) := by
  unfold optP; split
  · exact putN_go _ _ h
  · exact .refl h
theorem setW_go (a b : Nat) (r : Rec) {w : Wt} (h : WOk w) : Wgo (6 + a + a + b) w (setW a b r w) := by
  have g1 := putN_go (flagsR r) 6 h
  have g2 := optP_go r.left a g1.1
  have g3 := optP_go r.right a g2.1
  have g4 := optP_go r.line b g3.1
  exact (((g1.trans g2 (Nat.le_refl _)).trans g3 (Nat.le_refl _)).trans g4 (Nat.le_refl _))
theorem wl_coord {v : Int} (h : -1048576 ≤ v ∧ v ≤ 1048576) : widthN v ≤ 22 := widthN_abs (by decide) ⟨by show -2097152 ≤ v; omega, by show v < 2097152; omega⟩
theorem wl_edge {v : Int} (h : -65536 ≤ v ∧ v ≤ 65535) : widthN v ≤ 17 := widthN_abs (by decide) ⟨by show -65536 ≤ v; omega, by show v < 65536; omega⟩
theorem WL2 {x y : Int} {b : Nat} (hx : widthN x ≤ b) (hy : widthN y ≤ b) : WL [x, y] ≤ b := WL_bound (fun v hv => by simp at hv; rcases hv with rfl | rfl <;> assumption)
theorem WL4 {x y z u : Int} {b : Nat} (hx : widthN x ≤ b) (hy : widthN y ≤ b) (hz : widthN z ≤ b) (hu : widthN u ≤ b) : WL [x, y, z, u] ≤ b := WL_bound (fun v hv => by simp at hv; rcases hv with rfl | rfl | rfl | rfl <;> assumption)
theorem blen15 {n : Nat} (h : n ≤ 15) : blen n ≤ 4 := blen_le.2 (by show n < 16; omega)
/-- what is right of a kind -/
theorem recB_move {r : Rec} {f s : Int} (h : recB r f s = true) (k : r.kind = 1) : (noSt r ∧ noLi r ∧ noCt r) ∧ (-1048576 ≤ r.x ∧ r.x ≤ 1048576) ∧ (-1048576 ≤ r.y ∧ r.y ≤ 1048576) := by
  unfold recB at h; rw [k] at h
  obtain ⟨a, b, c, d, e⟩ := of_decide_eq_true h
  exact ⟨⟨a, b, c⟩, d, e⟩
theorem recB_set {r : Rec} {f s : Int} (h : recB r f s = true) (k : r.kind = 2) : (noLi r ∧ noCt r ∧ noPt r) ∧ (r.left ≥ 0 ∨ r.right ≥ 0 ∨ r.line ≥ 0) ∧ (-1 ≤ r.left ∧ r.left ≤ f) ∧ (-1 ≤ r.right ∧ r.right ≤ f) ∧ (-1 ≤ r.line ∧ r.line ≤ s) := by
  unfold recB at h; rw [k] at h
  obtain ⟨a, b, c, d, e, g, i⟩ := of_decide_eq_true h
  exact ⟨⟨a, b, c⟩, d, e, g, i⟩
theorem recB_fresh {r : Rec} {f s : Int} (h : recB r f s = true) (k : r.kind = 3) : (noSt r ∧ noCt r ∧ noPt r) ∧ listsB r.fills r.strks = true := by
  unfold recB at h; rw [k] at h
  have h : (decide (noSt r ∧ noCt r ∧ noPt r) && listsB r.fills r.strks) = true := h
  rw [Bool.and_eq_true] at h
  exact ⟨of_decide_eq_true h.1, h.2⟩
theorem recB_line {r : Rec} {f s : Int} (h : recB r f s = true) (k : r.kind = 4) : (noSt r ∧ noLi r ∧ noCt r) ∧ (-65536 ≤ r.x ∧ r.x ≤ 65535) ∧ (-65536 ≤ r.y ∧ r.y ≤ 65535) := by
  unfold recB at h; rw [k] at h
  obtain ⟨a, b, c, d, e⟩ := of_decide_eq_true h
  exact ⟨⟨a, b, c⟩, d, e⟩
theorem recB_curve {r : Rec} {f s : Int} (h : recB r f s = true) (k : r.kind = 5) : (noSt r ∧ noLi r) ∧ (-65536 ≤ r.x ∧ r.x ≤ 65535) ∧ (-65536 ≤ r.y ∧ r.y ≤ 65535) ∧ (-65536 ≤ r.cx ∧ r.cx ≤ 65535) ∧ (-65536 ≤ r.cy ∧ r.cy ≤ 65535) := by
  unfold recB at h; rw [k] at h
  obtain ⟨a, b, c, d, e, g⟩ := of_decide_eq_true h
  exact ⟨⟨a, b⟩, c, d, e, g⟩
theorem recB_kind {r : Rec} {f s : Int} (h : recB r f s = true) : r.kind = 1 ∨ r.kind = 2 ∨ r.kind = 3 ∨ r.kind = 4 ∨ r.kind = 5 := by
  by_cases k1 : r.kind = 1
  · exact .inl k1
  by_cases k2 : r.kind = 2
  · exact .inr (.inl k2)
  by_cases k3 : r.kind = 3
  · exact .inr (.inr (.inl k3))
  by_cases k4 : r.kind = 4
  · exact .inr (.inr (.inr (.inl k4)))
  by_cases k5 : r.kind = 5
  · exact .inr (.inr (.inr (.inr k5)))
  unfold recB at h
  rw [show (r.kind == 1) = false by simpa using k1, show (r.kind == 2) = false by simpa using k2, show (r.kind == 3) = false by simpa using k3, show (r.kind == 4) = false by simpa using k4, show (r.kind == 5) = false by simpa using k5] at h
  cases h
theorem set_step {a b : Int} {x y z : Int} (fl : Int) (i : Nat) (hi : i < 3) (w : Wt) (y1 y2 y3 y4 y5 y6 y7 y8 : Int) (f g : List (List PV)) :
    rW f_q21 [t_q5] at_q25 (S_q25 fl ([x, y, z].map intE) 3 (i : Nat) w.1 (w.2 : Nat) a b y1 y2 y3 y4 y5 y6 y7 y8 f g) =
    rW f_q21 [t_q5] at_q25 (S_q25 (bif decide (([x, y, z].getD i 0) ≥ 0) then bitsOp .or .i64 fl (shl .i64 2 (i : Nat)) else fl) ([x, y, z].map intE) 3 ((i + 1 : Nat) : Int) w.1 (w.2 : Nat) a b y1 y2 y3 y4 y5 y6 y7 y8 f g) := by
  rw [w_q25]
  have h1 : decide (((i : Nat) : Int) < 3) = true := decide_eq_true (by omega)
  have h2 : inB ((i : Nat) : Int) 3 = true := by unfold inB; simp; omega
  have h3 : decide ((0 : Int) ≤ ((i : Nat) : Int)) = true := decide_eq_true (by omega)
  have h4 : IntKind.wrap .i64 (((i : Nat) : Int) + 1) = ((i + 1 : Nat) : Int) := by rw [wrap64 (by omega) (by omega)]; omega
  have h5 : elemAt ([x, y, z].map intE) ((i : Nat) : Int) = intE ([x, y, z].getD i 0) := by
    have : i = 0 ∨ i = 1 ∨ i = 2 := by omega
    rcases this with rfl | rfl | rfl <;> rfl
  simp only [zq7, List.length_cons, List.length_nil, h1, show 0 + 1 + 1 + 1 = 3 from rfl, h2, h3, h4, h5, intE, zcf]
  cases decide ([x, y, z].getD i 0 ≥ 0) <;> rfl
theorem flags_ok (l r n : Int) : (bif decide (n ≥ 0) then bitsOp .or .i64 (bif decide (r ≥ 0) then bitsOp .or .i64 (bif decide (l ≥ 0) then bitsOp .or .i64 0 (shl .i64 2 0) else 0) (shl .i64 2 1) else (bif decide (l ≥ 0) then bitsOp .or .i64 0 (shl .i64 2 0) else 0)) (shl .i64 2 2) else (bif decide (r ≥ 0) then bitsOp .or .i64 (bif decide (l ≥ 0) then bitsOp .or .i64 0 (shl .i64 2 0) else 0) (shl .i64 2 1) else (bif decide (l ≥ 0) then bitsOp .or .i64 0 (shl .i64 2 0) else 0)))
    = (((if l ≥ 0 then 2 else 0) + (if r ≥ 0 then 4 else 0) + (if n ≥ 0 then 8 else 0) : Nat) : Int) := by
  simp only [Bool.cond_decide]
  split <;> split <;> split <;> decide +kernel
theorem set2_step {a b : Nat} {x y z : Int} (i : Nat) (hi : i < 3) {w : Wt} (hw : WOk w) (hl : w.1.length ≤ 500000000) (ha : a ≤ 31) (hb : b ≤ 31) (hv : [x, y, z].getD i 0 < 2 ^ (if i = 2 then b else a)) :
    rW f_q21 [t_q5] at_q17 (S_q17 ([x, y, z].map intE) 3 (i : Nat) w.1 (w.2 : Nat) a b) =
    rW f_q21 [t_q5] at_q17 (S_q17 ([x, y, z].map intE) 3 ((i + 1 : Nat) : Int) (optP ([x, y, z].getD i 0) (if i = 2 then b else a) w).1 ((optP ([x, y, z].getD i 0) (if i = 2 then b else a) w).2 : Nat) a b) := by
  rw [w_q17]
  have h1 : decide (((i : Nat) : Int) < 3) = true := decide_eq_true (by omega)
  have h2 : inB ((i : Nat) : Int) 3 = true := by unfold inB; simp; omega
  have h4 : IntKind.wrap .i64 (((i : Nat) : Int) + 1) = ((i + 1 : Nat) : Int) := by rw [wrap64 (by omega) (by omega)]; omega
  have h5 : elemAt ([x, y, z].map intE) ((i : Nat) : Int) = intE ([x, y, z].getD i 0) := by
    have : i = 0 ∨ i = 1 ∨ i = 2 := by omega
    rcases this with rfl | rfl | rfl <;> rfl
  simp only [zq7, List.length_cons, List.length_nil, h1, show 0 + 1 + 1 + 1 = 3 from rfl, h2, h4, h5, intE, zcf]
  generalize [x, y, z].getD i 0 = v at hv ⊢
  unfold optP
  by_cases hi2 : i = 2
  · rw [if_pos hi2] at hv ⊢
    rw [show (((i : Nat) : Int) == 2) = true by simp; omega]
    by_cases h0 : v ≥ 0
    · obtain ⟨k, rfl⟩ := Int.eq_ofNat_of_zero_le h0
      rw [decide_eq_true h0, if_pos h0]
      simp only [plain_w hw hl (v := k) (n := b) hb (by exact_mod_cast hv) a b, Int.toNat_natCast, zcf]
    · rw [decide_eq_false h0, if_neg h0]; rfl
  · rw [if_neg hi2] at hv ⊢
    rw [show (((i : Nat) : Int) == 2) = false by simp; omega]
    by_cases h0 : v ≥ 0
    · obtain ⟨k, rfl⟩ := Int.eq_ofNat_of_zero_le h0
      rw [decide_eq_true h0, if_pos h0]
      simp only [plain_w hw hl (v := k) (n := a) ha (by exact_mod_cast hv) a b, Int.toNat_natCast, zcf]
    · rw [decide_eq_false h0, if_neg h0]; rfl
end Go.AI
set_option linter.unusedVariables false
set_option linter.unusedSimpArgs false
set_option maxRecDepth 100000
namespace Go.AI
open Go Go.Proofs

theorem set_w {r : Rec} {f s : Int} (h : recB r f s = true) (k : r.kind = 2) {a b : Nat} (ha : a ≤ 4) (hb : b ≤ 4) (hf : f < 2 ^ a) (hs : s < 2 ^ b) {w : Wt} (hw : WOk w) (hl : w.1.length ≤ 499000000) :
    cW f_q21 (.u :: r.e) [(t_q5, [PV.s (w).1, PV.i (((w).2 : Nat) : Int), .i a, .i b])] = some ([], [(t_q5, [PV.s (setW a b r w).1, PV.i (((setW a b r w).2 : Nat) : Int), .i a, .i b])]) := by
  obtain ⟨_, _, h1, h2, h3⟩ := recB_set h k
  have hfl : flagsR r < 2 ^ 6 := by unfold flagsR; split <;> split <;> split <;> decide
  have g1 := putN_go (flagsR r) 6 hw
  have g2 := optP_go r.left a g1.1
  have g3 := optP_go r.right a g2.1
  have g4 := optP_go r.line b g3.1
  have l1 := g1.2.2; have l2 := g2.2.2; have l3 := g3.2.2; have l4 := g4.2.2
  simp only [Rec.e]
  rw [w_q21]
  rw [show List.set (List.set (List.set [[PV.i 0], [PV.i 0], [PV.i 0]] 0 [PV.i r.left]) 1 [PV.i r.right]) 2 [PV.i r.line] = [r.left, r.right, r.line].map intE from rfl]
  rw [show ((([r.left, r.right, r.line].map intE).length : Nat) : Int) = 3 from rfl]
  rw [show (0 : Int) = ((0 : Nat) : Int) from rfl, set_step (hi := by omega), set_step (hi := by omega), set_step (hi := by omega)]
  rw [w_q25]
  rw [show decide ((((0 + 1 + 1 + 1 : Nat)) : Int) < 3) = false by decide, cond_false]
  rw [show ([r.left, r.right, r.line].getD 0 0) = r.left from rfl, show ([r.left, r.right, r.line].getD (0 + 1) 0) = r.right from rfl, show ([r.left, r.right, r.line].getD (0 + 1 + 1) 0) = r.line from rfl]
  have hfo := flags_ok r.left r.right r.line
  rw [show ((0 : Nat) : Int) = 0 from rfl, show ((0 + 1 : Nat) : Int) = 1 from rfl, show ((0 + 1 + 1 : Nat) : Int) = 2 from rfl, hfo]
  have e := plain_w hw (by omega) (v := flagsR r) (n := 6) (by decide) hfl a b
  unfold flagsR at e
  rw [show ((6 : Nat) : Int) = 6 from rfl] at e
  simp only [e, zcf]
  rw [show List.set (List.set (List.set [[PV.i 0], [PV.i 0], [PV.i 0]] 0 [PV.i r.left]) 1 [PV.i r.right]) 2 [PV.i r.line] = [r.left, r.right, r.line].map intE from rfl]
  have gw : putN ((if r.left ≥ 0 then 2 else 0) + (if r.right ≥ 0 then 4 else 0) + (if r.line ≥ 0 then 8 else 0)) 6 w = putN (flagsR r) 6 w := rfl
  rw [gw]
  rw [show ((([r.left, r.right, r.line].map intE).length : Nat) : Int) = 3 from rfl, show (0 : Int) = ((0 : Nat) : Int) from rfl]
  rw [set2_step 0 (by omega) g1.1 (by omega) (by omega) (by omega) (by show r.left < _; rw [if_neg (by decide)]; omega)]
  rw [show ([r.left, r.right, r.line].getD 0 0) = r.left from rfl, if_neg (by decide)]
  rw [set2_step (0 + 1) (by omega) g2.1 (by omega) (by omega) (by omega) (by show r.right < _; rw [if_neg (by decide)]; omega)]
  rw [show ([r.left, r.right, r.line].getD (0 + 1) 0) = r.right from rfl, if_neg (by decide)]
  rw [set2_step (0 + 1 + 1) (by omega) g3.1 (by omega) (by omega) (by omega) (by show r.line < _; rw [if_pos (by decide)]; omega)]
  rw [show ([r.left, r.right, r.line].getD (0 + 1 + 1) 0) = r.line from rfl, if_pos (by decide)]
  rw [w_q17]
  rw [show decide ((((0 + 1 + 1 + 1 : Nat)) : Int) < 3) = false by decide, cond_false]
  rfl
theorem widths_w {w : Wt} (hw : WOk w) (hl : w.1.length ≤ 499000000) {m n : Nat} (hm : m ≤ 15) (hn : n ≤ 15) (a b : Int) :
    cW f_q129 [.u, .i (m : Int), .i (n : Int)] [(t_q5, [PV.s (w).1, PV.i (((w).2 : Nat) : Int), .i a, .i b])] = some ([], [(t_q5, [PV.s (putN (blen n) 4 (putN (blen m) 4 w)).1, PV.i (((putN (blen n) 4 (putN (blen m) 4 w)).2 : Nat) : Int), .i (blen m : Nat), .i (blen n : Nat)])]) := by
  have b1 := blen15 hm
  have b2 := blen15 hn
  have g1 := putN_go (blen m) 4 hw
  have l1 := g1.2.2
  have e1 := plain_w hw (by omega) (v := blen m) (n := 4) (by decide) (by show blen m < 16; omega) (blen m) (blen n)
  have e2 := plain_w g1.1 (by omega) (v := blen n) (n := 4) (by decide) (by show blen n < 16; omega) (blen m) (blen n)
  rw [show ((4 : Nat) : Int) = 4 from rfl] at e1 e2
  rw [w_q129]
  simp only [plainWidth1_w (n := m) (by omega), plainWidth1_w (n := n) (by omega), e1, e2, zcf]
theorem i64_coord {v : Int} (h : -1048576 ≤ v ∧ v ≤ 1048576) : I64 v := by unfold I64; omega
theorem i64_edge {v : Int} (h : -65536 ≤ v ∧ v ≤ 65535) : I64 v := by unfold I64; omega
theorem two_mem {P : Int → Prop} {x y : Int} (hx : P x) (hy : P y) : ∀ v, v ∈ [x, y] → P v := fun v hv => by simp at hv; rcases hv with rfl | rfl <;> assumption
theorem four_mem {P : Int → Prop} {x y z u : Int} (hx : P x) (hy : P y) (hz : P z) (hu : P u) : ∀ v, v ∈ [x, y, z, u] → P v := fun v hv => by simp at hv; rcases hv with rfl | rfl | rfl | rfl <;> assumption
theorem pair_row (x y : Int) : List.set (List.set [[PV.i 0], [PV.i 0]] 0 [PV.i x]) 1 [PV.i y] = [x, y].map intE := rfl
theorem one_row (x : Int) : List.set [[PV.i 0]] 0 [PV.i x] = [x].map intE := rfl
theorem quad_row (x y z u : Int) : List.set (List.set (List.set (List.set [[PV.i 0], [PV.i 0], [PV.i 0], [PV.i 0]] 0 [PV.i x]) 1 [PV.i y]) 2 [PV.i z]) 3 [PV.i u] = [x, y, z, u].map intE := rfl
theorem edge_sub {l : List Int} (h : WL l ≤ 17) : IntKind.wrap .i64 (((edgeN l : Nat) : Int) - 2) = ((edgeN l - 2 : Nat) : Int) ∧ (bif decide ((2 : Int) > ((WL l : Nat) : Int)) then (2 : Int) else ((WL l : Nat) : Int)) = ((edgeN l : Nat) : Int) := by
  have e : (bif decide ((2 : Int) > ((WL l : Nat) : Int)) then (2 : Int) else ((WL l : Nat) : Int)) = ((edgeN l : Nat) : Int) := by
    unfold edgeN
    rw [Bool.cond_decide]
    split <;> omega
  have : 2 ≤ edgeN l ∧ edgeN l ≤ 17 := by unfold edgeN; omega
  rw [e, wrap64 (by omega) (by omega)]
  exact ⟨by omega, rfl⟩
theorem nextA_ne {r : Rec} (h : r.kind ≠ 3) (a : Nat) : nextA r a = a := by unfold nextA; rw [show (r.kind == 3) = false by simpa using h]; rfl
theorem nextB_ne {r : Rec} (h : r.kind ≠ 3) (a : Nat) : nextB r a = a := by unfold nextB; rw [show (r.kind == 3) = false by simpa using h]; rfl
theorem lists_short {l : List Fill} {m : List Strk} (h : listsB l m = true) : l.length ≤ 2 ^ 40 ∧ m.length ≤ 2 ^ 40 ∧ Shorts l := by
  obtain ⟨h1, h2, h3, h4⟩ := listsB_r h
  refine ⟨Nat.le_trans h1 (by decide), Nat.le_trans h2 (by decide), fun f hf => ?_⟩
  have := h3 f hf
  cases ks : kindS f.kind with
  | true => rw [(fillB_solid this ks).2]; exact Nat.zero_le _
  | false =>
    cases kp : kindP f.kind with
    | true => rw [(fillB_pic this ks kp).2.2.2]; exact Nat.zero_le _
    | false => exact Nat.le_trans (fillB_grad this ks kp).2.2.2.2.2.2.2 (by decide)
theorem listsS_le {l : List Fill} {m : List Strk} (h : listsB l m = true) : (listsS l m).length ≤ 8000 := by
  obtain ⟨h1, h2, h3, h4⟩ := listsB_r h
  have a := fillsS_len h3
  have b := strksS_len m
  simp only [listsS, List.length_append, b]
  show 1 + (_ + (1 + _)) ≤ _
  omega
theorem record_w {r : Rec} {f s : Int} (h : recB r f s = true) {a b : Nat} (ha : a ≤ 4) (hb : b ≤ 4) (hf : f < 2 ^ a) (hs : s < 2 ^ b) {w : Wt} (hw : WOk w) (hl : w.1.length ≤ 390000000) :
    cW f_q78 (.u :: r.e) [(t_q5, [PV.s (w).1, PV.i (((w).2 : Nat) : Int), .i a, .i b])] = some ([], [(t_q5, [PV.s (recW a b r w).1, PV.i (((recW a b r w).2 : Nat) : Int), .i (nextA r a : Nat), .i (nextB r b : Nat)])]) := by
  unfold recW
  rcases recB_kind h with k | k | k | k | k
  · obtain ⟨_, hx, hy⟩ := recB_move h k
    have hI := two_mem (P := I64) (i64_coord hx) (i64_coord hy)
    have hwl := WL2 (wl_coord hx) (wl_coord hy)
    have g1 := putN_go 1 6 hw
    have g2 := putN_go (WL [r.x, r.y]) 5 g1.1
    have l1 := g1.2.2; have l2 := g2.2.2
    have e0 := width_w (l := [r.x, r.y]) hI (by decide : 2 ≤ 100)
    have e1 := plain_w hw (by omega) (v := 1) (n := 6) (by decide) (by decide) a b
    have e2 := plain_w g1.1 (by omega) (v := WL [r.x, r.y]) (n := 5) (by decide) (by show _ < 32; omega) a b
    have e3 := signed_w (l := [r.x, r.y]) hI (n := WL [r.x, r.y]) (by omega) (fun v hv => WL_ge hv) (by decide : 2 ≤ 100) g2.1 (by show _ + 31 * 2 ≤ _; omega) a b
    rw [show ((1 : Nat) : Int) = 1 from rfl, show ((6 : Nat) : Int) = 6 from rfl] at e1
    rw [show ((5 : Nat) : Int) = 5 from rfl] at e2
    rw [nextA_ne (by omega), nextB_ne (by omega)]
    simp only [Rec.e]
    rw [w_q78, k]
    simp only [show ((1 : Int) == 1) = true from rfl, pair_row, e0, e1, e2, e3, zcf]
    rfl
  · have e := set_w h k ha hb hf hs hw (by omega)
    rw [nextA_ne (by omega), nextB_ne (by omega)]
    simp only [Rec.e] at e ⊢
    rw [k] at e
    rw [w_q78, k]
    simp only [show ((2 : Int) == 1) = false from rfl, show ((2 : Int) == 2) = true from rfl, e, zcf]
  · obtain ⟨_, hb'⟩ := recB_fresh h k
    obtain ⟨s1, s2, s3⟩ := lists_short hb'
    obtain ⟨n1, n2, _, _⟩ := listsB_r hb'
    have ll := listsS_le hb'
    have g1 := putN_go 16 6 hw
    have l1 := g1.2.2
    have e1 := plain_w hw (by omega) (v := 16) (n := 6) (by decide) (by decide) a b
    have e2 := Put_c s1 s2 s3 (s := (putN 16 6 w).1) (by omega) ((putN 16 6 w).2 : Nat)
    unfold putListsF at e2
    rw [hb', cond_true] at e2
    have e3 := widths_w (w := ((putN 16 6 w).1 ++ listsS r.fills r.strks, 0)) (ok_zero _) (by simp; omega) n1 n2 a b
    rw [show ((16 : Nat) : Int) = 16 from rfl, show ((6 : Nat) : Int) = 6 from rfl] at e1
    have na : nextA r a = blen r.fills.length := by unfold nextA; rw [k]; rfl
    have nb : nextB r b = blen r.strks.length := by unfold nextB; rw [k]; rfl
    rw [na, nb]
    simp only [Rec.e]
    rw [w_q78, k]
    dsimp only at e3
    rw [show (((0 : Nat)) : Int) = 0 from rfl] at e3
    simp only [show ((3 : Int) == 1) = false from rfl, show ((3 : Int) == 2) = false from rfl, show ((3 : Int) == 3) = true from rfl, e1, e2, e3, zcf]
    rfl
  · obtain ⟨_, hx, hy⟩ := recB_line h k
    have hI := two_mem (P := I64) (i64_edge hx) (i64_edge hy)
    have hwl := WL2 (wl_edge hx) (wl_edge hy)
    obtain ⟨es, en⟩ := edge_sub hwl
    have n2 : 2 ≤ edgeN [r.x, r.y] ∧ edgeN [r.x, r.y] ≤ 17 := by unfold edgeN; omega
    have hv : ∀ v, v ∈ [r.x, r.y] → widthN v ≤ edgeN [r.x, r.y] := fun v hv => Nat.le_trans (WL_ge hv) (by unfold edgeN; omega)
    have g1 := putN_go 3 2 hw
    have g2 := putN_go (edgeN [r.x, r.y] - 2) 4 g1.1
    have l1 := g1.2.2; have l2 := g2.2.2
    have e0 := width_w (l := [r.x, r.y]) hI (by decide : 2 ≤ 100)
    have e1 := plain_w hw (by omega) (v := 3) (n := 2) (by decide) (by decide) a b
    have e2 := plain_w g1.1 (by omega) (v := edgeN [r.x, r.y] - 2) (n := 4) (by decide) (by show _ < 16; omega) a b
    have g3 := putN_go 1 2 g2.1
    have g4 := putN_go 0 2 g2.1
    have g5 := putN_go 1 1 g2.1
    have l3 := g3.2.2; have l4 := g4.2.2; have l5 := g5.2.2
    have e3 := plain_w g2.1 (by omega) (v := 1) (n := 2) (by decide) (by decide) a b
    have e4 := plain_w g2.1 (by omega) (v := 0) (n := 2) (by decide) (by decide) a b
    have e5 := plain_w g2.1 (by omega) (v := 1) (n := 1) (by decide) (by decide) a b
    have e6 := signed_w (l := [r.y]) (fun v hv => hI v (by simp at hv; simp [hv])) (n := edgeN [r.x, r.y]) (by omega) (fun v hv' => hv v (by simp at hv'; simp [hv'])) (by decide : 1 ≤ 100) g3.1 (by show _ + 31 * 1 ≤ _; omega) a b
    have e7 := signed_w (l := [r.x]) (fun v hv => hI v (by simp at hv; simp [hv])) (n := edgeN [r.x, r.y]) (by omega) (fun v hv' => hv v (by simp at hv'; simp [hv'])) (by decide : 1 ≤ 100) g4.1 (by show _ + 31 * 1 ≤ _; omega) a b
    have e8 := signed_w (l := [r.x, r.y]) hI (n := edgeN [r.x, r.y]) (by omega) hv (by decide : 2 ≤ 100) g5.1 (by show _ + 31 * 2 ≤ _; omega) a b
    rw [show ((3 : Nat) : Int) = 3 from rfl, show ((2 : Nat) : Int) = 2 from rfl] at e1
    rw [show ((4 : Nat) : Int) = 4 from rfl] at e2
    rw [show ((1 : Nat) : Int) = 1 from rfl, show ((2 : Nat) : Int) = 2 from rfl] at e3
    rw [show ((0 : Nat) : Int) = 0 from rfl, show ((2 : Nat) : Int) = 2 from rfl] at e4
    rw [show ((1 : Nat) : Int) = 1 from rfl] at e5
    rw [nextA_ne (by omega), nextB_ne (by omega)]
    simp only [Rec.e]
    rw [w_q78, k]
    simp only [show ((4 : Int) == 1) = false from rfl, show ((4 : Int) == 2) = false from rfl, show ((4 : Int) == 3) = false from rfl, show ((4 : Int) == 4) = true from rfl, pair_row, one_row, e0, es, en, e1, e2, zcf]
    unfold lineW
    by_cases hx0 : r.x = 0
    · rw [show (r.x == 0) = true by simpa using hx0, if_pos hx0]
      simp only [e3, e6, zcf]
    · rw [show (r.x == 0) = false by simpa using hx0, if_neg hx0]
      by_cases hy0 : r.y = 0
      · rw [show (r.y == 0) = true by simpa using hy0, if_pos hy0]
        simp only [e4, e7, zcf]
      · rw [show (r.y == 0) = false by simpa using hy0, if_neg hy0]
        simp only [e5, e8, zcf]
  · obtain ⟨_, hx, hy, hcx, hcy⟩ := recB_curve h k
    have hI := four_mem (P := I64) (i64_edge hcx) (i64_edge hcy) (i64_edge hx) (i64_edge hy)
    have hwl := WL4 (wl_edge hcx) (wl_edge hcy) (wl_edge hx) (wl_edge hy)
    obtain ⟨es, en⟩ := edge_sub hwl
    have n2 : 2 ≤ edgeN [r.cx, r.cy, r.x, r.y] ∧ edgeN [r.cx, r.cy, r.x, r.y] ≤ 17 := by unfold edgeN; omega
    have hv : ∀ v, v ∈ [r.cx, r.cy, r.x, r.y] → widthN v ≤ edgeN [r.cx, r.cy, r.x, r.y] := fun v hv => Nat.le_trans (WL_ge hv) (by unfold edgeN; omega)
    have g1 := putN_go 2 2 hw
    have g2 := putN_go (edgeN [r.cx, r.cy, r.x, r.y] - 2) 4 g1.1
    have l1 := g1.2.2; have l2 := g2.2.2
    have e0 := width_w (l := [r.cx, r.cy, r.x, r.y]) hI (by decide : 4 ≤ 100)
    have e1 := plain_w hw (by omega) (v := 2) (n := 2) (by decide) (by decide) a b
    have e2 := plain_w g1.1 (by omega) (v := edgeN [r.cx, r.cy, r.x, r.y] - 2) (n := 4) (by decide) (by show _ < 16; omega) a b
    have e3 := signed_w (l := [r.cx, r.cy, r.x, r.y]) hI (n := edgeN [r.cx, r.cy, r.x, r.y]) (by omega) hv (by decide : 4 ≤ 100) g2.1 (by show _ + 31 * 4 ≤ _; omega) a b
    rw [show ((2 : Nat) : Int) = 2 from rfl] at e1
    rw [show ((4 : Nat) : Int) = 4 from rfl] at e2
    rw [nextA_ne (by omega), nextB_ne (by omega)]
    simp only [Rec.e]
    rw [w_q78, k]
    simp only [show ((5 : Int) == 1) = false from rfl, show ((5 : Int) == 2) = false from rfl, show ((5 : Int) == 3) = false from rfl, show ((5 : Int) == 4) = false from rfl, show ((5 : Int) == 5) = true from rfl, quad_row, e0, es, en, e1, e2, e3, zcf]
    rfl
end Go.AI
set_option linter.unusedVariables false
set_option linter.unusedSimpArgs false
set_option maxRecDepth 100000
namespace Go.AI
open Go Go.Proofs

def recsW : Nat → Nat → List Rec → Wt → Wt
  | _, _, [], w => w
  | a, b, r :: l, w => recsW (nextA r a) (nextB r b) l (recW a b r w)
def headW (f s : Nat) (S : List UInt8) : Wt := putN (blen s) 4 (putN (blen f) 4 (S, 0))
def recsT (f s : Nat) (l : List Rec) (S : List UInt8) : Wt := putN 0 6 (recsW (blen f) (blen s) l (headW f s S))
theorem recW_go {r : Rec} {f s : Int} (h : recB r f s = true) {a b : Nat} (ha : a ≤ 4) (hb : b ≤ 4) {w : Wt} (hw : WOk w) : Wgo 9000 w (recW a b r w) := by
  unfold recW
  rcases recB_kind h with k | k | k | k | k <;> rw [k]
  · obtain ⟨_, hx, hy⟩ := recB_move h k
    have hwl := WL2 (wl_coord hx) (wl_coord hy)
    have g1 := putN_go 1 6 hw
    have g2 := putN_go (WL [r.x, r.y]) 5 g1.1
    have g3 := numsW_go (WL [r.x, r.y]) [r.x, r.y] g2.1
    refine (g1.trans g2 (Nat.le_refl _)).trans g3 ?_
    show _ + WL [r.x, r.y] * 2 ≤ _; omega
  · have g := setW_go a b r hw
    exact ⟨g.1, g.2.1, by have := g.2.2; show (setW a b r w).1.length ≤ _; omega⟩
  · obtain ⟨_, hb'⟩ := recB_fresh h k
    have ll := listsS_le hb'
    have g1 := putN_go 16 6 hw
    have g2 : Wgo 8000 (putN 16 6 w) ((putN 16 6 w).1 ++ listsS r.fills r.strks, 0) := ⟨ok_zero _, append_ext _ _ _, by simp; omega⟩
    have g3 := putN_go (blen r.fills.length) 4 g2.1
    have g4 := putN_go (blen r.strks.length) 4 g3.1
    exact ((g1.trans g2 (Nat.le_refl _)).trans g3 (Nat.le_refl _)).trans g4 (by decide)
  · obtain ⟨_, hx, hy⟩ := recB_line h k
    have hwl := WL2 (wl_edge hx) (wl_edge hy)
    have n2 : edgeN [r.x, r.y] ≤ 17 := by unfold edgeN; omega
    have g1 := putN_go 3 2 hw
    have g2 := putN_go (edgeN [r.x, r.y] - 2) 4 g1.1
    show Wgo 9000 w (lineW r w)
    unfold lineW
    dsimp only
    split
    · have g3 := putN_go 1 2 g2.1
      have g4 := numsW_go (edgeN [r.x, r.y]) [r.y] g3.1
      refine ((g1.trans g2 (Nat.le_refl _)).trans g3 (Nat.le_refl _)).trans g4 ?_
      show _ + _ * 1 ≤ _; omega
    · split
      · have g3 := putN_go 0 2 g2.1
        have g4 := numsW_go (edgeN [r.x, r.y]) [r.x] g3.1
        refine ((g1.trans g2 (Nat.le_refl _)).trans g3 (Nat.le_refl _)).trans g4 ?_
        show _ + _ * 1 ≤ _; omega
      · have g3 := putN_go 1 1 g2.1
        have g4 := numsW_go (edgeN [r.x, r.y]) [r.x, r.y] g3.1
        refine ((g1.trans g2 (Nat.le_refl _)).trans g3 (Nat.le_refl _)).trans g4 ?_
        show _ + _ * 2 ≤ _; omega
  · obtain ⟨_, hx, hy, hcx, hcy⟩ := recB_curve h k
    have hwl := WL4 (wl_edge hcx) (wl_edge hcy) (wl_edge hx) (wl_edge hy)
    have n2 : edgeN [r.cx, r.cy, r.x, r.y] ≤ 17 := by unfold edgeN; omega
    have g1 := putN_go 2 2 hw
    have g2 := putN_go (edgeN [r.cx, r.cy, r.x, r.y] - 2) 4 g1.1
    have g3 := numsW_go (edgeN [r.cx, r.cy, r.x, r.y]) [r.cx, r.cy, r.x, r.y] g2.1
    refine (g1.trans g2 (Nat.le_refl _)).trans g3 ?_
    show _ + _ * 4 ≤ _; omega
theorem blen_lt (n : Nat) : n < 2 ^ blen n := blen_le.1 (Nat.le_refl _)
theorem next_ok {r : Rec} {f s : Int} (h : recB r f s = true) {a b : Nat} (ha : a ≤ 4) (hb : b ≤ 4) (hf : f < 2 ^ a) (hs : s < 2 ^ b) :
    nextA r a ≤ 4 ∧ nextB r b ≤ 4 ∧ (nextF r f s).1 < 2 ^ nextA r a ∧ (nextF r f s).2 < 2 ^ nextB r b := by
  by_cases k : r.kind = 3
  · obtain ⟨_, hb'⟩ := recB_fresh h k
    obtain ⟨n1, n2, _, _⟩ := listsB_r hb'
    have e : (r.kind == 3) = true := by rw [k]; rfl
    unfold nextA nextB nextF
    rw [e]
    have c1 := blen_lt r.fills.length
    have c2 := blen_lt r.strks.length
    exact ⟨blen15 n1, blen15 n2, by show ((r.fills.length : Nat) : Int) < 2 ^ blen r.fills.length; exact_mod_cast c1, by show ((r.strks.length : Nat) : Int) < 2 ^ blen r.strks.length; exact_mod_cast c2⟩
  · have e : (r.kind == 3) = false := by simpa using k
    unfold nextA nextB nextF
    rw [e]
    exact ⟨ha, hb, hf, hs⟩
theorem recsB_cons {r : Rec} {f s kind : Int} {l : List Rec} (h : recsB f s (r :: l) kind = true) : recB r f s = true ∧ kindB r kind = true ∧ recsB (nextF r f s).1 (nextF r f s).2 l kind = true := by
  unfold recsB at h
  simp only [Bool.and_eq_true] at h
  exact ⟨h.1.1, h.1.2, h.2⟩
theorem recsW_go {kind : Int} : ∀ (l : List Rec) (f s : Int) (a b : Nat) (w : Wt), recsB f s l kind = true → a ≤ 4 → b ≤ 4 → f < 2 ^ a → s < 2 ^ b → WOk w → Wgo (9000 * l.length) w (recsW a b l w)
  | [], f, s, a, b, w, _, _, _, _, _, hw => .refl hw
  | r :: l, f, s, a, b, w, h, ha, hb, hf, hs, hw => by
    obtain ⟨h1, _, h3⟩ := recsB_cons h
    obtain ⟨c1, c2, c3, c4⟩ := next_ok h1 ha hb hf hs
    have g := recW_go h1 ha hb hw
    refine g.trans (recsW_go l _ _ _ _ _ h3 c1 c2 c3 c4 g.1) ?_
    simp only [List.length_cons]; omega
theorem putRecs_loop {l : List Rec} (hl : l.length ≤ 512) {kind : Int} (o1 : List UInt8) (o2 : Int) : ∀ (rest pre : List Rec) (f s : Int) (a b : Nat) (w : Wt), l = pre ++ rest → recsB f s rest kind = true → a ≤ 4 → b ≤ 4 → f < 2 ^ a → s < 2 ^ b → WOk w → w.1.length + 9000 * rest.length ≤ 380000000 →
    rW f_q154 [] at_q109 (S_q109 (l.map Rec.e) l.length pre.length o1 o2 w.1 (w.2 : Nat) a b) = some ([.s (putN 0 6 (recsW a b rest w)).1, .i 0, .i 0], [])
  | [], pre, f, s, a, b, w, h, hr, ha, hb, hf, hs, hw, hlen => by
    have e1 := plain_w hw (by omega) (v := 0) (n := 6) (by decide) (by decide) a b
    rw [show ((0 : Nat) : Int) = 0 from rfl, show ((6 : Nat) : Int) = 6 from rfl] at e1
    rw [w_q109]
    simp only [el_end h, e1, (putAlign_ans _ _).c, recsW, zcf]
  | r :: rest, pre, f, s, a, b, w, h, hr, ha, hb, hf, hs, hw, hlen => by
    obtain ⟨h1, h2, h3, h4, h5⟩ := el_step Rec.e h (Nat.le_trans hl (by decide))
    obtain ⟨b1, _, b3⟩ := recsB_cons hr
    obtain ⟨c1, c2, c3, c4⟩ := next_ok b1 ha hb hf hs
    have g := recW_go b1 ha hb hw
    simp only [List.length_cons] at hlen
    have e := record_w b1 ha hb hf hs hw (by omega)
    simp only [Rec.e] at e
    rw [w_q109]
    simp only [h1, h2, h3, h4, Rec.e, e, zcf]
    exact putRecs_loop hl o1 o2 rest _ _ _ _ _ _ h5 b3 c1 c2 c3 c4 g.1 (by have := g.2.2; omega)
def putRecsF (S : List UInt8) (f s : Int) (l : List Rec) (kind : Int) : Res := bif rightRecs f s l kind then ([.s (recsT f.toNat s.toNat l S).1, .i 0, .i 0], []) else ([.s [], .i 0, .i 1], [])
theorem rightRecs_r {f s kind : Int} {l : List Rec} (h : rightRecs f s l kind = true) : (0 ≤ f ∧ f ≤ 15) ∧ (0 ≤ s ∧ s ≤ 15) ∧ (0 ≤ kind ∧ kind ≤ 2) ∧ l.length ≤ 512 ∧ recsB f s l kind = true := by
  unfold rightRecs at h
  simp only [Bool.and_eq_true, decide_eq_true_eq, inR_iff] at h
  exact ⟨h.1, h.2.1, h.2.2.1, by omega, h.2.2.2.2⟩
theorem headW_go (f s : Nat) (S : List UInt8) : Wgo 8 (S, 0) (headW f s S) := by
  have g1 := putN_go (blen f) 4 (ok_zero S)
  have g2 := putN_go (blen s) 4 g1.1
  exact g1.trans g2 (by decide)
theorem PutRecords_c {S : List UInt8} (hS : S.length ≤ 300000000) {l : List Rec} (hl : l.length ≤ 2 ^ 40) (hs : Shs l) (fr f s kind : Int) : cW f_q154 [.s S, .i fr, .i f, .i s, .l (l.map Rec.e), .i kind] [] = some (putRecsF S f s l kind) := by
  rw [w_q154]
  simp only [rightRecs_c hl hs, zcf]
  unfold putRecsF
  cases h : rightRecs f s l kind with
  | false => rfl
  | true =>
    obtain ⟨⟨f0, f1⟩, ⟨s0, s1⟩, _, h5, hr⟩ := rightRecs_r h
    obtain ⟨m, rfl⟩ := Int.eq_ofNat_of_zero_le f0
    obtain ⟨n, rfl⟩ := Int.eq_ofNat_of_zero_le s0
    have e := widths_w (w := (S, 0)) (ok_zero S) (by show S.length ≤ _; omega) (m := m) (n := n) (by omega) (by omega) 0 0
    dsimp only at e
    rw [show ((0 : Nat) : Int) = 0 from rfl] at e
    have g := headW_go m n S
    have gl := g.2.2
    have e2 := putRecs_loop h5 [] 0 l [] m n (blen m) (blen n) (headW m n S) rfl hr (blen15 (by omega)) (blen15 (by omega)) (by exact_mod_cast blen_lt m) (by exact_mod_cast blen_lt n) g.1 (by dsimp only at gl; omega)
    simp only [zq16, zq6, zq5, (putAlign_ans _ _).c, e, Int.toNat_natCast, zcf]
    exact e2
end Go.AI
set_option linter.unusedVariables false
set_option linter.unusedSimpArgs false
set_option maxRecDepth 100000
namespace Go.AI
open Go Go.Proofs

def stB (W w : Wt) (f s a b : Int) (l : List Rec) : RS := ⟨rat W w, f, s, a, b, l⟩
theorem plB {W w : Wt} (hw : WOk w) {v n : Nat} (hn : n ≤ 31) (hv : v < 2 ^ n) (he : WExt (putN v n w) W) {N : Int} (hN : N = ((n : Nat) : Int)) (f s a b : Int) (l : List Rec) : plR (stB W w f s a b l) N = ((v : Int), stB W (putN v n w) f s a b l) := by
  subst hN; unfold plR stB; dsimp only; rw [pl_back hw hn hv he]
theorem sgB {W w : Wt} (hw : WOk w) {v : Int} {n : Nat} (hn : n ≤ 31) (hv : widthN v ≤ n) (he : WExt (putN (signU v n).toNat n w) W) {N : Int} (hN : N = ((n : Nat) : Int)) (f s a b : Int) (l : List Rec) : sgR (stB W w f s a b l) N = (v, stB W (putN (signU v n).toNat n w) f s a b l) := by
  subst hN; unfold sgR stB; dsimp only; rw [sg_back hw hn hv he]
theorem takeB (W w : Wt) (f s a b : Int) {l : List Rec} (hl : l.length < 512) (r : Rec) : takeR (stB W w f s a b l) r = stB W w f s a b (l ++ [r]) := by
  unfold takeR
  rw [show ((stB W w f s a b l).l.length == 512) = false from by show (l.length == 512) = false; simp; omega, Bool.and_false]
  rfl
theorem ext_go {v n : Nat} {w W : Wt} (hw : WOk w) (h : WExt (putN v n w) W) : WExt w W := (putN_go v n hw).2.1.trans h
theorem ok_go (v n : Nat) {w : Wt} (hw : WOk w) : WOk (putN v n w) := (putN_go v n hw).1
theorem six {v : Nat} (hv : v < 32) (w : Wt) : putN v 6 w = putN v 5 (putN 0 1 w) := by
  show putN v 5 (put1 w.1 w.2 (v / 32 % 2)) = putN v 5 (put1 w.1 w.2 (0 / 2 ^ 0 % 2))
  rw [show v / 32 % 2 = 0 by omega]
theorem flagsB {W w : Wt} (hw : WOk w) {v : Nat} (hv : v < 32) (he : WExt (putN v 6 w) W) (f s a b : Int) (l : List Rec) : plR (stB W w f s a b l) 1 = (0, stB W (putN 0 1 w) f s a b l) ∧ plR (stB W (putN 0 1 w) f s a b l) 5 = ((v : Int), stB W (putN v 6 w) f s a b l) := by
  rw [six hv] at he ⊢
  have h1 := ok_go 0 1 hw
  exact ⟨plB hw (by decide) (by decide) (ext_go h1 he) rfl f s a b l, plB h1 (by decide) hv he rfl f s a b l⟩
theorem headB {W w : Wt} (hw : WOk w) {t m : Nat} (ht : t < 2) (hm : m < 16) (he : WExt (putN m 4 (putN t 1 (putN 1 1 w))) W) (f s a b : Int) (l : List Rec) :
    plR (stB W w f s a b l) 1 = (1, stB W (putN 1 1 w) f s a b l) ∧ plR (stB W (putN 1 1 w) f s a b l) 1 = ((t : Int), stB W (putN t 1 (putN 1 1 w)) f s a b l) ∧ plR (stB W (putN t 1 (putN 1 1 w)) f s a b l) 4 = ((m : Int), stB W (putN m 4 (putN t 1 (putN 1 1 w))) f s a b l) ∧ WOk (putN m 4 (putN t 1 (putN 1 1 w))) := by
  have h1 := ok_go 1 1 hw
  have h2 := ok_go t 1 h1
  have e2 := ext_go h2 he
  exact ⟨plB hw (by decide) (by decide) (ext_go h1 e2) rfl f s a b l, plB h1 (by decide) ht e2 rfl f s a b l, plB h2 (by decide) hm he rfl f s a b l, ok_go m 4 h2⟩
theorem nil_of {α : Type} {l : List α} (h : l.length = 0) : l = [] := List.eq_nil_of_length_eq_zero h
theorem edgeN_rng {l : List Int} (h : WL l ≤ 17) : 2 ≤ edgeN l ∧ edgeN l ≤ 17 ∧ (((edgeN l - 2 : Nat) : Int) + 2) = ((edgeN l : Nat) : Int) ∧ ∀ v, v ∈ l → widthN v ≤ edgeN l := by
  unfold edgeN
  refine ⟨by omega, by omega, by omega, fun v hv => Nat.le_trans (WL_ge hv) (by omega)⟩
theorem line_is {r : Rec} {f s : Int} (h : recB r f s = true) (k : r.kind = 4) : r = lineRec r.x r.y := by
  obtain ⟨⟨⟨a1, a2, a3⟩, ⟨b1, b2⟩, ⟨c1, c2⟩⟩, _⟩ := recB_line h k
  exact (rec_iff r 4 r.x r.y 0 0 0 0 0 [] []).2 ⟨k, rfl, rfl, c1, c2, a1, a2, a3, nil_of b1, nil_of b2⟩
theorem lineB {W w : Wt} (hw : WOk w) {r : Rec} {f0 s0 : Int} (h : recB r f0 s0 = true) (k : r.kind = 4) (he : WExt (lineW r w) W) (f s a b : Int) {l : List Rec} (hl : l.length < 512) :
    (plR (stB W w f s a b l) 1).1 = 1 ∧ edgeR (plR (stB W w f s a b l) 1).2 = stB W (lineW r w) f s a b (l ++ [r]) := by
  obtain ⟨_, hx, hy⟩ := recB_line h k
  have hr := line_is h k
  have w17 : WL [r.x, r.y] ≤ 17 := WL2 (wl_edge hx) (wl_edge hy)
  obtain ⟨n2, n17, nn, nw⟩ := edgeN_rng w17
  have fx := nw r.x (by simp)
  have fy := nw r.y (by simp)
  unfold lineW at he ⊢
  dsimp only at he ⊢
  rw [show putN 3 2 w = putN 1 1 (putN 1 1 w) from rfl] at he ⊢
  generalize edgeN [r.x, r.y] = n at *
  have hC : WOk (putN (n - 2) 4 (putN 1 1 (putN 1 1 w))) := ok_go _ _ (ok_go _ _ (ok_go _ _ hw))
  unfold edgeR
  dsimp only
  by_cases hx0 : r.x = 0
  · rw [if_pos hx0] at he ⊢
    rw [show putN 1 2 (putN (n - 2) 4 (putN 1 1 (putN 1 1 w))) = putN 1 1 (putN 0 1 (putN (n - 2) 4 (putN 1 1 (putN 1 1 w)))) from rfl] at he ⊢
    have hD := ok_go 0 1 hC
    have hE := ok_go 1 1 hD
    have eF : WExt (putN (signU r.y n).toNat n (putN 1 1 (putN 0 1 (putN (n - 2) 4 (putN 1 1 (putN 1 1 w)))))) W := he
    have eE := ext_go hE eF
    have eD := ext_go hD eE
    have eC := ext_go hC eD
    obtain ⟨p1, p2, p3, _⟩ := headB hw (t := 1) (m := n - 2) (by decide) (by omega) eC f s a b l
    have p4 := plB hC (n := 1) (v := 0) (by decide) (by decide) eD rfl f s a b l
    have p5 := plB hD (n := 1) (v := 1) (by decide) (by decide) eE rfl f s a b l
    have p6 := sgB hE (by omega) fy eF rfl f s a b l
    rw [p1]; dsimp only
    rw [p2]; dsimp only
    rw [p3]; dsimp only
    rw [nn]
    rw [show ((1 : Nat) : Int) = 1 from rfl] at p4 p5
    rw [p4]; dsimp only
    rw [p5]; dsimp only
    rw [p6]
    refine ⟨rfl, ?_⟩
    show takeR (stB W _ f s a b l) (lineRec 0 r.y) = _
    rw [takeB _ _ _ _ _ _ hl, ← hx0, ← hr]
    rfl
  · rw [if_neg hx0] at he ⊢
    by_cases hy0 : r.y = 0
    · rw [if_pos hy0] at he ⊢
      rw [show putN 0 2 (putN (n - 2) 4 (putN 1 1 (putN 1 1 w))) = putN 0 1 (putN 0 1 (putN (n - 2) 4 (putN 1 1 (putN 1 1 w)))) from rfl] at he ⊢
      have hD := ok_go 0 1 hC
      have hE := ok_go 0 1 hD
      have eF : WExt (putN (signU r.x n).toNat n (putN 0 1 (putN 0 1 (putN (n - 2) 4 (putN 1 1 (putN 1 1 w)))))) W := he
      have eE := ext_go hE eF
      have eD := ext_go hD eE
      have eC := ext_go hC eD
      obtain ⟨p1, p2, p3, _⟩ := headB hw (t := 1) (m := n - 2) (by decide) (by omega) eC f s a b l
      have p4 := plB hC (n := 1) (v := 0) (by decide) (by decide) eD rfl f s a b l
      have p5 := plB hD (n := 1) (v := 0) (by decide) (by decide) eE rfl f s a b l
      have p6 := sgB hE (by omega) fx eF rfl f s a b l
      rw [p1]; dsimp only
      rw [p2]; dsimp only
      rw [p3]; dsimp only
      rw [nn]
      rw [show ((1 : Nat) : Int) = 1 from rfl] at p4 p5
      rw [p4]; dsimp only
      rw [p5]; dsimp only
      rw [p6]
      refine ⟨rfl, ?_⟩
      show takeR (stB W _ f s a b l) (lineRec r.x 0) = _
      rw [takeB _ _ _ _ _ _ hl, ← hy0, ← hr]
      rfl
    · rw [if_neg hy0] at he ⊢
      have hD := ok_go 1 1 hC
      have hE := ok_go (signU r.x n).toNat n hD
      have eF : WExt (putN (signU r.y n).toNat n (putN (signU r.x n).toNat n (putN 1 1 (putN (n - 2) 4 (putN 1 1 (putN 1 1 w)))))) W := he
      have eE := ext_go hE eF
      have eD := ext_go hD eE
      have eC := ext_go hC eD
      obtain ⟨p1, p2, p3, _⟩ := headB hw (t := 1) (m := n - 2) (by decide) (by omega) eC f s a b l
      have p4 := plB hC (n := 1) (v := 1) (by decide) (by decide) eD rfl f s a b l
      have p5 := sgB hD (by omega) fx eE rfl f s a b l
      have p6 := sgB hE (by omega) fy eF rfl f s a b l
      rw [p1]; dsimp only
      rw [p2]; dsimp only
      rw [p3]; dsimp only
      rw [nn]
      rw [show ((1 : Nat) : Int) = 1 from rfl] at p4
      rw [p4]; dsimp only
      rw [p5]; dsimp only
      rw [p6]
      refine ⟨rfl, ?_⟩
      show takeR (stB W _ f s a b l) (lineRec r.x r.y) = _
      rw [takeB _ _ _ _ _ _ hl, ← hr]
      rfl
theorem curveB {W w : Wt} (hw : WOk w) {r : Rec} {f0 s0 : Int} (h : recB r f0 s0 = true) (k : r.kind = 5) (he : WExt (curveW r w) W) (f s a b : Int) {l : List Rec} (hl : l.length < 512) :
    (plR (stB W w f s a b l) 1).1 = 1 ∧ edgeR (plR (stB W w f s a b l) 1).2 = stB W (curveW r w) f s a b (l ++ [r]) := by
  obtain ⟨⟨⟨a1, a2, a3⟩, b1, b2⟩, hx, hy, hcx, hcy⟩ := recB_curve h k
  have hr : r = ⟨5, r.x, r.y, r.cx, r.cy, 0, 0, 0, [], []⟩ := (rec_iff r 5 r.x r.y r.cx r.cy 0 0 0 [] []).2 ⟨k, rfl, rfl, rfl, rfl, a1, a2, a3, nil_of b1, nil_of b2⟩
  have w17 : WL [r.cx, r.cy, r.x, r.y] ≤ 17 := WL4 (wl_edge hcx) (wl_edge hcy) (wl_edge hx) (wl_edge hy)
  obtain ⟨n2, n17, nn, nw⟩ := edgeN_rng w17
  have f1 := nw r.cx (by simp)
  have f2 := nw r.cy (by simp)
  have f3 := nw r.x (by simp)
  have f4 := nw r.y (by simp)
  unfold curveW at he ⊢
  rw [show putN 2 2 w = putN 0 1 (putN 1 1 w) from rfl] at he ⊢
  generalize edgeN [r.cx, r.cy, r.x, r.y] = n at *
  have hC : WOk (putN (n - 2) 4 (putN 0 1 (putN 1 1 w))) := ok_go _ _ (ok_go _ _ (ok_go _ _ hw))
  have h1 := ok_go (signU r.cx n).toNat n hC
  have h2 := ok_go (signU r.cy n).toNat n h1
  have h3 := ok_go (signU r.x n).toNat n h2
  have e4 : WExt (putN (signU r.y n).toNat n (putN (signU r.x n).toNat n (putN (signU r.cy n).toNat n (putN (signU r.cx n).toNat n (putN (n - 2) 4 (putN 0 1 (putN 1 1 w))))))) W := he
  have e3 := ext_go h3 e4
  have e2 := ext_go h2 e3
  have e1 := ext_go h1 e2
  have eC := ext_go hC e1
  obtain ⟨p1, p2, p3, _⟩ := headB hw (t := 0) (m := n - 2) (by decide) (by omega) eC f s a b l
  have q1 := sgB hC (by omega) f1 e1 rfl f s a b l
  have q2 := sgB h1 (by omega) f2 e2 rfl f s a b l
  have q3 := sgB h2 (by omega) f3 e3 rfl f s a b l
  have q4 := sgB h3 (by omega) f4 e4 rfl f s a b l
  unfold edgeR
  dsimp only
  rw [p1]; dsimp only
  rw [p2]; dsimp only
  rw [p3]; dsimp only
  rw [nn, q1]; dsimp only
  rw [q2]; dsimp only
  rw [q3]; dsimp only
  rw [q4]
  refine ⟨rfl, ?_⟩
  show takeR (stB W _ f s a b l) ⟨5, r.x, r.y, r.cx, r.cy, 0, 0, 0, [], []⟩ = _
  rw [takeB _ _ _ _ _ _ hl, ← hr]
  rfl
end Go.AI
set_option linter.unusedVariables false
set_option linter.unusedSimpArgs false
set_option maxRecDepth 100000
namespace Go.AI
open Go Go.Proofs

theorem bits1 : bitB 1 0 = true ∧ bitB 1 1 = false ∧ bitB 1 2 = false ∧ bitB 1 3 = false ∧ bitB 1 4 = false ∧ anyB 1 = false := by decide
theorem bits16 : bitB 16 0 = false ∧ bitB 16 1 = false ∧ bitB 16 2 = false ∧ bitB 16 3 = false ∧ bitB 16 4 = true ∧ anyB 16 = false := by decide
theorem chB {x : RS} {mx my l r n : Int} (h1 : inB2 (-1048576) 1048576 mx = true) (h2 : inB2 (-1048576) 1048576 my = true) (hl : l ≤ x.fs) (hr : r ≤ x.fs) (hn : n ≤ x.ss) : chR x mx my l r n = x := by
  unfold chR
  have e : decide ((bif decide (r > l) then r else l) > x.fs) = false := by
    cases hd : decide (r > l) <;> simp only [zq5, zq6, decide_eq_false_iff_not] <;> omega
  rw [h1, h2, e, show decide (n > x.ss) = false by simp; omega]
  cases (x.σ.2.2 == 0) <;> rfl
theorem inB0 : inB2 (-1048576) 1048576 0 = true := by decide
theorem moveB {W w : Wt} (hw : WOk w) {r : Rec} {f0 s0 : Int} (h : recB r f0 s0 = true) (k : r.kind = 1) (he : WExt (moveW r w) W) (f s a b : Int) (hf : 0 ≤ f) (hs : 0 ≤ s) {l : List Rec} (hl : l.length < 512) (kind : Int) :
    (plR (stB W w f s a b l) 1).1 = 0 ∧ (plR (plR (stB W w f s a b l) 1).2 5).1 = 1 ∧ sevR (plR (plR (stB W w f s a b l) 1).2 5).2 1 kind = stB W (moveW r w) f s a b (l ++ [r]) := by
  obtain ⟨⟨⟨a1, a2, a3⟩, ⟨b1, b2⟩, c1, c2⟩, hx, hy⟩ := recB_move h k
  have hr : r = moveRec r.x r.y := (rec_iff r 1 r.x r.y 0 0 0 0 0 [] []).2 ⟨k, rfl, rfl, c1, c2, a1, a2, a3, nil_of b1, nil_of b2⟩
  have w22 : WL [r.x, r.y] ≤ 22 := WL2 (wl_coord hx) (wl_coord hy)
  have fx : widthN r.x ≤ WL [r.x, r.y] := WL_ge (by simp)
  have fy : widthN r.y ≤ WL [r.x, r.y] := WL_ge (by simp)
  unfold moveW at he ⊢
  generalize WL [r.x, r.y] = n at *
  have h6 := ok_go 1 6 hw
  have h5 := ok_go n 5 h6
  have h4 := ok_go (signU r.x n).toNat n h5
  have e3 : WExt (putN (signU r.y n).toNat n (putN (signU r.x n).toNat n (putN n 5 (putN 1 6 w)))) W := he
  have e4 := ext_go h4 e3
  have e5 := ext_go h5 e4
  have e6 := ext_go h6 e5
  obtain ⟨p1, p2⟩ := flagsB hw (v := 1) (by decide) e6 f s a b l
  have q1 := plB h6 (v := n) (n := 5) (by decide) (by show n < 32; omega) e5 rfl f s a b l
  have q2 := sgB h5 (by omega) fx e4 rfl f s a b l
  have q3 := sgB h4 (by omega) fy e3 rfl f s a b l
  rw [show ((5 : Nat) : Int) = 5 from rfl] at q1
  rw [p1]; dsimp only
  rw [p2]; dsimp only
  refine ⟨rfl, rfl, ?_⟩
  obtain ⟨d0, d1, d2, d3, d4, d5⟩ := bits1
  unfold sevR mvR s1R s2R s3R s4R stR
  simp only [d0, d1, d2, d3, d4, d5, zq11, Bool.or_self, zq5, zq6, q1, q2, q3]
  rw [chB ((inR_iff _ _ _).2 hx) ((inR_iff _ _ _).2 hy) (by show (-1 : Int) ≤ f; omega) (by show (-1 : Int) ≤ f; omega) (by show (-1 : Int) ≤ s; omega)]
  unfold endR
  simp only [d0, d5, zq5, zq6]
  rw [takeB _ _ _ _ _ _ hl, ← hr]
  rfl
theorem flagsR_bits (r : Rec) (h : r.left ≥ 0 ∨ r.right ≥ 0 ∨ r.line ≥ 0) : bitB (flagsR r : Nat) 0 = false ∧ bitB (flagsR r : Nat) 1 = decide (r.left ≥ 0) ∧ bitB (flagsR r : Nat) 2 = decide (r.right ≥ 0) ∧ bitB (flagsR r : Nat) 3 = decide (r.line ≥ 0) ∧ bitB (flagsR r : Nat) 4 = false ∧ anyB (flagsR r : Nat) = true ∧ flagsR r < 32 ∧ flagsR r ≠ 0 := by
  unfold flagsR
  by_cases c1 : r.left ≥ 0 <;> by_cases c2 : r.right ≥ 0 <;> by_cases c3 : r.line ≥ 0
  all_goals first
    | (exfalso; omega)
    | (simp only [c1, c2, c3, if_true, if_false, decide_true, decide_false]; decide)
theorem optB {W w : Wt} (hw : WOk w) {v : Int} {n : Nat} (hn : n ≤ 31) (h1 : -1 ≤ v) (h2 : v < 2 ^ n) (he : WExt (optP v n w) W) {N : Int} (hN : N = ((n : Nat) : Int)) (f s a b : Int) (l : List Rec) : stR (decide (v ≥ 0)) (stB W w f s a b l) N = (v, stB W (optP v n w) f s a b l) := by
  unfold stR optP at *
  by_cases c : v ≥ 0
  · rw [if_pos c] at he ⊢
    rw [decide_eq_true c, cond_true, plB hw hn (by
      have hp : v.toNat < 2 ^ n := by
        have e : ((v.toNat : Nat) : Int) = v := Int.toNat_of_nonneg c
        have : ((v.toNat : Nat) : Int) < ((2 ^ n : Nat) : Int) := by rw [e]; exact_mod_cast h2
        exact_mod_cast this
      exact hp) he hN, Int.toNat_of_nonneg c]
  · rw [if_neg c, decide_eq_false c, cond_false]
    rw [show v = -1 by omega]
theorem optP_ext {v : Int} {n : Nat} {w W : Wt} (hw : WOk w) (h : WExt (optP v n w) W) : WExt w W := (optP_go v n hw).2.1.trans h
theorem setB {W w : Wt} (hw : WOk w) {r : Rec} {f s : Int} (h : recB r f s = true) (k : r.kind = 2) {a b : Nat} (ha : a ≤ 4) (hb : b ≤ 4) (hfa : f < 2 ^ a) (hsb : s < 2 ^ b) (he : WExt (setW a b r w) W) {l : List Rec} (hl : l.length < 512) {kind : Int} (hk : (kind == 2) = false) :
    (plR (stB W w f s a b l) 1).1 = 0 ∧ (plR (plR (stB W w f s a b l) 1).2 5).1 = (flagsR r : Nat) ∧ flagsR r ≠ 0 ∧ sevR (plR (plR (stB W w f s a b l) 1).2 5).2 (flagsR r : Nat) kind = stB W (setW a b r w) f s a b (l ++ [r]) := by
  obtain ⟨⟨⟨b1, b2⟩, ⟨c1, c2⟩, x1, x2⟩, hany, ⟨l0, l1⟩, ⟨r0, r1⟩, n0, n1⟩ := recB_set h k
  have hr : r = setRec r.left r.right r.line := (rec_iff r 2 0 0 0 0 r.left r.right r.line [] []).2 ⟨k, x1, x2, c1, c2, rfl, rfl, rfl, nil_of b1, nil_of b2⟩
  obtain ⟨d0, d1, d2, d3, d4, d5, d6, d7⟩ := flagsR_bits r hany
  unfold setW at he ⊢
  have h6 := ok_go (flagsR r) 6 hw
  have h1 := (optP_go r.left a h6).1
  have h2 := (optP_go r.right a h1).1
  have e2 := optP_ext h2 he
  have e1 := optP_ext h1 e2
  have e6 := optP_ext h6 e1
  obtain ⟨p1, p2⟩ := flagsB hw d6 e6 f s a b l
  have q1 := optB h6 (by omega) l0 (Int.lt_of_le_of_lt l1 hfa) e1 rfl f s a b l
  have q2 := optB h1 (by omega) r0 (Int.lt_of_le_of_lt r1 hfa) e2 rfl f s a b l
  have q3 := optB h2 (by omega) n0 (Int.lt_of_le_of_lt n1 hsb) he rfl f s a b l
  rw [p1]; dsimp only
  rw [p2]; dsimp only
  refine ⟨rfl, rfl, d7, ?_⟩
  unfold sevR mvR
  rw [d4, d5, d0, hk]
  simp only [zq11, zq10, Bool.or_self, zq6]
  unfold s1R s2R s3R s4R
  rw [d1, d2, d3, d4]
  simp only [zq6]
  rw [show (stB W (putN (flagsR r) 6 w) f s a b l).a = (a : Int) from rfl, q1]; dsimp only
  rw [show (stB W (optP r.left a (putN (flagsR r) 6 w)) f s a b l).a = (a : Int) from rfl, q2]; dsimp only
  rw [show (stB W (optP r.right a (optP r.left a (putN (flagsR r) 6 w))) f s a b l).b = (b : Int) from rfl, q3]; dsimp only
  rw [chB inB0 inB0 (by exact l1) (by exact r1) (by exact n1)]
  unfold endR
  rw [d0, d5]
  simp only [zq5, zq6]
  rw [takeB _ _ _ _ _ _ hl, ← hr]
theorem take_align {s : List UInt8} {a : Int} (h : rightB s a = true) : takeF s a = takeF s (alignF s a) := by
  obtain ⟨h0, h1⟩ := rightB_iff.1 h
  have ea : alignF s a = (a + 7) / 8 * 8 := by unfold alignF; rw [if_pos h]
  have hr : rightB s (alignF s a) = true := rightB_iff.2 ⟨by omega, by omega⟩
  have lf : ∀ x : Int, lit (s, x, 0) 1 = (((littleN (bytesF s x 1).1 : Nat) : Int), (bytesF s x 1).2) := fun x => by
    unfold lit
    rw [if_neg (by simp)]
    unfold littleF
    rw [if_neg (by decide)]
  have e : lit (s, a, 0) 1 = lit (s, alignF s a, 0) 1 := by
    rw [lf, lf]
    unfold bytesF
    rw [h, hr, show (alignF s a + 7) / 8 = (a + 7) / 8 by omega]
  unfold takeF listsP manyP
  rw [e]
theorem freshB {W w : Wt} (hw : WOk w) {r : Rec} {f0 s0 : Int} (h : recB r f0 s0 = true) (k : r.kind = 3) (he : WExt (freshW r w) W) (f s a b : Int) {l : List Rec} (hl : l.length < 512) {kind : Int} (hk : (kind != 0) = false) :
    (plR (stB W w f s a b l) 1).1 = 0 ∧ (plR (plR (stB W w f s a b l) 1).2 5).1 = 16 ∧ sevR (plR (plR (stB W w f s a b l) 1).2 5).2 16 kind = stB W (freshW r w) (r.fills.length : Nat) (r.strks.length : Nat) (blen r.fills.length : Nat) (blen r.strks.length : Nat) (l ++ [r]) := by
  obtain ⟨⟨⟨a1, a2, a3⟩, ⟨c1, c2⟩, x1, x2⟩, hL⟩ := recB_fresh h k
  have hr : r = freshRec r.fills r.strks := (rec_iff r 3 0 0 0 0 0 0 0 r.fills r.strks).2 ⟨k, x1, x2, c1, c2, a1, a2, a3, rfl, rfl⟩
  unfold freshW at he ⊢
  have h6 := ok_go 16 6 hw
  have hF : r.fills.length ≤ 15 ∧ r.strks.length ≤ 15 := by
    unfold listsB at hL
    simp only [Bool.and_eq_true, decide_eq_true_eq] at hL
    omega
  have bF : blen r.fills.length ≤ 4 := blen15 hF.1
  have bS : blen r.strks.length ≤ 4 := blen15 hF.2
  have h0 : WOk ((putN 16 6 w).1 ++ listsS r.fills r.strks, 0) := ok_zero _
  have h1 := ok_go (blen r.fills.length) 4 h0
  have e1 := ext_go h1 he
  have e0 := ext_go h0 e1
  generalize hw6 : putN 16 6 w = w6 at *
  have hW : W.1 = w6.1 ++ (listsS r.fills r.strks ++ W.1.drop (w6.1 ++ listsS r.fills r.strks).length) := by
    have q := (WExt.bytes (s := []) (t := w6.1 ++ listsS r.fills r.strks) (w' := W) (by simpa using e0)).2
    simp only [List.length_nil, List.drop_zero] at q
    have := (List.take_append_drop (w6.1 ++ listsS r.fills r.strks).length W.1).symm
    rw [q, List.append_assoc] at this
    exact this
  have e6 : WExt w6 W := by
    exact (append_ext w6.1 (listsS r.fills r.strks) w6.2).trans e0
  have hle : wl w6 ≤ wl W := e6.1
  have al := align_wl h6 hle
  have tk : takeF W.1 ((wl w6 : Nat) : Int) = (r.fills, r.strks, rat W (w6.1 ++ listsS r.fills r.strks, 0)) := by
    rw [take_align (right_wl hle), al, hW, takeF_back hL]
    unfold rdAt rat wl
    simp only [Nat.sub_zero]
    rw [List.append_assoc, ← hW]
  have q1 := plB h0 (v := blen r.fills.length) (n := 4) (by decide) (by show blen r.fills.length < 16; omega) e1 rfl (r.fills.length : Nat) (r.strks.length : Nat) a b l
  have q2 := plB h1 (v := blen r.strks.length) (n := 4) (by decide) (by show blen r.strks.length < 16; omega) he rfl (r.fills.length : Nat) (r.strks.length : Nat) a b l
  rw [show ((4 : Nat) : Int) = 4 from rfl] at q1 q2
  have fr : freshR (stB W w6 f s a b l) = stB W (putN (blen r.strks.length) 4 (putN (blen r.fills.length) 4 (w6.1 ++ listsS r.fills r.strks, 0))) (r.fills.length : Nat) (r.strks.length : Nat) (blen r.fills.length : Nat) (blen r.strks.length : Nat) (l ++ [r]) := by
    unfold freshR
    rw [show ((stB W w6 f s a b l).σ.2.2 != 0) = false from rfl, cond_false]
    rw [show (stB W w6 f s a b l).σ.1 = W.1 from rfl, show (stB W w6 f s a b l).σ.2.1 = ((wl w6 : Nat) : Int) from rfl, tk]
    dsimp only
    rw [show ({ σ := rat W (w6.1 ++ listsS r.fills r.strks, 0), fs := ((r.fills.length : Nat) : Int), ss := ((r.strks.length : Nat) : Int), a := (stB W w6 f s a b l).a, b := (stB W w6 f s a b l).b, l := (stB W w6 f s a b l).l } : RS) = stB W (w6.1 ++ listsS r.fills r.strks, 0) (r.fills.length : Nat) (r.strks.length : Nat) a b l from rfl, q1]
    dsimp only
    rw [q2, ← hr]
    exact takeB _ _ _ _ _ _ hl r
  obtain ⟨p1, p2⟩ := flagsB hw (v := 16) (by decide) (by rw [hw6]; exact e6) f s a b l
  rw [p1]; dsimp only
  rw [p2]; dsimp only
  refine ⟨rfl, rfl, ?_⟩
  obtain ⟨d0, d1, d2, d3, d4, d5⟩ := bits16
  unfold sevR mvR s1R s2R s3R s4R stR
  rw [hw6]
  simp only [d0, d1, d2, d3, d4, d5, hk, zq10, zq11, Bool.or_self, zq5, zq6, fr]
  rw [chB inB0 inB0 (by show (-1 : Int) ≤ ((r.fills.length : Nat) : Int); omega) (by show (-1 : Int) ≤ ((r.fills.length : Nat) : Int); omega) (by show (-1 : Int) ≤ ((r.strks.length : Nat) : Int); omega)]
  unfold endR
  simp only [d0, d5, zq6]
end Go.AI
set_option linter.unusedVariables false
set_option linter.unusedSimpArgs false
set_option maxRecDepth 100000
namespace Go.AI
open Go Go.Proofs

theorem recB_back {W w : Wt} (hw : WOk w) {r : Rec} {f s : Int} (h : recB r f s = true) (hf0 : 0 ≤ f) (hs0 : 0 ≤ s) {a b : Nat} (ha : a ≤ 4) (hb : b ≤ 4) (hfa : f < 2 ^ a) (hsb : s < 2 ^ b) (he : WExt (recW a b r w) W) {l : List Rec} (hl : l.length < 512) {kind : Int} (hk : kindB r kind = true) (n : Nat) :
    loopR kind (n + 1) (stB W w f s a b l) = loopR kind n (stB W (recW a b r w) (nextF r f s).1 (nextF r f s).2 (nextA r a : Nat) (nextB r b : Nat) (l ++ [r])) := by
  have ee : ((stB W w f s a b l).σ.2.2 == 0) = true := rfl
  unfold kindB at hk
  simp only [Bool.and_eq_true, Bool.not_eq_true'] at hk
  rw [loopR, ee, cond_true]
  unfold recW nextF nextA nextB at *
  rcases recB_kind h with k | k | k | k | k
  · rw [k] at he hk ⊢
    obtain ⟨q1, q2, q3⟩ := moveB hw h k he f s a b hf0 hs0 hl kind
    rw [q1, q2, q3]; rfl
  · rw [k] at he hk ⊢
    obtain ⟨q1, q2, q3, q4⟩ := setB hw h k ha hb hfa hsb he hl (kind := kind) (by simpa using hk.2)
    rw [q1, q2, q4, show (((flagsR r : Nat) : Int) == 0) = false by simp; exact q3]; rfl
  · rw [k] at he hk ⊢
    obtain ⟨q1, q2, q3⟩ := freshB hw h k he f s a b hl (kind := kind) (by simpa using hk.1)
    rw [q1, q2, q3]; rfl
  · rw [k] at he hk ⊢
    obtain ⟨q1, q2⟩ := lineB hw h k he f s a b hl
    rw [q1, q2]; rfl
  · rw [k] at he hk ⊢
    obtain ⟨q1, q2⟩ := curveB hw h k he f s a b hl
    rw [q1, q2]; rfl
theorem wl_put (v n : Nat) {w : Wt} (hw : WOk w) : wl (putN v n w) = wl w + n := (putN_ext v n w hw).2.2.1
theorem recW_grow {r : Rec} {f s : Int} (h : recB r f s = true) (a b : Nat) {w : Wt} (hw : WOk w) : wl w + 1 ≤ wl (recW a b r w) := by
  have ap : ∀ (v n : Nat) (w' : Wt), WOk w' → WExt (putN v n w') (putN v n w') := fun v n w' _ => WExt.refl _
  unfold recW
  have nums : ∀ (n : Nat) (l : List Int) (w' : Wt), WOk w' → wl w' ≤ wl (numsW n l w') := fun n l w' h' => (numsW_ok n l w' h').2.1.1
  have h6 : ∀ v, wl (putN v 6 w) = wl w + 6 := fun v => wl_put v 6 hw
  have h2 : ∀ v, wl (putN v 2 w) = wl w + 2 := fun v => wl_put v 2 hw
  rcases recB_kind h with k | k | k | k | k <;> rw [k]
  · show _ ≤ wl (moveW r w)
    unfold moveW
    have h1 := ok_go 1 6 hw
    have := nums (WL [r.x, r.y]) [r.x, r.y] _ (ok_go (WL [r.x, r.y]) 5 h1)
    rw [wl_put _ _ h1, h6] at this
    omega
  · show _ ≤ wl (setW a b r w)
    unfold setW
    have k6 := ok_go (flagsR r) 6 hw
    obtain ⟨k5, g5, _⟩ := optP_go r.left a k6
    obtain ⟨k4, g4, _⟩ := optP_go r.right a k5
    obtain ⟨k3, g3, _⟩ := optP_go r.line b k4
    have := g5.1; have := g4.1; have := g3.1
    rw [h6] at *
    omega
  · show _ ≤ wl (freshW r w)
    unfold freshW
    have e := (append_ext (putN 16 6 w).1 (listsS r.fills r.strks) (putN 16 6 w).2).1
    have h0 : WOk ((putN 16 6 w).1 ++ listsS r.fills r.strks, 0) := ok_zero _
    have h1 := ok_go (blen r.fills.length) 4 h0
    rw [wl_put _ _ h1, wl_put _ _ h0]
    have e : wl (putN 16 6 w) ≤ wl ((putN 16 6 w).1 ++ listsS r.fills r.strks, 0) := e
    rw [h6] at e
    omega
  · show _ ≤ wl (lineW r w)
    unfold lineW
    dsimp only
    have k2 := ok_go 3 2 hw
    have k4 := ok_go (edgeN [r.x, r.y] - 2) 4 k2
    have e4 : wl (putN (edgeN [r.x, r.y] - 2) 4 (putN 3 2 w)) = wl w + 2 + 4 := by rw [wl_put _ _ k2, h2]
    split
    · have := nums (edgeN [r.x, r.y]) [r.y] _ (ok_go 1 2 k4)
      rw [wl_put _ _ k4, e4] at this
      omega
    · split
      · have := nums (edgeN [r.x, r.y]) [r.x] _ (ok_go 0 2 k4)
        rw [wl_put _ _ k4, e4] at this
        omega
      · have := nums (edgeN [r.x, r.y]) [r.x, r.y] _ (ok_go 1 1 k4)
        rw [wl_put _ _ k4, e4] at this
        omega
  · show _ ≤ wl (curveW r w)
    unfold curveW
    have k2 := ok_go 2 2 hw
    have := nums (edgeN [r.cx, r.cy, r.x, r.y]) [r.cx, r.cy, r.x, r.y] _ (ok_go (edgeN [r.cx, r.cy, r.x, r.y] - 2) 4 k2)
    rw [wl_put _ _ k2, h2] at this
    omega
end Go.AI
set_option linter.unusedVariables false
set_option linter.unusedSimpArgs false
set_option maxRecDepth 100000
namespace Go.AI
open Go Go.Proofs

theorem recs_back {W : Wt} {kind : Int} : ∀ (rest pre : List Rec) (f s : Int) (a b : Nat) (w : Wt) (n : Nat), recsB f s rest kind = true → 0 ≤ f → 0 ≤ s → a ≤ 4 → b ≤ 4 → f < 2 ^ a → s < 2 ^ b → WOk w → WExt (putN 0 6 (recsW a b rest w)) W → pre.length + rest.length ≤ 512 → rest.length + 1 ≤ n →
    ∃ f' s' a' b' : Int, loopR kind n (stB W w f s a b pre) = stB W (putN 0 6 (recsW a b rest w)) f' s' a' b' (pre ++ rest) := by
  intro rest
  induction rest with
  | nil =>
    intro pre f s a b w n hr f0 s0 ha hb hf hs hw he hl hn
    obtain ⟨n, rfl⟩ : ∃ k, n = k + 1 := ⟨n - 1, by simp at hn; omega⟩
    obtain ⟨p1, p2⟩ := flagsB hw (v := 0) (by decide) he f s a b pre
    refine ⟨f, s, a, b, ?_⟩
    rw [loopR, show ((stB W w f s a b pre).σ.2.2 == 0) = true from rfl, cond_true, p1]
    dsimp only
    rw [p2, List.append_nil]
    rfl
  | cons r rest ih =>
    intro pre f s a b w n hr f0 s0 ha hb hf hs hw he hl hn
    obtain ⟨n, rfl⟩ : ∃ k, n = k + 1 := ⟨n - 1, by simp at hn; omega⟩
    obtain ⟨h1, h2, h3⟩ := recsB_cons hr
    obtain ⟨c1, c2, c3, c4⟩ := next_ok h1 ha hb hf hs
    have g := recW_go h1 ha hb hw
    have g2 := recsW_go rest _ _ _ _ _ h3 c1 c2 c3 c4 g.1
    have he' : WExt (putN 0 6 (recsW (nextA r a) (nextB r b) rest (recW a b r w))) W := he
    have e2 := ext_go g2.1 he'
    simp only [List.length_cons] at hl hn
    have nf : 0 ≤ (nextF r f s).1 ∧ 0 ≤ (nextF r f s).2 := by
      unfold nextF
      cases (r.kind == 3)
      · exact ⟨f0, s0⟩
      · exact ⟨Int.natCast_nonneg _, Int.natCast_nonneg _⟩
    rw [recB_back hw h1 f0 s0 ha hb hf hs (g2.2.1.trans e2) (by omega) h2 n]
    obtain ⟨f', s', a', b', e⟩ := ih (pre ++ [r]) _ _ _ _ _ n h3 nf.1 nf.2 c1 c2 c3 c4 g.1 he' (by simp; omega) (by omega)
    exact ⟨f', s', a', b', by rw [e, List.append_assoc]; rfl⟩
theorem recsW_grow {kind : Int} : ∀ (l : List Rec) (f s : Int) (a b : Nat) (w : Wt), recsB f s l kind = true → a ≤ 4 → b ≤ 4 → f < 2 ^ a → s < 2 ^ b → WOk w → wl w + l.length ≤ wl (recsW a b l w)
  | [], _, _, _, _, w, _, _, _, _, _, _ => Nat.le_refl _
  | r :: l, f, s, a, b, w, hr, ha, hb, hf, hs, hw => by
    obtain ⟨h1, h2, h3⟩ := recsB_cons hr
    obtain ⟨c1, c2, c3, c4⟩ := next_ok h1 ha hb hf hs
    have g := recW_go h1 ha hb hw
    have := recsW_grow l _ _ _ _ _ h3 c1 c2 c3 c4 g.1
    have := recW_grow h1 a b hw
    show wl w + (l.length + 1) ≤ wl (recsW (nextA r a) (nextB r b) l (recW a b r w))
    omega
theorem takeRecs_back {l : List Rec} {f s kind : Int} (h : rightRecs f s l kind = true) (S t : List UInt8) :
    takeRecsX ((recsT f.toNat s.toNat l S).1 ++ t) ((8 * S.length : Nat) : Int) f s kind = (l, ((recsT f.toNat s.toNat l S).1 ++ t, ((8 * (recsT f.toNat s.toNat l S).1.length : Nat) : Int), 0)) := by
  obtain ⟨⟨f0, f1⟩, ⟨s0, s1⟩, _, h5, hr⟩ := rightRecs_r h
  obtain ⟨m, rfl⟩ := Int.eq_ofNat_of_zero_le f0
  obtain ⟨n, rfl⟩ := Int.eq_ofNat_of_zero_le s0
  simp only [Int.toNat_natCast]
  have bm := blen15 (n := m) (by omega)
  have bn := blen15 (n := n) (by omega)
  have g := headW_go m n S
  have fm : (m : Int) < 2 ^ blen m := by exact_mod_cast blen_lt m
  have fn : (n : Int) < 2 ^ blen n := by exact_mod_cast blen_lt n
  have g2 := recsW_go l _ _ _ _ _ hr bm bn fm fn g.1
  have g3 := putN_go 0 6 g2.1
  have hT : recsT m n l S = putN 0 6 (recsW (blen m) (blen n) l (headW m n S)) := rfl
  generalize hX : recsT m n l S = X at *
  have eX : WExt X (X.1 ++ t, 0) := append_ext X.1 t X.2
  generalize hW : ((X.1 ++ t, 0) : Wt) = W at *
  have hW1 : X.1 ++ t = W.1 := by rw [← hW]
  rw [hW1]
  have eR : WExt (putN 0 6 (recsW (blen m) (blen n) l (headW m n S))) W := by rw [← hT]; exact eX
  have eH : WExt (headW m n S) W := g2.2.1.trans (ext_go g2.1 eR)
  have eS : WExt (S, 0) W := g.2.1.trans eH
  have h1 := ok_go (blen m) 4 (ok_zero S)
  have eH' : WExt (putN (blen n) 4 (putN (blen m) 4 (S, 0))) W := eH
  have q1 := plB (ok_zero S) (v := blen m) (n := 4) (by decide) (by show blen m < 16; omega) (ext_go h1 eH') rfl m n 0 0 []
  have q2 := plB h1 (v := blen n) (n := 4) (by decide) (by show blen n < 16; omega) eH' rfl m n 0 0 []
  rw [show ((4 : Nat) : Int) = 4 from rfl] at q1 q2
  have st : startR (beginP W.1 ((8 * S.length : Nat) : Int)) m n = stB W (headW m n S) m n (blen m : Nat) (blen n : Nat) [] := by
    rw [begin_back eS]
    unfold startR
    dsimp only
    rw [show ({ σ := rat W (S, 0), fs := (m : Int), ss := (n : Int), a := 0, b := 0, l := [] } : RS) = stB W (S, 0) m n 0 0 [] from rfl, q1]
    dsimp only
    rw [q2]
    rfl
  have gr := recsW_grow l _ _ _ _ _ hr bm bn fm fn g.1
  have hle : wl (recsW (blen m) (blen n) l (headW m n S)) ≤ 8 * W.1.length := Nat.le_trans (ext_go g2.1 eR).1 (wl_le (w := W))
  obtain ⟨f', s', a', b', e⟩ := recs_back (W := W) l [] m n (blen m) (blen n) (headW m n S) (8 * W.1.length + 1) hr (by omega) (by omega) bm bn fm fn g.1 eR (by simpa using h5) (by omega)
  unfold takeRecsX
  rw [st, e]
  have al := align_wl g3.1 eR.1
  unfold finX
  rw [if_neg (by simp [stB, rat])]
  show (l, W.1, alignF W.1 ((wl (putN 0 6 (recsW (blen m) (blen n) l (headW m n S))) : Nat) : Int), (0 : Int)) = _
  rw [al, hT]
end Go.AI
set_option linter.unusedVariables false
set_option linter.unusedSimpArgs false
set_option maxRecDepth 100000
namespace Go.AI
open Go Go.Proofs

theorem blen_half {n : Nat} (h : 0 < n) : blen n = blen (n / 2) + 1 := by
  by_cases h2 : 2 ≤ n
  · have := blen_shift (n := n) (s := 1) (by show 2 ≤ n; exact h2)
    rw [Nat.pow_one] at this; omega
  · obtain rfl : n = 1 := by omega
    rfl
theorem qplain_loop : ∀ (b n w : Nat), blen n ≤ b → n ≤ 1000000 → w + b ≤ 1000000 → rW f_q106 [] at_q88 (S_q88 (n : Nat) (w : Nat)) = some ([.i ((w + blen n : Nat) : Int)], []) := by
  intro b
  induction b with
  | zero =>
    intro n w hb hn hw
    have : n = 0 := by
      by_cases h : 0 < n
      · have := blen_half h; omega
      · omega
    subst this
    rw [w_q88]; rfl
  | succ b ih =>
    intro n w hb hn hw
    rw [w_q88]
    by_cases h : 0 < n
    · have e := blen_half h
      rw [decide_eq_true (by omega : ((n : Nat) : Int) > 0), cond_true]
      rw [show Int.tdiv (n : Int) 2 = ((n / 2 : Nat) : Int) from rfl, wrap64 (by omega) (by omega), wrap64 (by omega) (by omega)]
      rw [show ((w : Int) + 1) = ((w + 1 : Nat) : Int) by omega]
      rw [ih (n / 2) (w + 1) (by omega) (by omega) (by omega), e]
      congr 4; omega
    · obtain rfl : n = 0 := by omega
      rfl
theorem qplain_c {n : Nat} (hn : n ≤ 1000000) : cW f_q106 [.i (n : Int)] [] = some ([.i ((blen n : Nat) : Int)], []) := by
  have hb : blen n ≤ 20 := blen_le.2 (by show n < 1048576; omega)
  have := qplain_loop 20 n 0 hb hn (by omega)
  rw [w_q106, show (0 : Int) = ((0 : Nat) : Int) from rfl, this, Nat.zero_add]
def bitsW (n : Nat) : List Int → Wt → Wt
  | [], w => w
  | v :: l, w => bitsW n l (putN v.toNat n w)
theorem bits_loop {l : List Int} {n : Nat} (hn : n ≤ 31) (hv : ∀ v, v ∈ l → 0 ≤ v ∧ v < 2 ^ n) (hll : l.length ≤ 100) (o1 : List UInt8) (o2 : Int) : ∀ (rest pre : List Int) (w : Wt), l = pre ++ rest → WOk w → w.1.length + 31 * rest.length ≤ 500000000 →
    rW f_q16 [] at_q94 (S_q94 (l.map intE) n pre.length w.1 (w.2 : Nat) o1 o2) = some ([.s (bitsW n rest w).1, .i (((bitsW n rest w).2 : Nat) : Int)], [])
  | [], pre, w, h, hw, hl => by
    rw [w_q94]; simp only [el_end h, zcf]; rfl
  | v :: rest, pre, w, h, hw, hl => by
    obtain ⟨h1, h2, h3, h4, h5⟩ := el_step intE h (Nat.le_trans hll (by decide))
    obtain ⟨v0, v1⟩ := hv v (by rw [h]; simp)
    obtain ⟨m, rfl⟩ := Int.eq_ofNat_of_zero_le v0
    have hp : 2 ^ n ≤ 2 ^ 31 := Nat.pow_le_pow_right (by decide) hn
    have hp : 2 ^ n ≤ 2147483648 := hp
    have v1 : m < 2 ^ n := by exact_mod_cast v1
    have g := putN_go m n hw
    have gl := g.2.2
    simp only [List.length_cons] at hl
    have e := (rputPlain_ans (s := w.1) (by omega) (w.2 : Nat) m n (by omega)).c
    unfold rputPlainF at e
    rw [putPlain_ok hw hn v1] at e
    rw [w_q94]
    simp only [h1, h2, h3, h4, intE, e, zcf]
    exact bits_loop hn hv hll o1 o2 rest _ _ h5 g.1 (by omega)
theorem bits_c {l : List Int} {n : Nat} (hn : n ≤ 31) (hv : ∀ v, v ∈ l → 0 ≤ v ∧ v < 2 ^ n) (hll : l.length ≤ 100) {w : Wt} (hw : WOk w) (hl : w.1.length + 31 * l.length ≤ 500000000) :
    cW f_q16 [.s w.1, .i ((w.2 : Nat) : Int), .l (l.map intE), .i (n : Int)] [] = some ([.s (bitsW n l w).1, .i (((bitsW n l w).2 : Nat) : Int)], []) := by
  rw [w_q16]
  exact bits_loop hn hv hll [] 0 l [] w rfl hw hl
theorem bits1_c {v n : Nat} (hn : n ≤ 31) (hv : v < 2 ^ n) {w : Wt} (hw : WOk w) (hl : w.1.length ≤ 499000000) :
    cW f_q16 [.s w.1, .i ((w.2 : Nat) : Int), .l [[.i (v : Int)]], .i (n : Int)] [] = some ([.s (putN v n w).1, .i (((putN v n w).2 : Nat) : Int)], []) := by
  have := bits_c (l := [(v : Int)]) hn (fun u hu => by simp at hu; subst hu; exact ⟨by omega, by exact_mod_cast hv⟩) (by show (1 : Nat) ≤ 100; decide) hw (by show _ + 31 * 1 ≤ _; omega)
  exact this
theorem signs_loop {l : List Int} (hI : ∀ v, v ∈ l → I64 v) {n : Nat} (hn : n ≤ 31) (hv : ∀ v, v ∈ l → widthN v ≤ n) (hll : l.length ≤ 100) (o1 : List UInt8) (o2 : Int) : ∀ (rest pre : List Int) (w : Wt), l = pre ++ rest → WOk w → w.1.length + 31 * rest.length ≤ 500000000 →
    rW f_q96 [] at_q86 (S_q86 (l.map intE) n pre.length w.1 (w.2 : Nat) o1 o2) = some ([.s (numsW n rest w).1, .i (((numsW n rest w).2 : Nat) : Int)], [])
  | [], pre, w, h, hw, hl => by
    rw [w_q86]; simp only [el_end h, zcf]; rfl
  | v :: rest, pre, w, h, hw, hl => by
    obtain ⟨h1, h2, h3, h4, h5⟩ := el_step intE h (Nat.le_trans hll (by decide))
    have hm : v ∈ l := by rw [h]; simp
    have g := putN_go (signU v n).toNat n hw
    have gl := g.2.2
    simp only [List.length_cons] at hl
    have e := (rputSigned_ans (s := w.1) (by omega) (w.2 : Nat) v n (hI v hm)).c
    unfold rputSignedF at e
    rw [putSigned_ok hw hn (hv v hm)] at e
    rw [w_q86]
    simp only [h1, h2, h3, h4, intE, e, zcf]
    exact signs_loop hI hn hv hll o1 o2 rest _ _ h5 g.1 (by omega)
theorem signs_c {l : List Int} (hI : ∀ v, v ∈ l → I64 v) {n : Nat} (hn : n ≤ 31) (hv : ∀ v, v ∈ l → widthN v ≤ n) (hll : l.length ≤ 100) {w : Wt} (hw : WOk w) (hl : w.1.length + 31 * l.length ≤ 500000000) :
    cW f_q96 [.s w.1, .i ((w.2 : Nat) : Int), .l (l.map intE), .i (n : Int)] [] = some ([.s (numsW n l w).1, .i (((numsW n l w).2 : Nat) : Int)], []) := by
  rw [w_q96]
  exact signs_loop hI hn hv hll [] 0 l [] w rfl hw hl
def wideN : Nat → List Int → Nat
  | c, [] => c
  | c, v :: l => wideN (max c (widthN v)) l
theorem wide_loop {l : List Int} (hI : ∀ v, v ∈ l → I64 v) (hll : l.length ≤ 100) : ∀ (rest pre : List Int) (c : Nat), l = pre ++ rest →
    rW f_q110 [] at_q70 (S_q70 (l.map intE) (c : Nat) pre.length) = some ([.i ((wideN c rest : Nat) : Int)], [])
  | [], pre, c, h => by
    rw [w_q70]; simp only [el_end h, zcf]; rfl
  | v :: rest, pre, c, h => by
    obtain ⟨h1, h2, h3, h4, h5⟩ := el_step intE h (Nat.le_trans hll (by decide))
    have hm : v ∈ l := by rw [h]; simp
    rw [w_q70]
    simp only [h1, h2, h3, h4, intE, (rwidth_ans (hI v hm)).c, zcf]
    by_cases hc : ((widthN v : Nat) : Int) > ((c : Nat) : Int)
    · rw [decide_eq_true hc, cond_true]
      unfold wideN
      rw [show max c (widthN v) = widthN v by omega]
      exact wide_loop hI hll rest _ _ h5
    · rw [decide_eq_false hc, cond_false]
      unfold wideN
      rw [show max c (widthN v) = c by omega]
      exact wide_loop hI hll rest _ _ h5
theorem wide_c {l : List Int} (hI : ∀ v, v ∈ l → I64 v) (hll : l.length ≤ 100) (c : Nat) : cW f_q110 [.l (l.map intE), .i (c : Int)] [] = some ([.i ((wideN c l : Nat) : Int)], []) := by
  rw [w_q110]
  exact wide_loop hI hll l [] c rfl
theorem wide0_2 (x y : Int) : wideN 0 [x, y] = WL [x, y] := rfl
theorem wide2_2 (x y : Int) : wideN 2 [x, y] = edgeN [x, y] := by
  show max (max 2 (widthN x)) (widthN y) = max (max (max 0 (widthN x)) (widthN y)) 2
  omega
theorem wide2_4 (x y z u : Int) : wideN 2 [x, y, z, u] = edgeN [x, y, z, u] := by
  show max (max (max (max 2 (widthN x)) (widthN y)) (widthN z)) (widthN u) = max (max (max (max (max 0 (widthN x)) (widthN y)) (widthN z)) (widthN u)) 2
  omega
/-- bit by bit -/
theorem putN_bits6 (v : Nat) (w : Wt) (b5 b4 b3 b2 b1 b0 : Nat) (h5 : v / 32 % 2 = b5) (h4 : v / 16 % 2 = b4) (h3 : v / 8 % 2 = b3) (h2 : v / 4 % 2 = b2) (h1 : v / 2 % 2 = b1) (h0 : v % 2 = b0) :
    bitsW 1 [(b5 : Int), (b4 : Int), (b3 : Int), (b2 : Int), (b1 : Int), (b0 : Int)] w = putN v 6 w := by
  subst h5 h4 h3 h2 h1 h0
  have p : ∀ (b : Nat) (w : Wt), b < 2 → putN b 1 w = put1 w.1 w.2 b := by
    intro b w hb
    show put1 w.1 w.2 (b / 2 ^ 0 % 2) = _
    rw [Nat.pow_zero, Nat.div_one, Nat.mod_eq_of_lt hb]
  have m : ∀ x : Nat, x % 2 < 2 := fun x => Nat.mod_lt _ (by decide)
  simp only [bitsW, Int.toNat_natCast, p _ _ (m _)]
  show _ = put1 _ _ (v / 2 ^ 0 % 2)
  rw [Nat.pow_zero, Nat.div_one]
theorem putN_bits2 (v : Nat) (w : Wt) (b1 b0 : Nat) (h1 : v / 2 % 2 = b1) (h0 : v % 2 = b0) : bitsW 1 [(b1 : Int), (b0 : Int)] w = putN v 2 w := by
  subst h1 h0
  have p : ∀ (b : Nat) (w : Wt), b < 2 → putN b 1 w = put1 w.1 w.2 b := by
    intro b w hb
    show put1 w.1 w.2 (b / 2 ^ 0 % 2) = _
    rw [Nat.pow_zero, Nat.div_one, Nat.mod_eq_of_lt hb]
  have m : ∀ x : Nat, x % 2 < 2 := fun x => Nat.mod_lt _ (by decide)
  simp only [bitsW, Int.toNat_natCast, p _ _ (m _)]
  show _ = put1 _ _ (v / 2 ^ 0 % 2)
  rw [Nat.pow_zero, Nat.div_one]
theorem qset_step {a b : Int} {x y z : Int} (i : Nat) (hi : i < 3) (pre : List Int) (hp : pre.length ≤ 100) (s : List UInt8) (fr : Int) (y1 y2 y3 y4 y5 y6 y7 y8 : Int) (f g : List (List PV)) (o1 : List UInt8) (o2 : Int) :
    rW f_q108 [] at_q36 (S_q36 a b 3 (i : Nat) (pre.map intE) ([x, y, z].map intE) s fr y1 y2 y3 y4 y5 y6 y7 y8 f g o1 o2) =
    rW f_q108 [] at_q36 (S_q36 a b 3 ((i + 1 : Nat) : Int) ((pre ++ [if [x, y, z].getD i 0 < 0 then 0 else 1]).map intE) ([x, y, z].map intE) s fr y1 y2 y3 y4 y5 y6 y7 y8 f g o1 o2) := by
  rw [w_q36]
  have h1 : decide (((i : Nat) : Int) < 3) = true := decide_eq_true (by omega)
  have h2 : inB ((i : Nat) : Int) 3 = true := by unfold inB; simp; omega
  have h4 : IntKind.wrap .i64 (((i : Nat) : Int) + 1) = ((i + 1 : Nat) : Int) := by rw [wrap64 (by omega) (by omega)]; omega
  have h5 : elemAt ([x, y, z].map intE) ((i : Nat) : Int) = intE ([x, y, z].getD i 0) := by
    have : i = 0 ∨ i = 1 ∨ i = 2 := by omega
    rcases this with rfl | rfl | rfl <;> rfl
  have h6 : decide ((pre.length + 1 + 1000) * 9 ≤ 1099511627776) = true := decide_eq_true (by omega)
  simp only [zq7, List.length_cons, List.length_nil, h1, show 0 + 1 + 1 + 1 = 3 from rfl, h2, h4, h5, h6, intE, zcf]
  by_cases hc : [x, y, z].getD i 0 < 0
  · rw [decide_eq_true hc, if_pos hc, cond_true, List.map_append]; rfl
  · rw [decide_eq_false hc, if_neg hc, cond_false, List.map_append]; rfl
end Go.AI
set_option linter.unusedVariables false
set_option linter.unusedSimpArgs false
set_option maxRecDepth 100000
namespace Go.AI
open Go Go.Proofs

theorem bits1I_c {v : Int} {n : Nat} (hn : n ≤ 31) (v0 : 0 ≤ v) (hv : v < 2 ^ n) {w : Wt} (hw : WOk w) (hl : w.1.length ≤ 499000000) :
    cW f_q16 [.s w.1, .i ((w.2 : Nat) : Int), .l (List.set [[.i 0]] 0 [.i v]), .i (n : Int)] [] = some ([.s (putN v.toNat n w).1, .i (((putN v.toNat n w).2 : Nat) : Int)], []) := by
  obtain ⟨m, rfl⟩ := Int.eq_ofNat_of_zero_le v0
  exact bits1_c hn (by exact_mod_cast hv) hw hl
theorem qset_c {r : Rec} {f s : Int} (h : recB r f s = true) (k : r.kind = 2) {a b : Nat} (ha : a ≤ 4) (hb : b ≤ 4) (hf : f < 2 ^ a) (hs : s < 2 ^ b) {w : Wt} (hw : WOk w) (hl : w.1.length ≤ 498000000) :
    cW f_q108 ([.s w.1, .i ((w.2 : Nat) : Int)] ++ (r.e ++ [.i (a : Int), .i (b : Int)])) [] = some ([.s (setW a b r w).1, .i (((setW a b r w).2 : Nat) : Int)], []) := by
  obtain ⟨_, _, h1, h2, h3⟩ := recB_set h k
  have g1 := putN_go (flagsR r) 6 hw
  have g2 := optP_go r.left a g1.1
  have g3 := optP_go r.right a g2.1
  have l1 := g1.2.2; have l2 := g2.2.2; have l3 := g3.2.2
  simp only [Rec.e, List.cons_append, List.nil_append]
  rw [w_q108]
  rw [show List.set (List.set (List.set [[PV.i 0], [PV.i 0], [PV.i 0]] 0 [PV.i r.line]) 1 [PV.i r.right]) 2 [PV.i r.left] = [r.line, r.right, r.left].map intE from rfl]
  rw [show ((([r.line, r.right, r.left].map intE).length : Nat) : Int) = 3 from rfl]
  rw [show [[PV.i 0], [PV.i 0]] = ([0, 0] : List Int).map intE from rfl]
  rw [show rW f_q108 [] at_q36 (S_q36 (a : Int) (b : Int) 3 0 (([0, 0] : List Int).map intE) ([r.line, r.right, r.left].map intE) w.1 ((w.2 : Nat) : Int) r.kind r.x r.y r.cx r.cy r.left r.right r.line (r.fills.map Fill.e) (r.strks.map Strk.e) [] 0) =
    rW f_q108 [] at_q36 (S_q36 (a : Int) (b : Int) 3 ((0 : Nat) : Int) (([0, 0] : List Int).map intE) ([r.line, r.right, r.left].map intE) w.1 ((w.2 : Nat) : Int) r.kind r.x r.y r.cx r.cy r.left r.right r.line (r.fills.map Fill.e) (r.strks.map Strk.e) [] 0) from rfl]
  rw [qset_step 0 (by omega) _ (by decide), qset_step (0 + 1) (by omega) _ (by simp), qset_step (0 + 1 + 1) (by omega) _ (by simp)]
  rw [w_q36]
  rw [show decide ((((0 + 1 + 1 + 1 : Nat)) : Int) < 3) = false by decide, cond_false]
  rw [show ([r.line, r.right, r.left].getD 0 0) = r.line from rfl, show ([r.line, r.right, r.left].getD (0 + 1) 0) = r.right from rfl, show ([r.line, r.right, r.left].getD (0 + 1 + 1) 0) = r.left from rfl]
  have eb : ∀ x y z : Int, (((([0, 0] : List Int) ++ [if z < 0 then 0 else 1]) ++ [if y < 0 then 0 else 1]) ++ [if x < 0 then 0 else 1]).map intE ++ [[PV.i 0]] = ([0, 0, (if z < 0 then 0 else 1), (if y < 0 then 0 else 1), (if x < 0 then 0 else 1), 0] : List Int).map intE := by
    intro x y z; simp [intE]
  have elen : ∀ l : List Int, l.length = 5 → decide (((l.map intE).length + 1 + 1000) * 9 ≤ 1099511627776) = true := fun l hl => decide_eq_true (by rw [List.length_map, hl]; decide)
  rw [elen _ (by simp), cond_true, eb]
  have e1 := bits_c (l := [0, 0, (if r.line < 0 then 0 else 1), (if r.right < 0 then 0 else 1), (if r.left < 0 then 0 else 1), 0]) (n := 1) (by decide) (fun v hv => by
    have : v = 0 ∨ v = 1 := by
      simp only [List.mem_cons, List.not_mem_nil, or_false] at hv
      rcases hv with rfl | rfl | rfl | rfl | rfl | rfl
      · exact .inl rfl
      · exact .inl rfl
      · split <;> simp
      · split <;> simp
      · split <;> simp
      · exact .inl rfl
    rcases this with rfl | rfl <;> decide) (by show (6 : Nat) ≤ 100; decide) hw (by show _ + 31 * 6 ≤ _; omega)
  have ew : bitsW 1 [0, 0, (if r.line < 0 then 0 else 1), (if r.right < 0 then 0 else 1), (if r.left < 0 then 0 else 1), 0] w = putN (flagsR r) 6 w := by
    have hb6 := putN_bits6 (flagsR r) w 0 0 (if r.line < 0 then 0 else 1) (if r.right < 0 then 0 else 1) (if r.left < 0 then 0 else 1) 0
    have c : ∀ v : Int, (((if v < 0 then 0 else 1 : Nat)) : Int) = if v < 0 then 0 else 1 := fun v => by split <;> rfl
    rw [c, c, c] at hb6
    refine hb6 ?_ ?_ ?_ ?_ ?_ ?_ <;> unfold flagsR <;> (by_cases q1 : r.left ≥ 0 <;> by_cases q2 : r.right ≥ 0 <;> by_cases q3 : r.line ≥ 0 <;> simp [q1, q2, q3, show ∀ v : Int, (v < 0) = ¬ (v ≥ 0) from fun v => by simp])
  rw [show ((1 : Nat) : Int) = 1 from rfl, ew] at e1
  rw [e1]
  simp only [zcf]
  unfold setW
  have o : ∀ (v : Int) (n : Nat) (w : Wt), (v ≥ 0 → optP v n w = putN v.toNat n w) ∧ (¬ v ≥ 0 → optP v n w = w) := fun v n w => ⟨fun h => by unfold optP; rw [if_pos h], fun h => by unfold optP; rw [if_neg h]⟩
  by_cases q1 : r.left ≥ 0
  · have e2 := bits1I_c (v := r.left) (n := a) (by omega) q1 (by omega) g1.1 (by omega)
    rw [decide_eq_true q1, cond_true, e2]
    rw [(o r.left a _).1 q1] at g2 l2 g3 l3 ⊢
    simp only [zcf]
    by_cases q2 : r.right ≥ 0
    · have e3 := bits1I_c (v := r.right) (n := a) (by omega) q2 (by omega) g2.1 (by omega)
      rw [decide_eq_true q2, cond_true, e3]
      rw [(o r.right a _).1 q2] at g3 l3 ⊢
      simp only [zcf]
      by_cases q3 : r.line ≥ 0
      · have e4 := bits1I_c (v := r.line) (n := b) (by omega) q3 (by omega) g3.1 (by omega)
        rw [decide_eq_true q3, cond_true, e4, (o r.line b _).1 q3]; rfl
      · rw [decide_eq_false q3, cond_false, (o r.line b _).2 q3]
    · rw [decide_eq_false q2, cond_false]
      rw [(o r.right a _).2 q2] at g3 l3 ⊢
      by_cases q3 : r.line ≥ 0
      · have e4 := bits1I_c (v := r.line) (n := b) (by omega) q3 (by omega) g3.1 (by omega)
        rw [decide_eq_true q3, cond_true, e4, (o r.line b _).1 q3]; rfl
      · rw [decide_eq_false q3, cond_false, (o r.line b _).2 q3]
  · rw [decide_eq_false q1, cond_false]
    rw [(o r.left a _).2 q1] at g2 l2 g3 l3 ⊢
    by_cases q2 : r.right ≥ 0
    · have e3 := bits1I_c (v := r.right) (n := a) (by omega) q2 (by omega) g2.1 (by omega)
      rw [decide_eq_true q2, cond_true, e3]
      rw [(o r.right a _).1 q2] at g3 l3 ⊢
      simp only [zcf]
      by_cases q3 : r.line ≥ 0
      · have e4 := bits1I_c (v := r.line) (n := b) (by omega) q3 (by omega) g3.1 (by omega)
        rw [decide_eq_true q3, cond_true, e4, (o r.line b _).1 q3]; rfl
      · rw [decide_eq_false q3, cond_false, (o r.line b _).2 q3]
    · rw [decide_eq_false q2, cond_false]
      rw [(o r.right a _).2 q2] at g3 l3 ⊢
      by_cases q3 : r.line ≥ 0
      · have e4 := bits1I_c (v := r.line) (n := b) (by omega) q3 (by omega) g3.1 (by omega)
        rw [decide_eq_true q3, cond_true, e4, (o r.line b _).1 q3]; rfl
      · rw [decide_eq_false q3, cond_false, (o r.line b _).2 q3]
end Go.AI
set_option linter.unusedVariables false
set_option linter.unusedSimpArgs false
set_option maxRecDepth 100000
namespace Go.AI
open Go Go.Proofs

theorem bitsAB_c {m n : Nat} (hm : m < 16) (hn : n < 16) {w : Wt} (hw : WOk w) (hl : w.1.length ≤ 498000000) :
    cW f_q16 [.s w.1, .i ((w.2 : Nat) : Int), .l (List.set (List.set [[.i 0], [.i 0]] 0 [.i (m : Int)]) 1 [.i (n : Int)]), .i 4] [] = some ([.s (putN n 4 (putN m 4 w)).1, .i (((putN n 4 (putN m 4 w)).2 : Nat) : Int)], []) := by
  have e := bits_c (l := [(m : Int), (n : Int)]) (n := 4) (by decide) (fun v hv => by simp at hv; rcases hv with rfl | rfl <;> exact ⟨by omega, by show _ < (16 : Int); omega⟩) (by show (2 : Nat) ≤ 100; decide) hw (by show _ + 31 * 2 ≤ _; omega)
  exact e
theorem bitsL_c (v n : Nat) (hn : n ≤ 31) (hv : v < 2 ^ n) {w : Wt} (hw : WOk w) (hl : w.1.length ≤ 499000000) (V N : Int) (hV : V = (v : Int)) (hN : N = (n : Int)) :
    cW f_q16 [.s w.1, .i ((w.2 : Nat) : Int), .l [[.i V]], .i N] [] = some ([.s (putN v n w).1, .i (((putN v n w).2 : Nat) : Int)], []) := by
  subst hV hN; exact bits1_c hn hv hw hl
theorem bitsS_c (v n : Nat) (hn : n ≤ 31) (hv : v < 2 ^ n) {w : Wt} (hw : WOk w) (hl : w.1.length ≤ 499000000) (V N : Int) (hV : V = (v : Int)) (hN : N = (n : Int)) :
    cW f_q16 [.s w.1, .i ((w.2 : Nat) : Int), .l (List.set [[.i 0]] 0 [.i V]), .i N] [] = some ([.s (putN v n w).1, .i (((putN v n w).2 : Nat) : Int)], []) := by
  subst hV hN; exact bits1_c hn hv hw hl
theorem bits01_c {w : Wt} (hw : WOk w) (hl : w.1.length ≤ 499000000) (v : Nat) (b1 b0 : Nat) (h1 : v / 2 % 2 = b1) (h0 : v % 2 = b0) (B1 B0 : Int) (e1 : B1 = (b1 : Int)) (e0 : B0 = (b0 : Int)) :
    cW f_q16 [.s w.1, .i ((w.2 : Nat) : Int), .l [[.i B1], [.i B0]], .i 1] [] = some ([.s (putN v 2 w).1, .i (((putN v 2 w).2 : Nat) : Int)], []) := by
  subst e1 e0
  have a1 : b1 < 2 := by rw [← h1]; exact Nat.mod_lt _ (by decide)
  have a0 : b0 < 2 := by rw [← h0]; exact Nat.mod_lt _ (by decide)
  have e := bits_c (l := [(b1 : Int), (b0 : Int)]) (n := 1) (by decide) (fun v hv => by simp at hv; rcases hv with rfl | rfl <;> exact ⟨by omega, by show _ < (2 : Int); omega⟩) (by show (2 : Nat) ≤ 100; decide) hw (by show _ + 31 * 2 ≤ _; omega)
  rw [putN_bits2 v w b1 b0 h1 h0] at e
  exact e
theorem qrec_step {l pre rest : List Rec} (hl : l.length ≤ 512) {r : Rec} (h : l = pre ++ r :: rest) {f s : Int} (hr : recB r f s = true) {a b : Nat} (ha : a ≤ 4) (hb : b ≤ 4) (hf : f < 2 ^ a) (hs : s < 2 ^ b) {w : Wt} (hw : WOk w) (hlen : w.1.length ≤ 380000000) :
    rW f_q31 [] at_q8 (S_q8 (l.map Rec.e) (a : Nat) (b : Nat) pre.length w.1 (w.2 : Nat)) =
    rW f_q31 [] at_q8 (S_q8 (l.map Rec.e) (nextA r a : Nat) (nextB r b : Nat) (pre ++ [r]).length (recW a b r w).1 ((recW a b r w).2 : Nat)) := by
  obtain ⟨h1, h2, h3, h4, h5⟩ := el_step Rec.e h (Nat.le_trans hl (by decide))
  rw [w_q8]
  simp only [h1, h2, h3, h4, Rec.e, zcf]
  unfold recW
  rcases recB_kind hr with k | k | k | k | k
  · obtain ⟨_, hx, hy⟩ := recB_move hr k
    have hI := two_mem (P := I64) (i64_coord hx) (i64_coord hy)
    have hwl := WL2 (wl_coord hx) (wl_coord hy)
    have g1 := putN_go 1 6 hw
    have g2 := putN_go (WL [r.x, r.y]) 5 g1.1
    have l1 := g1.2.2; have l2 := g2.2.2
    have e0 := wide_c (l := [r.x, r.y]) hI (by decide : 2 ≤ 100) 0
    rw [wide0_2, show ((0 : Nat) : Int) = 0 from rfl] at e0
    have e1 := bitsL_c 1 6 (by decide) (by decide) hw (by omega) 1 6 rfl rfl
    have e2 := bitsS_c (WL [r.x, r.y]) 5 (by decide) (by show _ < 32; omega) g1.1 (by omega) _ 5 rfl rfl
    have e3 := signs_c (l := [r.x, r.y]) hI (n := WL [r.x, r.y]) (by omega) (fun v hv => WL_ge hv) (by decide : 2 ≤ 100) g2.1 (by show _ + 31 * 2 ≤ _; omega)
    rw [nextA_ne (by omega), nextB_ne (by omega), k]
    simp only [show ((1 : Int) == 1) = true from rfl, pair_row, e0, e1, e2, e3, zcf]
    rfl
  · have e := qset_c hr k ha hb hf hs hw (by omega)
    rw [nextA_ne (by omega), nextB_ne (by omega)]
    simp only [Rec.e, List.cons_append, List.nil_append] at e
    rw [k] at e ⊢
    simp only [show ((2 : Int) == 1) = false from rfl, show ((2 : Int) == 2) = true from rfl, e, zcf]
  · obtain ⟨_, hb'⟩ := recB_fresh hr k
    obtain ⟨n1, n2, _, _⟩ := listsB_r hb'
    have ll := listsS_le hb'
    have g1 := putN_go 16 6 hw
    have l1 := g1.2.2
    have b1 := blen15 n1
    have b2 := blen15 n2
    have e1 := bitsL_c 16 6 (by decide) (by decide) hw (by omega) 16 6 rfl rfl
    have e2 := qPut_c hb' (s := (putN 16 6 w).1) (by omega)
    have e3 := bitsAB_c (m := blen r.fills.length) (n := blen r.strks.length) (by omega) (by omega) (w := ((putN 16 6 w).1 ++ listsS r.fills r.strks, 0)) (ok_zero _) (by simp; omega)
    have na : nextA r a = blen r.fills.length := by unfold nextA; rw [k]; rfl
    have nb : nextB r b = blen r.strks.length := by unfold nextB; rw [k]; rfl
    rw [na, nb, k]
    dsimp only at e3
    rw [show (((0 : Nat)) : Int) = 0 from rfl] at e3
    simp only [show ((3 : Int) == 1) = false from rfl, show ((3 : Int) == 2) = false from rfl, show ((3 : Int) == 3) = true from rfl, e1, qplain_c (n := r.fills.length) (by omega), qplain_c (n := r.strks.length) (by omega), e2, e3, zcf]
    rfl
  · obtain ⟨_, hx, hy⟩ := recB_line hr k
    have hI := two_mem (P := I64) (i64_edge hx) (i64_edge hy)
    have hwl := WL2 (wl_edge hx) (wl_edge hy)
    obtain ⟨es, _⟩ := edge_sub hwl
    have n2 : 2 ≤ edgeN [r.x, r.y] ∧ edgeN [r.x, r.y] ≤ 17 := by unfold edgeN; omega
    have hv : ∀ v, v ∈ [r.x, r.y] → widthN v ≤ edgeN [r.x, r.y] := fun v hv => Nat.le_trans (WL_ge hv) (by unfold edgeN; omega)
    have g1 := putN_go 3 2 hw
    have g2 := putN_go (edgeN [r.x, r.y] - 2) 4 g1.1
    have l1 := g1.2.2; have l2 := g2.2.2
    have e0 := wide_c (l := [r.x, r.y]) hI (by decide : 2 ≤ 100) 2
    rw [wide2_2, show ((2 : Nat) : Int) = 2 from rfl] at e0
    have e1 := bitsL_c 3 2 (by decide) (by decide) hw (by omega) 3 2 rfl rfl
    have e2 := bitsS_c (edgeN [r.x, r.y] - 2) 4 (by decide) (by show _ < 16; omega) g1.1 (by omega) _ 4 rfl rfl
    have g3 := putN_go 1 2 g2.1
    have g4 := putN_go 0 2 g2.1
    have g5 := putN_go 1 1 g2.1
    have l3 := g3.2.2; have l4 := g4.2.2; have l5 := g5.2.2
    have e3 := bits01_c g2.1 (by omega) 1 0 1 rfl rfl 0 1 rfl rfl
    have e4 := bits01_c g2.1 (by omega) 0 0 0 rfl rfl 0 0 rfl rfl
    have e5 := bitsL_c 1 1 (by decide) (by decide) g2.1 (by omega) 1 1 rfl rfl
    have e6 := signs_c (l := [r.y]) (fun v hv => hI v (by simp at hv; simp [hv])) (n := edgeN [r.x, r.y]) (by omega) (fun v hv' => hv v (by simp at hv'; simp [hv'])) (by decide : 1 ≤ 100) g3.1 (by show _ + 31 * 1 ≤ _; omega)
    have e7 := signs_c (l := [r.x]) (fun v hv => hI v (by simp at hv; simp [hv])) (n := edgeN [r.x, r.y]) (by omega) (fun v hv' => hv v (by simp at hv'; simp [hv'])) (by decide : 1 ≤ 100) g4.1 (by show _ + 31 * 1 ≤ _; omega)
    have e8 := signs_c (l := [r.x, r.y]) hI (n := edgeN [r.x, r.y]) (by omega) hv (by decide : 2 ≤ 100) g5.1 (by show _ + 31 * 2 ≤ _; omega)
    rw [nextA_ne (by omega), nextB_ne (by omega), k]
    simp only [show ((4 : Int) == 1) = false from rfl, show ((4 : Int) == 2) = false from rfl, show ((4 : Int) == 3) = false from rfl, show ((4 : Int) == 4) = true from rfl, pair_row, e0, es, e1, e2, zcf]
    unfold lineW
    by_cases hx0 : r.x = 0
    · rw [show (r.x == 0) = true by simpa using hx0, if_pos hx0]
      simp only [e3, one_row, e6, zcf]
    · rw [show (r.x == 0) = false by simpa using hx0, if_neg hx0]
      by_cases hy0 : r.y = 0
      · rw [show (r.y == 0) = true by simpa using hy0, if_pos hy0]
        simp only [e4, one_row, e7, zcf]
      · rw [show (r.y == 0) = false by simpa using hy0, if_neg hy0]
        simp only [e5, e8, zcf]
  · obtain ⟨_, hx, hy, hcx, hcy⟩ := recB_curve hr k
    have hI := four_mem (P := I64) (i64_edge hcx) (i64_edge hcy) (i64_edge hx) (i64_edge hy)
    have hwl := WL4 (wl_edge hcx) (wl_edge hcy) (wl_edge hx) (wl_edge hy)
    obtain ⟨es, _⟩ := edge_sub hwl
    have n2 : 2 ≤ edgeN [r.cx, r.cy, r.x, r.y] ∧ edgeN [r.cx, r.cy, r.x, r.y] ≤ 17 := by unfold edgeN; omega
    have hv : ∀ v, v ∈ [r.cx, r.cy, r.x, r.y] → widthN v ≤ edgeN [r.cx, r.cy, r.x, r.y] := fun v hv => Nat.le_trans (WL_ge hv) (by unfold edgeN; omega)
    have g1 := putN_go 2 2 hw
    have g2 := putN_go (edgeN [r.cx, r.cy, r.x, r.y] - 2) 4 g1.1
    have l1 := g1.2.2; have l2 := g2.2.2
    have e0 := wide_c (l := [r.cx, r.cy, r.x, r.y]) hI (by decide : 4 ≤ 100) 2
    rw [wide2_4, show ((2 : Nat) : Int) = 2 from rfl] at e0
    have e1 := bitsL_c 2 2 (by decide) (by decide) hw (by omega) 2 2 rfl rfl
    have e2 := bitsS_c (edgeN [r.cx, r.cy, r.x, r.y] - 2) 4 (by decide) (by show _ < 16; omega) g1.1 (by omega) _ 4 rfl rfl
    have e3 := signs_c (l := [r.cx, r.cy, r.x, r.y]) hI (n := edgeN [r.cx, r.cy, r.x, r.y]) (by omega) hv (by decide : 4 ≤ 100) g2.1 (by show _ + 31 * 4 ≤ _; omega)
    rw [nextA_ne (by omega), nextB_ne (by omega), k]
    simp only [show ((5 : Int) == 1) = false from rfl, show ((5 : Int) == 2) = false from rfl, show ((5 : Int) == 3) = false from rfl, show ((5 : Int) == 4) = false from rfl, show ((5 : Int) == 5) = true from rfl, quad_row, e0, es, e1, e2, e3, zcf]
    rfl
theorem qPutRecs_loop {l : List Rec} (hl : l.length ≤ 512) {kind : Int} : ∀ (rest pre : List Rec) (f s : Int) (a b : Nat) (w : Wt), l = pre ++ rest → recsB f s rest kind = true → a ≤ 4 → b ≤ 4 → f < 2 ^ a → s < 2 ^ b → WOk w → w.1.length + 9000 * rest.length ≤ 380000000 →
    rW f_q31 [] at_q8 (S_q8 (l.map Rec.e) (a : Nat) (b : Nat) pre.length w.1 (w.2 : Nat)) = some ([.s (putN 0 6 (recsW a b rest w)).1], [])
  | [], pre, f, s, a, b, w, h, hr, ha, hb, hf, hs, hw, hlen => by
    have e1 := bitsL_c 0 6 (by decide) (by decide) hw (by omega) 0 6 rfl rfl
    rw [w_q8]
    simp only [el_end h, e1, recsW, zcf]
  | r :: rest, pre, f, s, a, b, w, h, hr, ha, hb, hf, hs, hw, hlen => by
    obtain ⟨b1, _, b3⟩ := recsB_cons hr
    obtain ⟨c1, c2, c3, c4⟩ := next_ok b1 ha hb hf hs
    have g := recW_go b1 ha hb hw
    simp only [List.length_cons] at hlen
    rw [qrec_step hl h b1 ha hb hf hs hw (by omega)]
    exact qPutRecs_loop hl rest (pre ++ [r]) _ _ _ _ _ (by rw [h]; simp) b3 c1 c2 c3 c4 g.1 (by have := g.2.2; omega)
theorem qPutRecords_c {S : List UInt8} (hS : S.length ≤ 300000000) {l : List Rec} {f s kind : Int} (h : rightRecs f s l kind = true) : cW f_q31 [.s S, .i f, .i s, .l (l.map Rec.e)] [] = some ([.s (recsT f.toNat s.toNat l S).1], []) := by
  obtain ⟨⟨f0, f1⟩, ⟨s0, s1⟩, _, h5, hr⟩ := rightRecs_r h
  obtain ⟨m, rfl⟩ := Int.eq_ofNat_of_zero_le f0
  obtain ⟨n, rfl⟩ := Int.eq_ofNat_of_zero_le s0
  have b1 := blen15 (n := m) (by omega)
  have b2 := blen15 (n := n) (by omega)
  have e := bitsAB_c (m := blen m) (n := blen n) (by omega) (by omega) (w := (S, 0)) (ok_zero S) (by show S.length ≤ _; omega)
  dsimp only at e
  rw [show ((0 : Nat) : Int) = 0 from rfl] at e
  have g := headW_go m n S
  have gl := g.2.2
  have e2 := qPutRecs_loop h5 l [] m n (blen m) (blen n) (headW m n S) rfl hr b1 b2 (by exact_mod_cast blen_lt m) (by exact_mod_cast blen_lt n) g.1 (by dsimp only at gl; omega)
  rw [w_q31]
  simp only [qplain_c (n := m) (by omega), qplain_c (n := n) (by omega), e, Int.toNat_natCast, zcf]
  exact e2
end Go.AI
set_option linter.unusedVariables false
set_option linter.unusedSimpArgs false
set_option maxRecDepth 100000
namespace Go.AI
open Go Go.Proofs

def smallR (l : List Rec) : Bool := (l.take 600).all (fun r => smallB r.fills r.strks) && decide (l.length ≤ 600)
theorem small9_loop {l : List Rec} (hl : l.length ≤ 9223372036854775807) (hf : ∀ r, r ∈ l → r.fills.length ≤ 9223372036854775807) : ∀ (rest pre : List Rec), l = pre ++ rest → pre.length ≤ 600 →
    rW f_q125 [] at_q87 (S_q87 (l.map Rec.e) 600 pre.length) = some ([.b ((rest.take (600 - pre.length)).all (fun r => smallB r.fills r.strks) && decide (l.length ≤ 600))], [])
  | [], pre, h, hp => by
    rw [w_q87]
    simp only [el_end h, zcf]
    rw [show decide (((l.length : Nat) : Int) ≤ 600) = decide (l.length ≤ 600) by simp; omega]
    simp
  | x :: rest, pre, h, hp => by
    obtain ⟨h1, h2, h3, h4, h5⟩ := el_stepM Rec.e h hl
    have e := small_c (l := x.fills) (m := x.strks) (hf x (by rw [h]; simp))
    rw [w_q87]
    simp only [h1, h2, h3, h4, Rec.e, e, zcf]
    by_cases hx : pre.length < 600
    · rw [decide_eq_true (p := ((pre.length : Nat) : Int) < 600) (by omega)]
      rw [show 600 - pre.length = (600 - (pre ++ [x]).length) + 1 by simp; omega, List.take_succ_cons, List.all_cons]
      cases hsm : smallB x.fills x.strks with
      | true =>
        simp only [zq9, zbc, zcf]
        exact small9_loop hl hf rest _ h5 (by simp; omega)
      | false => simp only [zq11, zbc, zcf]
    · rw [decide_eq_false (p := ((pre.length : Nat) : Int) < 600) (by omega), show 600 - pre.length = 0 by omega]
      simp only [List.take_zero, List.all_nil, zbc, zcf]
      rw [show decide (((l.length : Nat) : Int) ≤ 600) = decide (l.length ≤ 600) by simp; omega]
theorem small9_c {l : List Rec} (hl : l.length ≤ 9223372036854775807) (hf : ∀ r, r ∈ l → r.fills.length ≤ 9223372036854775807) : cW f_q125 [.l (l.map Rec.e), .i 600] [] = some ([.b (smallR l)], []) := by
  rw [w_q125]
  exact small9_loop hl hf l [] rfl (by decide)
theorem smallR_r {l : List Rec} (h : smallR l = true) : l.length ≤ 600 ∧ Shs l := by
  unfold smallR at h
  simp only [Bool.and_eq_true, decide_eq_true_eq] at h
  refine ⟨h.2, fun r hr => ?_⟩
  have e := h.1
  rw [List.take_of_length_le h.2] at e
  obtain ⟨a, b, c⟩ := smallB_r (List.all_eq_true.1 e r hr)
  exact ⟨Nat.le_trans (Nat.le_of_lt b) (by decide), Nat.le_trans (Nat.le_of_lt c) (by decide), fun f hf => Nat.le_trans (a f hf) (by decide)⟩
end Go.AI
set_option linter.unusedVariables false
set_option linter.unusedSimpArgs false
set_option maxRecDepth 100000
namespace Go.AI
open Go Go.Proofs

theorem recsT_len {f s kind : Int} {l : List Rec} (h : rightRecs f s l kind = true) (S : List UInt8) : (recsT f.toNat s.toNat l S).1.length ≤ S.length + 9000 * 512 + 100 := by
  obtain ⟨⟨f0, f1⟩, ⟨s0, s1⟩, _, h5, hr⟩ := rightRecs_r h
  obtain ⟨m, rfl⟩ := Int.eq_ofNat_of_zero_le f0
  obtain ⟨n, rfl⟩ := Int.eq_ofNat_of_zero_le s0
  simp only [Int.toNat_natCast]
  have g := headW_go m n S
  have g2 := recsW_go l _ _ _ _ _ hr (blen15 (n := m) (by omega)) (blen15 (n := n) (by omega)) (by exact_mod_cast blen_lt m) (by exact_mod_cast blen_lt n) g.1
  have g3 := putN_go 0 6 g2.1
  have a1 := g.2.2
  have a2 := g2.2.2
  have a3 := g3.2.2
  dsimp only at a1
  show (putN 0 6 (recsW (blen m) (blen n) l (headW m n S))).1.length ≤ _
  omega
end Go.AI
set_option linter.unusedVariables false
set_option linter.unusedSimpArgs false
set_option maxRecDepth 100000
namespace Go.AI
open Go Go.Proofs

end Go.AI
set_option linter.unusedVariables false
set_option linter.unusedSimpArgs false
set_option maxRecDepth 100000
namespace Go.AI
open Go Go.Proofs

end Go.AI
