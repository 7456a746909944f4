/- Morphs: what is right. -/
import Derived.Test.YtbaajplajjfgcaaGreatU10
import Derived.Test.YtbaajplajjfgcaaGreatP09
import Derived.Test.YtbaajplajjfgcaaGreatP02
import Derived.Test.YtbaajplajjfgcaaGreatU01
import Derived.Test.YtbaajplajjfgcaaGreatW
import Derived.Test.YtbaajplajjfgcaaGreatP08
set_option linter.unusedVariables false
set_option linter.unusedSimpArgs false
set_option maxRecDepth 100000
namespace Go.AI
open Go Go.Proofs

structure Mor where
  id : Int
  fr : I4
  to : I4
  fills : List Fill
  tofl : List Fill
  strks : List Strk
  tost : List Strk
  recs : List Rec
  targ : List Rec
def Mor.e (m : Mor) : List PV := [.i m.id, .i m.fr.1, .i m.fr.2.1, .i m.fr.2.2.1, .i m.fr.2.2.2, .i m.to.1, .i m.to.2.1, .i m.to.2.2.1, .i m.to.2.2.2, .l (m.fills.map Fill.e), .l (m.tofl.map Fill.e), .l (m.strks.map Strk.e), .l (m.tost.map Strk.e), .l (m.recs.map Rec.e), .l (m.targ.map Rec.e)]
/-- short enough -/
structure Mor.sh (m : Mor) : Prop where
  f : m.fills.length ≤ 2 ^ 40
  tf : m.tofl.length ≤ 2 ^ 40
  ff : Shorts m.fills
  tff : Shorts m.tofl
  s : m.strks.length ≤ 2 ^ 40
  ts : m.tost.length ≤ 2 ^ 40
  r : m.recs.length ≤ 2 ^ 40
  t : m.targ.length ≤ 2 ^ 40
  rr : Shs m.recs
  tt : Shs m.targ
def pairB (a b : Fill) : Bool := (a.kind == b.kind) && ((a.spread == b.spread) && ((a.id == b.id) && (((a.stops.length : Nat) : Int) == ((b.stops.length : Nat) : Int))))
def pairsB : List Fill → List Fill → Bool
  | [], [] => true
  | a :: l, b :: m => pairB a b && pairsB l m
  | _, _ => false
def frB4 (c : I4) : Bool := rectB c.1 c.2.1 c.2.2.1 c.2.2.2
def right10 (m : Mor) : Bool := decide (m.id ≥ 0) && (decide (m.id < 65536) && (frB4 m.fr && (frB4 m.to && (listsB m.fills m.strks && (listsB m.tofl m.tost && (pairsB m.fills m.tofl && ((((m.strks.length : Nat) : Int) == ((m.tost.length : Nat) : Int)) && (rightRecs (m.fills.length : Nat) (m.strks.length : Nat) m.recs 1 && rightRecs 0 0 m.targ 2))))))))
theorem pair_c (a b : Fill) : cW f_morph_pair (a.e ++ b.e) [] = some ([.b (pairB a b)], []) := by
  simp only [Fill.e, List.cons_append, List.nil_append]
  rw [w_morph_pair]
  simp only [Option.bind_some, Option.bind_none, andB, orB, orB2, List.getD_cons_zero, List.getD_cons_succ, toB_b, toI_i, toS_s, toL_l, cond_true, cond_false, List.length_map]
  rfl
theorem pairs_loop {l m : List Fill} (hl : l.length ≤ 2 ^ 40) : ∀ (r r' p p' : List Fill), l = p ++ r → m = p' ++ r' → p.length = p'.length → r.length = r'.length →
    rW f_slices_EqualFunc___celluloid_api_Fill___celluloid_api_Fill_celluloid_api_Fill_celluloid_api_Fill_ [] at_slices_EqualFunc___celluloid_api_Fill___celluloid_api_Fill_celluloid_api_Fill_celluloid_api_Fill__L0 (S_slices_EqualFunc___celluloid_api_Fill___celluloid_api_Fill_celluloid_api_Fill_celluloid_api_Fill__L0 (m.map Fill.e) (l.map Fill.e) l.length p.length) = some ([.b (pairsB r r')], [])
  | [], [], p, p', h, h', hp, hr => by
    rw [w_slices_EqualFunc___celluloid_api_Fill___celluloid_api_Fill_celluloid_api_Fill_celluloid_api_Fill__L0]; simp only [el_end h, Option.bind_some, Option.bind_none, andB, orB, orB2, List.getD_cons_zero, List.getD_cons_succ, toB_b, toI_i, toS_s, toL_l, cond_true, cond_false, List.length_map]; rfl
  | [], y :: r', p, p', h, h', hp, hr => by simp at hr
  | x :: r, [], p, p', h, h', hp, hr => by simp at hr
  | x :: r, y :: r', p, p', h, h', hp, hr => by
    have hm : m.length ≤ 2 ^ 40 := by rw [h']; rw [h] at hl; simp at hl hr ⊢; omega
    obtain ⟨h1, h2, h3, h4, h5⟩ := el_step Fill.e h hl
    obtain ⟨_, k2, k3, _, k5⟩ := el_step Fill.e h' hm
    rw [← hp] at k2 k3
    have e := pair_c x y
    simp only [Fill.e, List.cons_append, List.nil_append] at e
    rw [w_slices_EqualFunc___celluloid_api_Fill___celluloid_api_Fill_celluloid_api_Fill_celluloid_api_Fill__L0]
    simp only [h1, h2, h3, h4, k2, k3, Fill.e, e, pairsB, Option.bind_some, Option.bind_none, andB, orB, orB2, List.getD_cons_zero, List.getD_cons_succ, toB_b, toI_i, toS_s, toL_l, cond_true, cond_false, List.length_map]
    cases pairB x y with
    | false => simp only [Bool.not_false, cond_true, Bool.false_and]
    | true =>
      rw [Bool.not_true, cond_false, Bool.true_and]
      exact pairs_loop hl r r' _ _ h5 k5 (by simp [hp]) (by simpa using hr)
theorem pairsB_len : ∀ {l m : List Fill}, pairsB l m = true → l.length = m.length
  | [], [], _ => rfl
  | a :: l, b :: m, h => by
    unfold pairsB at h
    rw [Bool.and_eq_true] at h
    simp [pairsB_len h.2]
  | [], b :: m, h => by cases h
  | a :: l, [], h => by cases h
theorem pairsB_ne {l m : List Fill} (h : l.length ≠ m.length) : pairsB l m = false := by
  cases e : pairsB l m with
  | false => rfl
  | true => exact absurd (pairsB_len e) h
theorem pairs_c {l m : List Fill} (hl : l.length ≤ 2 ^ 40) : cW f_slices_EqualFunc___celluloid_api_Fill___celluloid_api_Fill_celluloid_api_Fill_celluloid_api_Fill_ [.l (l.map Fill.e), .l (m.map Fill.e), .f f_morph_pair 0] [] = some ([.b (pairsB l m)], []) := by
  rw [w_slices_EqualFunc___celluloid_api_Fill___celluloid_api_Fill_celluloid_api_Fill_celluloid_api_Fill_]
  simp only [List.length_map]
  by_cases h : l.length = m.length
  · rw [show (((l.length : Nat) : Int) != ((m.length : Nat) : Int)) = false by simp [h], cond_false]
    exact pairs_loop hl l m [] [] rfl rfl rfl h
  · rw [show (((l.length : Nat) : Int) != ((m.length : Nat) : Int)) = true by simp [h]; omega, cond_true, pairsB_ne h]
theorem Right10_c (m : Mor) (h : m.sh) : cW f_morph_Right m.e [] = some ([.b (right10 m)], []) := by
  unfold Mor.e
  rw [w_morph_Right]
  simp only [(rightRect_ans _ _ _ _).c, right_c h.f h.s h.ff, right_c h.tf h.ts h.tff, pairs_c h.f, rightRecs_c h.r h.rr, rightRecs_c h.t h.tt, Option.bind_some, Option.bind_none, andB, orB, orB2, List.getD_cons_zero, List.getD_cons_succ, toB_b, toI_i, toS_s, toL_l, cond_true, cond_false, List.length_map]
  unfold right10 frB4
  rfl
end Go.AI
set_option linter.unusedVariables false
set_option linter.unusedSimpArgs false
set_option maxRecDepth 100000
namespace Go.AI
open Go Go.Proofs

def clT (t : Int) : Int := if t < 0 then 0 else if t > 65535 then 65535 else t
def inW (a : Int) : Prop := -1099511627776 ≤ a ∧ a ≤ 1099511627776
instance (a : Int) : Decidable (inW a) := by unfold inW; infer_instance
def betw (a b t : Int) : Int := if inW a ∧ inW b then a + ((b - a) * clT t) / 65535 else 0
theorem clT_r (t : Int) : 0 ≤ clT t ∧ clT t ≤ 65535 := by
  unfold clT
  split
  · omega
  · split <;> omega
theorem prod_r {d c : Int} (c0 : 0 ≤ c) (c1 : c ≤ 65535) : (0 ≤ d → 0 ≤ d * c ∧ d * c ≤ d * 65535) ∧ (d ≤ 0 → d * 65535 ≤ d * c ∧ d * c ≤ 0) := by
  refine ⟨fun h => ⟨Int.mul_nonneg h c0, Int.mul_le_mul_of_nonneg_left c1 h⟩, fun h => ⟨Int.mul_le_mul_of_nonpos_left h c1, Int.mul_nonpos_of_nonpos_of_nonneg h c0⟩⟩
theorem betw_mid {a b t : Int} (ha : inW a) (hb : inW b) : (a ≤ b → a ≤ betw a b t ∧ betw a b t ≤ b) ∧ (b ≤ a → b ≤ betw a b t ∧ betw a b t ≤ a) := by
  unfold betw
  rw [if_pos ⟨ha, hb⟩]
  obtain ⟨c0, c1⟩ := clT_r t
  obtain ⟨p, q⟩ := prod_r (d := b - a) c0 c1
  generalize (b - a) * clT t = x at *
  refine ⟨fun h => ?_, fun h => ?_⟩
  · have := p (by omega); omega
  · have := q (by omega); omega
theorem betw_rng {a b t lo hi : Int} (ha : inW a) (hb : inW b) (h1 : lo ≤ a ∧ a ≤ hi) (h2 : lo ≤ b ∧ b ≤ hi) : lo ≤ betw a b t ∧ betw a b t ≤ hi := by
  obtain ⟨p, q⟩ := betw_mid (t := t) ha hb
  rcases Int.le_total a b with h | h
  · have := p h; omega
  · have := q h; omega
theorem betw_same {a : Int} (ha : inW a) (t : Int) : betw a a t = a := by
  unfold betw
  rw [if_pos ⟨ha, ha⟩, Int.sub_self, Int.zero_mul]
  simp
end Go.AI
set_option linter.unusedVariables false
set_option linter.unusedSimpArgs false
set_option maxRecDepth 100000
namespace Go.AI
open Go Go.Proofs

def curv (r : Rec) : Rec := if r.kind = 4 then ⟨5, r.x - r.x / 2, r.y - r.y / 2, r.x / 2, r.y / 2, 0, 0, 0, [], []⟩ else r
theorem inW0 : inW 0 := by unfold inW; omega
theorem inW_of {a lo hi : Int} (h : lo ≤ a ∧ a ≤ hi) (h1 : -1099511627776 ≤ lo) (h2 : hi ≤ 1099511627776) : inW a := by unfold inW; omega
/-! ### the same -/
/-! ### the ends -/
/-! ### what is right stays right -/
theorem pairB_r {a b : Fill} (h : pairB a b = true) : a.kind = b.kind ∧ a.spread = b.spread ∧ a.id = b.id ∧ a.stops.length = b.stops.length := by
  unfold pairB at h
  simp only [Bool.and_eq_true, beq_iff_eq] at h
  exact ⟨h.1, h.2.1, h.2.2.1, by omega⟩
end Go.AI
set_option linter.unusedVariables false
set_option linter.unusedSimpArgs false
set_option maxRecDepth 100000
namespace Go.AI
open Go Go.Proofs

structure Pen (r : Rec) : Prop where
  k : r.kind = 1 ∨ r.kind = 4 ∨ r.kind = 5
  el : r.left = 0
  er : r.right = 0
  en : r.line = 0
  ef : r.fills = []
  es : r.strks = []
  c : r.kind ≠ 5 → r.cx = 0 ∧ r.cy = 0
  x : (r.kind = 1 → -1048576 ≤ r.x ∧ r.x ≤ 1048576) ∧ (r.kind ≠ 1 → -65536 ≤ r.x ∧ r.x ≤ 65535)
  y : (r.kind = 1 → -1048576 ≤ r.y ∧ r.y ≤ 1048576) ∧ (r.kind ≠ 1 → -65536 ≤ r.y ∧ r.y ≤ 65535)
  cx : -65536 ≤ r.cx ∧ r.cx ≤ 65535
  cy : -65536 ≤ r.cy ∧ r.cy ≤ 65535
theorem noLi_r {r : Rec} (h : noLi r) : r.fills = [] ∧ r.strks = [] := by
  unfold noLi at h
  simpa [List.length_eq_zero_iff] using h
theorem pen_of {r : Rec} {f s : Int} (h : recB r f s = true) (k2 : r.kind ≠ 2) (k3 : r.kind ≠ 3) : Pen r := by
  rcases recB_kind h with k | k | k | k | k
  · obtain ⟨⟨⟨a1, a2, a3⟩, b, c1, c2⟩, hx, hy⟩ := recB_move h k
    obtain ⟨d1, d2⟩ := noLi_r b
    exact ⟨.inl k, a1, a2, a3, d1, d2, fun _ => ⟨c1, c2⟩, ⟨fun _ => hx, fun n => absurd k n⟩, ⟨fun _ => hy, fun n => absurd k n⟩, by omega, by omega⟩
  · exact absurd k k2
  · exact absurd k k3
  · obtain ⟨⟨⟨a1, a2, a3⟩, b, c1, c2⟩, hx, hy⟩ := recB_line h k
    obtain ⟨d1, d2⟩ := noLi_r b
    exact ⟨.inr (.inl k), a1, a2, a3, d1, d2, fun _ => ⟨c1, c2⟩, ⟨fun n => by omega, fun _ => hx⟩, ⟨fun n => by omega, fun _ => hy⟩, by omega, by omega⟩
  · obtain ⟨⟨⟨a1, a2, a3⟩, b⟩, hx, hy, hcx, hcy⟩ := recB_curve h k
    obtain ⟨d1, d2⟩ := noLi_r b
    exact ⟨.inr (.inr k), a1, a2, a3, d1, d2, fun n => absurd k n, ⟨fun n => by omega, fun _ => hx⟩, ⟨fun n => by omega, fun _ => hy⟩, hcx, hcy⟩
theorem Pen.recB {r : Rec} (h : Pen r) (f s : Int) : recB r f s = true := by
  have hst : noSt r := ⟨h.el, h.er, h.en⟩
  have hli : noLi r := by unfold noLi; rw [h.ef, h.es]; exact ⟨rfl, rfl⟩
  unfold Go.AI.recB
  rcases h.k with k | k | k
  · rw [k]
    exact decide_eq_true ⟨hst, hli, h.c (by omega), h.x.1 k, h.y.1 k⟩
  · rw [k]
    exact decide_eq_true ⟨hst, hli, h.c (by omega), h.x.2 (by omega), h.y.2 (by omega)⟩
  · rw [k]
    exact decide_eq_true ⟨hst, hli, h.x.2 (by omega), h.y.2 (by omega), h.cx, h.cy⟩
structure wRec (r : Rec) : Prop where
  x : -1048576 ≤ r.x ∧ r.x ≤ 1048576
  y : -1048576 ≤ r.y ∧ r.y ≤ 1048576
  cx : -1048576 ≤ r.cx ∧ r.cx ≤ 1048576
  cy : -1048576 ≤ r.cy ∧ r.cy ≤ 1048576
theorem Pen.w {r : Rec} (h : Pen r) : wRec r := by
  have cx := h.cx
  have cy := h.cy
  rcases h.k with k | k | k
  · exact ⟨h.x.1 k, h.y.1 k, by omega, by omega⟩
  · have hx := h.x.2 (by omega); have hy := h.y.2 (by omega)
    exact ⟨by omega, by omega, by omega, by omega⟩
  · have hx := h.x.2 (by omega); have hy := h.y.2 (by omega)
    exact ⟨by omega, by omega, by omega, by omega⟩
theorem wRec.inX {r : Rec} (h : wRec r) : inW r.x ∧ inW r.y ∧ inW r.cx ∧ inW r.cy :=
  ⟨inW_of h.x (by decide) (by decide), inW_of h.y (by decide) (by decide), inW_of h.cx (by decide) (by decide), inW_of h.cy (by decide) (by decide)⟩
theorem Pen.curv {r : Rec} (h : Pen r) : Pen (curv r) := by
  unfold Go.AI.curv
  split
  · rename_i k
    have hx := h.x.2 (by omega)
    have hy := h.y.2 (by omega)
    exact ⟨.inr (.inr rfl), rfl, rfl, rfl, rfl, rfl, fun n => absurd rfl n, ⟨fun n => (by cases n), fun _ => (by dsimp only; omega)⟩, ⟨fun n => (by cases n), fun _ => (by dsimp only; omega)⟩, (by dsimp only; omega), (by dsimp only; omega)⟩
  · exact h
def btRec (t : Int) (a b : Rec) : Rec := ⟨a.kind, betw a.x b.x t, betw a.y b.y t, betw a.cx b.cx t, betw a.cy b.cy t, 0, 0, 0, [], []⟩
theorem Pen.bt {a b : Rec} (ha : Pen a) (hb : Pen b) (hk : a.kind = b.kind) (t : Int) : Pen (btRec t a b) := by
  obtain ⟨a1, a2, a3, a4⟩ := ha.w.inX
  obtain ⟨b1, b2, b3, b4⟩ := hb.w.inX
  refine ⟨ha.k, rfl, rfl, rfl, rfl, rfl, fun n => ?_, ⟨fun k => betw_rng a1 b1 (ha.x.1 k) (hb.x.1 (hk ▸ k)), fun k => betw_rng a1 b1 (ha.x.2 k) (hb.x.2 (fun e => k (hk.trans e)))⟩, ⟨fun k => betw_rng a2 b2 (ha.y.1 k) (hb.y.1 (hk ▸ k)), fun k => betw_rng a2 b2 (ha.y.2 k) (hb.y.2 (fun e => k (hk.trans e)))⟩, betw_rng a3 b3 ha.cx hb.cx, betw_rng a4 b4 ha.cy hb.cy⟩
  obtain ⟨x1, x2⟩ := ha.c n
  obtain ⟨y1, y2⟩ := hb.c (fun e => n (hk.trans e))
  show betw a.cx b.cx t = 0 ∧ betw a.cy b.cy t = 0
  rw [x1, x2, y1, y2, betw_same inW0]
  exact ⟨rfl, rfl⟩
/-! ### both -/
def both (a b : Rec) : Rec × Rec := if a.kind = b.kind then (a, b) else (curv a, curv b)
def ptAt (t : Int) (p : Rec × Rec) : Rec := if p.1.kind = 2 then p.1 else btRec t p.1 p.2
theorem pen2 {r : Rec} (h : Pen r) : r.kind ≠ 2 := by rcases h.k with k | k | k <;> omega
theorem pen3 {r : Rec} (h : Pen r) : r.kind ≠ 3 := by rcases h.k with k | k | k <;> omega
/-- what stands at a place, by the record there -/
inductive Duo (f s : Int) (o : Rec) (p : Rec × Rec) : Prop
  | set (k : o.kind = 2) (e : p = (o, o)) (h : recB o f s = true) : Duo f s o p
  | pen (k : o.kind ≠ 2) (a : Pen p.1) (b : Pen p.2) (e : p.1.kind = p.2.kind) (h : p.1.kind = o.kind → p.1 = o) : Duo f s o p
inductive Duos (f s : Int) : List Rec → List (Rec × Rec) → Prop
  | nil : Duos f s [] []
  | cons {o : Rec} {p : Rec × Rec} {l : List Rec} {d : List (Rec × Rec)} (h : Duo f s o p) (t : Duos f s l d) : Duos f s (o :: l) (p :: d)
theorem recsB_1 {f s : Int} : ∀ {l : List Rec}, recsB f s l 1 = true → ∀ r, r ∈ l → recB r f s = true ∧ r.kind ≠ 3
  | [], _, r, hr => by cases hr
  | x :: l, h, r, hr => by
    unfold recsB at h
    simp only [Bool.and_eq_true] at h
    obtain ⟨⟨h1, h2⟩, h3⟩ := h
    have k3 : (x.kind == 3) = false := by
      unfold kindB at h2
      simp only [Bool.and_eq_true, Bool.not_eq_true'] at h2
      simpa using h2.1
    unfold nextF at h3
    rw [k3, cond_false] at h3
    rcases List.mem_cons.1 hr with rfl | hr
    · exact ⟨h1, by simpa using k3⟩
    · exact recsB_1 h3 r hr
theorem recsB_2 {f s : Int} : ∀ {l : List Rec}, recsB f s l 2 = true → ∀ r, r ∈ l → Pen r
  | [], _, r, hr => by cases hr
  | x :: l, h, r, hr => by
    unfold recsB at h
    simp only [Bool.and_eq_true] at h
    obtain ⟨⟨h1, h2⟩, h3⟩ := h
    have k : (x.kind == 3) = false ∧ (x.kind == 2) = false := by
      unfold kindB at h2
      simpa using h2
    unfold nextF at h3
    rw [k.1, cond_false] at h3
    rcases List.mem_cons.1 hr with rfl | hr
    · exact pen_of h1 (by simpa using k.2) (by simpa using k.1)
    · exact recsB_2 h3 r hr
theorem pt_ok {f s : Int} {o : Rec} {p : Rec × Rec} (h : Duo f s o p) (t : Int) : recB (ptAt t p) f s = true ∧ (ptAt t p).kind ≠ 3 ∧ (ptAt t p).sh := by
  unfold ptAt
  cases h with
  | set k e h =>
    rw [e, if_pos k]
    refine ⟨h, by show o.kind ≠ 3; omega, ?_⟩
    obtain ⟨⟨a, _⟩, _⟩ := recB_set h k
    obtain ⟨a1, a2⟩ := noLi_r a
    refine ⟨by rw [a1]; exact Nat.zero_le _, by rw [a2]; exact Nat.zero_le _, ?_⟩
    show Shorts o.fills
    rw [a1]; intro f hf; cases hf
  | pen k a b e h =>
    rw [if_neg (pen2 a)]
    have q := Pen.bt a b e t
    exact ⟨q.recB f s, pen3 q, Nat.zero_le _, Nat.zero_le _, fun f hf => by cases hf⟩
theorem Duos.right {f s : Int} : ∀ {l : List Rec} {d : List (Rec × Rec)}, Duos f s l d → ∀ t : Int, recsB f s (d.map (ptAt t)) 0 = true ∧ Shs (d.map (ptAt t)) ∧ d.length = l.length
  | _, _, .nil, t => ⟨rfl, (fun r hr => by cases hr), rfl⟩
  | _, _, .cons (o := o) (p := p) (l := l) (d := d) h q, t => by
    obtain ⟨a1, a2, a3⟩ := pt_ok h t
    obtain ⟨b1, b2, b3⟩ := Duos.right q t
    refine ⟨?_, ?_, by simp [b3]⟩
    · rw [List.map_cons]
      unfold recsB
      have k3 : ((ptAt t p).kind == 3) = false := by simpa using a2
      rw [a1]
      unfold kindB nextF
      rw [k3, cond_false]
      simp only [Bool.false_and, Bool.not_false, Bool.true_and]
      rw [b1, Bool.and_true]
      simp
    · intro r hr
      rw [List.map_cons] at hr
      rcases List.mem_cons.1 hr with rfl | hr
      · exact a3
      · exact b2 r hr
end Go.AI
set_option linter.unusedVariables false
set_option linter.unusedSimpArgs false
set_option maxRecDepth 100000
namespace Go.AI
open Go Go.Proofs

end Go.AI
set_option linter.unusedVariables false
set_option linter.unusedSimpArgs false
set_option maxRecDepth 100000
namespace Go.AI
open Go Go.Proofs

/-! ### the loops -/
structure Rt (m : Mor) : Prop where
  id : 0 ≤ m.id ∧ m.id ≤ 65535
  fr : frB4 m.fr = true
  to : frB4 m.to = true
  l1 : listsB m.fills m.strks = true
  l2 : listsB m.tofl m.tost = true
  p : pairsB m.fills m.tofl = true
  n : m.strks.length = m.tost.length
  r : rightRecs (m.fills.length : Nat) (m.strks.length : Nat) m.recs 1 = true
  t : rightRecs 0 0 m.targ 2 = true
theorem right10_r {m : Mor} (h : right10 m = true) : Rt m := by
  unfold right10 at h
  simp only [Bool.and_eq_true, decide_eq_true_eq, beq_iff_eq] at h
  obtain ⟨h1, h2, h3, h4, h5, h6, h7, h8, h9, h10⟩ := h
  exact ⟨by omega, h3, h4, h5, h6, h7, by omega, h9, h10⟩
theorem Rt.recs {m : Mor} (h : Rt m) : m.recs.length ≤ 512 ∧ m.targ.length ≤ 512 ∧ (∀ r, r ∈ m.recs → recB r (m.fills.length : Nat) (m.strks.length : Nat) = true ∧ r.kind ≠ 3) ∧ (∀ r, r ∈ m.targ → Pen r) := by
  obtain ⟨_, _, _, a, b⟩ := rightRecs_r h.r
  obtain ⟨_, _, _, c, d⟩ := rightRecs_r h.t
  exact ⟨a, c, recsB_1 b, recsB_2 d⟩
end Go.AI
set_option linter.unusedVariables false
set_option linter.unusedSimpArgs false
set_option maxRecDepth 100000
namespace Go.AI
open Go Go.Proofs

/-! ### stops -/
/-! ### a pair -/
end Go.AI
set_option linter.unusedVariables false
set_option linter.unusedSimpArgs false
set_option maxRecDepth 100000
namespace Go.AI
open Go Go.Proofs

/-! ### pairs -/
end Go.AI
set_option linter.unusedVariables false
set_option linter.unusedSimpArgs false
set_option maxRecDepth 100000
namespace Go.AI
open Go Go.Proofs

end Go.AI
set_option linter.unusedVariables false
set_option linter.unusedSimpArgs false
set_option maxRecDepth 100000
namespace Go.AI
open Go Go.Proofs

/-! ### it is the program's -/
end Go.AI
set_option linter.unusedVariables false
set_option linter.unusedSimpArgs false
set_option maxRecDepth 100000
namespace Go.AI
open Go Go.Proofs

end Go.AI
set_option linter.unusedVariables false
set_option linter.unusedSimpArgs false
set_option maxRecDepth 100000
namespace Go.AI
open Go Go.Proofs

end Go.AI
set_option linter.unusedVariables false
set_option linter.unusedSimpArgs false
set_option maxRecDepth 100000
namespace Go.AI
open Go Go.Proofs

/-- the same behind bytes -/
def Beh (g : Wt → Wt) : Prop := ∀ (s : List UInt8) (w : Wt), WOk w → g (s ++ w.1, w.2) = (s ++ (g w).1, (g w).2) ∧ WOk (g w)
theorem Beh.comp {g h : Wt → Wt} (hg : Beh g) (hh : Beh h) : Beh (fun w => h (g w)) := fun s w hw => by
  obtain ⟨a, b⟩ := hg s w hw
  obtain ⟨c, d⟩ := hh s (g w) b
  refine ⟨?_, d⟩
  show h (g (s ++ w.1, w.2)) = _
  rw [a, c]
theorem beh_putN (v n : Nat) : Beh (putN v n) := fun s w hw => ⟨putN_pre s v n w hw, (putN_go v n hw).1⟩
theorem beh_numsW (n : Nat) (l : List Int) : Beh (numsW n l) := fun s w hw => ⟨numsW_pre s n l w hw, (numsW_go n l hw).1⟩
theorem beh_id : Beh (fun w => w) := fun s w hw => ⟨rfl, hw⟩
theorem beh_optP (v : Int) (n : Nat) : Beh (optP v n) := by
  unfold optP
  split
  · exact beh_putN _ _
  · exact beh_id
theorem beh_move (r : Rec) : Beh (moveW r) := by
  unfold moveW
  generalize WL [r.x, r.y] = n
  exact ((beh_putN 1 6).comp (beh_putN n 5)).comp (beh_numsW n [r.x, r.y])
theorem beh_set (a b : Nat) (r : Rec) : Beh (setW a b r) := by
  unfold setW
  generalize flagsR r = n
  exact (((beh_putN n 6).comp (beh_optP r.left a)).comp (beh_optP r.right a)).comp (beh_optP r.line b)
theorem beh_line (r : Rec) : Beh (lineW r) := by
  unfold lineW
  dsimp only
  generalize edgeN [r.x, r.y] = n
  have g := (beh_putN 3 2).comp (beh_putN (n - 2) 4)
  by_cases h : r.x = 0
  · simp only [if_pos h]
    exact (g.comp (beh_putN 1 2)).comp (beh_numsW n [r.y])
  · simp only [if_neg h]
    by_cases k : r.y = 0
    · simp only [if_pos k]
      exact (g.comp (beh_putN 0 2)).comp (beh_numsW n [r.x])
    · simp only [if_neg k]
      exact (g.comp (beh_putN 1 1)).comp (beh_numsW n [r.x, r.y])
theorem beh_curve (r : Rec) : Beh (curveW r) := by
  unfold curveW
  generalize edgeN [r.cx, r.cy, r.x, r.y] = n
  exact ((beh_putN 2 2).comp (beh_putN (n - 2) 4)).comp (beh_numsW n [r.cx, r.cy, r.x, r.y])
theorem beh_bytes (t : List UInt8) : Beh (fun w => (w.1 ++ t, 0)) := fun s w hw => ⟨by simp, ok_zero _⟩
theorem beh_fresh (r : Rec) : Beh (freshW r) := by
  unfold freshW
  generalize listsS r.fills r.strks = t
  generalize blen r.fills.length = a
  generalize blen r.strks.length = b
  exact (((beh_putN 16 6).comp (beh_bytes t)).comp (beh_putN a 4)).comp (beh_putN b 4)
theorem beh_rec (a b : Nat) (r : Rec) : Beh (recW a b r) := by
  unfold recW
  cases (r.kind == 1) with
  | true => exact beh_move r
  | false =>
    cases (r.kind == 2) with
    | true => exact beh_set a b r
    | false =>
      cases (r.kind == 3) with
      | true => exact beh_fresh r
      | false =>
        cases (r.kind == 4) with
        | true => exact beh_line r
        | false => exact beh_curve r
theorem beh_recs : ∀ (l : List Rec) (a b : Nat), Beh (recsW a b l)
  | [], _, _ => beh_id
  | r :: l, a, b => (beh_rec a b r).comp (beh_recs l (nextA r a) (nextB r b))
theorem recsT_behind (f s : Nat) (l : List Rec) (A S : List UInt8) : (recsT f s l (A ++ S)).1 = A ++ (recsT f s l S).1 := by
  unfold recsT headW
  generalize blen f = a
  generalize blen s = b
  have g : Beh (fun w => putN 0 6 (recsW a b l (putN b 4 (putN a 4 w)))) := (((beh_putN a 4).comp (beh_putN b 4)).comp (beh_recs l a b)).comp (beh_putN 0 6)
  have := (g A (S, 0) (ok_zero S)).1
  exact congrArg Prod.fst this
/-- what records are -/
def recsS (f s : Nat) (l : List Rec) : List UInt8 := (recsT f s l []).1
theorem recsT_S (f s : Nat) (l : List Rec) (S : List UInt8) : (recsT f s l S).1 = S ++ recsS f s l := by
  have := recsT_behind f s l S []
  rwa [List.append_nil] at this
theorem recsS_len {f s kind : Int} {l : List Rec} (h : rightRecs f s l kind = true) : (recsS f.toNat s.toNat l).length ≤ 9000 * 512 + 100 := by
  have := recsT_len h []
  show (recsT f.toNat s.toNat l []).1.length ≤ _
  simpa using this
def rectS (c : I4) : List UInt8 := (rectW c.1 c.2.1 c.2.2.1 c.2.2.2 ([], 0)).1
theorem rect_behind (c : I4) (s : List UInt8) : (rectW c.1 c.2.1 c.2.2.1 c.2.2.2 (s, 0)).1 = s ++ rectS c := by
  unfold rectS rectW
  have := nums_behind s (h := 5) (l := [c.1, c.2.1, c.2.2.1, c.2.2.2]) (w := ([], 0)) (ok_zero [])
  rw [this, List.append_nil]
theorem rectS_len {c : I4} (h : frB4 c = true) : (rectS c).length ≤ 200 := by
  unfold rectS rectW
  obtain ⟨_, _, _, d⟩ := nums_ok 5 [c.1, c.2.1, c.2.2.1, c.2.2.2] ([], 0) (ok_zero _)
  have := (rectB_fits h).wl
  refine Nat.le_trans d ?_
  show (0 : Nat) + 5 + _ * 4 ≤ 200
  omega
def fourS (n : Int) : List UInt8 := twoS (n % 65536) ++ twoS (n / 65536)
theorem littleB_four {n : Int} (h0 : 0 ≤ n) (h1 : n < 4294967296) : littleB n.toNat 4 = fourS n := by
  obtain ⟨k, rfl⟩ := Int.eq_ofNat_of_zero_le h0
  have a := littleB_two (n := ((k : Nat) : Int) % 65536) (by omega) (by omega)
  have b := littleB_two (n := ((k : Nat) : Int) / 65536) (by omega) (by omega)
  unfold fourS
  rw [← a, ← b]
  have e1 : (((k : Nat) : Int) % 65536).toNat = k % 65536 := by omega
  have e2 : (((k : Nat) : Int) / 65536).toNat = k / 65536 := by omega
  rw [e1, e2, Int.toNat_natCast]
  show [UInt8.ofNat (k / 256 ^ 0 % 256), UInt8.ofNat (k / 256 ^ 1 % 256), UInt8.ofNat (k / 256 ^ 2 % 256), UInt8.ofNat (k / 256 ^ 3 % 256)] = [UInt8.ofNat (k % 65536 / 256 ^ 0 % 256), UInt8.ofNat (k % 65536 / 256 ^ 1 % 256)] ++ [UInt8.ofNat (k / 65536 / 256 ^ 0 % 256), UInt8.ofNat (k / 65536 / 256 ^ 1 % 256)]
  have p0 : 256 ^ 0 = 1 := rfl
  have p1 : 256 ^ 1 = 256 := rfl
  have p2 : 256 ^ 2 = 65536 := rfl
  have p3 : 256 ^ 3 = 16777216 := rfl
  rw [p0, p1, p2, p3, show k % 65536 / 1 % 256 = k / 1 % 256 by omega, show k % 65536 / 256 % 256 = k / 256 % 256 by omega, show k / 65536 / 1 % 256 = k / 65536 % 256 by omega, show k / 65536 / 256 % 256 = k / 16777216 % 256 by omega]
  rfl
end Go.AI
set_option linter.unusedVariables false
set_option linter.unusedSimpArgs false
set_option maxRecDepth 100000
namespace Go.AI
open Go Go.Proofs

def psS : List Stop → List Stop → List UInt8
  | x :: l, y :: m => oneS x.ratio ++ (rgbaS x.color ++ (oneS y.ratio ++ (rgbaS y.color ++ psS l m)))
  | _, _ => []
def pfS (a b : Fill) : List UInt8 := oneS a.kind ++ (bif kindS a.kind then rgbaS a.color ++ rgbaS b.color else bif kindP a.kind then twoS a.id ++ (matS a.mat ++ matS b.mat) else matS a.mat ++ (matS b.mat ++ (oneS (64 * a.spread + a.stops.length) ++ psS a.stops b.stops)))
def pfsS : List Fill → List Fill → List UInt8
  | x :: l, y :: m => pfS x y ++ pfsS l m
  | _, _ => []
def spS (a b : Strk) : List UInt8 := twoS a.width ++ (twoS b.width ++ (rgbaS a.color ++ rgbaS b.color))
def spsS : List Strk → List Strk → List UInt8
  | x :: l, y :: m => spS x y ++ spsS l m
  | _, _ => []
theorem psS_len : ∀ l m : List Stop, (psS l m).length ≤ 10 * l.length
  | [], _ => by simp [psS]
  | _ :: _, [] => by simp [psS]
  | x :: l, y :: m => by
    have := psS_len l m
    simp only [psS, List.length_append, List.length_cons]
    show 1 + (4 + (1 + (4 + _))) ≤ _
    omega
theorem pfS_len {a b : Fill} (ha : fillB a = true) (hb : fillB b = true) (hp : pairB a b = true) : (pfS a b).length ≤ 900 := by
  obtain ⟨p1, p2, p3, p4⟩ := pairB_r hp
  unfold pfS
  cases k : kindS a.kind with
  | true => simp only [cond_true, List.length_append]; show 1 + (4 + 4) ≤ _; omega
  | false =>
    have k1 : kindS b.kind = false := by rw [← p1]; exact k
    cases k' : kindP a.kind with
    | true =>
      have := matS_len (fillB_pic ha k k').1
      have := matS_len (fillB_pic hb k1 (by rw [← p1]; exact k')).1
      simp only [cond_true, cond_false, List.length_append]; show 1 + (2 + _) ≤ _; omega
    | false =>
      obtain ⟨_, _, _, hm, _, _, _, h8⟩ := fillB_grad ha k k'
      obtain ⟨_, _, _, hm', _⟩ := fillB_grad hb k1 (by rw [← p1]; exact k')
      have := matS_len hm
      have := matS_len hm'
      have := psS_len a.stops b.stops
      simp only [cond_false, List.length_append]; show 1 + (_ + (_ + (1 + _))) ≤ _; omega
theorem pfsS_len : ∀ (l m : List Fill), (∀ f, f ∈ l → fillB f = true) → (∀ f, f ∈ m → fillB f = true) → pairsB l m = true → (pfsS l m).length ≤ 900 * l.length
  | [], _, _, _, _ => by simp [pfsS]
  | _ :: _, [], _, _, _ => by simp [pfsS]
  | x :: l, y :: m, hl, hm, h => by
    unfold pairsB at h
    rw [Bool.and_eq_true] at h
    have a := pfS_len (hl x (by simp)) (hm y (by simp)) h.1
    have b := pfsS_len l m (fun f hf => hl f (by simp [hf])) (fun f hf => hm f (by simp [hf])) h.2
    simp only [pfsS, List.length_append, List.length_cons]; omega
theorem spsS_len : ∀ l m : List Strk, (spsS l m).length ≤ 12 * l.length
  | [], _ => by simp [spsS]
  | _ :: _, [] => by simp [spsS]
  | x :: l, y :: m => by
    have := spsS_len l m
    simp only [spsS, spS, List.length_append, List.length_cons]
    show 2 + (2 + (4 + 4)) + _ ≤ _
    omega
def styS (m : Mor) : List UInt8 := oneS m.fills.length ++ (pfsS m.fills m.tofl ++ (oneS m.strks.length ++ spsS m.strks m.tost))
/-- what stands in the middle -/
def innS (m : Mor) : List UInt8 := styS m ++ recsS m.fills.length m.strks.length m.recs
def frontS (m : Mor) : List UInt8 := twoS m.id ++ (rectS m.fr ++ (rectS m.to ++ fourS (innS m).length))
def put10 (m : Mor) : List UInt8 := frontS m ++ (innS m ++ recsS 0 0 m.targ)
theorem Rt.sizes {m : Mor} (R : Rt m) : (styS m).length ≤ 20000 ∧ (innS m).length ≤ 5000000 ∧ (frontS m).length ≤ 500 ∧ (put10 m).length ≤ 10000000 := by
  obtain ⟨l1, l2, l3, l4⟩ := listsB_r R.l1
  obtain ⟨k1, k2, k3, k4⟩ := listsB_r R.l2
  have a := pfsS_len m.fills m.tofl l3 k3 R.p
  have b := spsS_len m.strks m.tost
  have h1 : (styS m).length ≤ 20000 := by
    unfold styS
    simp only [List.length_append]
    show 1 + (_ + (1 + _)) ≤ _
    omega
  have c := recsS_len R.r
  simp only [Int.toNat_natCast] at c
  have h2 : (innS m).length ≤ 5000000 := by
    unfold innS
    rw [List.length_append]
    omega
  have d := rectS_len R.fr
  have e := rectS_len R.to
  have h3 : (frontS m).length ≤ 500 := by
    unfold frontS
    simp only [List.length_append]
    show 2 + (_ + (_ + 4)) ≤ _
    omega
  have g := recsS_len R.t
  have g : (recsS 0 0 m.targ).length ≤ 9000 * 512 + 100 := g
  refine ⟨h1, h2, h3, ?_⟩
  unfold put10
  simp only [List.length_append]
  omega
/-! ### read back -/
end Go.AI
set_option linter.unusedVariables false
set_option linter.unusedSimpArgs false
set_option maxRecDepth 100000
namespace Go.AI
open Go Go.Proofs

theorem mbyte_c {s : List UInt8} (hs : s.length ≤ 500000000) (f n : Int) : cW f_morph_byteOf [.s s, .i f, .i n] [] = some ([.s (s ++ oneS n), .i 0], []) := by
  rw [w_morph_byteOf, toBytes_oneS, (putBytes_ans (t := oneS n) (by show _ + 1 ≤ _; omega) f).c]
  rfl
theorem mfill_loop {l m : List Stop} (hl : l.length ≤ 8) (b1 b2 b3 b4 b5 b6 b7 b8 b9 b10 b11 b12 b13 : Int) : ∀ (rest pre g q : List Stop) (s : List UInt8) (u v : Int), l = pre ++ rest → m = q ++ g → q.length = pre.length → rest.length = g.length → stopsB u rest = true → stopsB v g = true → s.length + 10 * rest.length ≤ 440000000 →
    rW f_morph_fill [] at_morph_fill_L0 (S_morph_fill_L0 (l.map Stop.e) l.length pre.length s 0 b1 b2 b3 b4 b5 b6 b7 b8 b9 b10 b11 b12 (m.map Stop.e) b13 [] 0) = some ([.s (s ++ psS rest g), .i 0], [])
  | [], pre, [], q, s, u, v, h, h', hq, hn, hb, kb, hs => by
    rw [w_morph_fill_L0]
    simp only [el_end h, psS, List.append_nil, Option.bind_some, Option.bind_none, andB, orB, orB2, List.getD_cons_zero, List.getD_cons_succ, toB_b, toI_i, toS_s, toL_l, cond_true, cond_false, List.length_map]
  | [], pre, y :: g, q, s, u, v, h, h', hq, hn, hb, kb, hs => by cases hn
  | x :: rest, pre, [], q, s, u, v, h, h', hq, hn, hb, kb, hs => by cases hn
  | x :: rest, pre, y :: g, q, s, u, v, h, h', hq, hn, hb, kb, hs => by
    have hm : m.length ≤ 2 ^ 40 := by rw [h']; rw [h] at hl; simp at hl hn ⊢; omega
    obtain ⟨h1, h2, h3, h4, h5⟩ := el_step Stop.e h (Nat.le_trans hl (by decide))
    obtain ⟨_, k2, k3, _, k5⟩ := el_step Stop.e h' hm
    rw [hq] at k2 k3
    obtain ⟨hc, hr, _, _⟩ := stopsB_cons hb
    obtain ⟨kc, kr, _, _⟩ := stopsB_cons kb
    simp only [List.length_cons] at hs
    have e1 := mbyte_c (s := s) (by omega) 0 x.ratio
    have e2 := putK_c (s := s ++ oneS x.ratio) (by simp [oneS]; omega) 0 hc
    have e3 := mbyte_c (s := s ++ oneS x.ratio ++ rgbaS x.color) (by simp [oneS, rgbaS]; omega) 0 y.ratio
    have e4 := putK_c (s := s ++ oneS x.ratio ++ rgbaS x.color ++ oneS y.ratio) (by simp [oneS, rgbaS]; omega) 0 kc
    rw [w_morph_fill_L0]
    simp only [h1, h2, h3, h4, k2, k3, Stop.e, e1, e2, e3, e4, Option.bind_some, Option.bind_none, andB, orB, orB2, List.getD_cons_zero, List.getD_cons_succ, toB_b, toI_i, toS_s, toL_l, cond_true, cond_false, List.length_map]
    have := mfill_loop hl b1 b2 b3 b4 b5 b6 b7 b8 b9 b10 b11 b12 b13 rest _ g (q ++ [y]) (s ++ oneS x.ratio ++ rgbaS x.color ++ oneS y.ratio ++ rgbaS y.color) x.ratio y.ratio h5 k5 (by simp [hq]) (by simpa using hn) hr kr (by simp [oneS, rgbaS]; omega)
    simpa [psS] using this
theorem mfill_c {a b : Fill} (ha : fillB a = true) (hb : fillB b = true) (hp : pairB a b = true) {s : List UInt8} (hs : s.length ≤ 400000000) (fr : Int) : cW f_morph_fill ([.s s, .i fr] ++ (a.e ++ b.e)) [] = some ([.s (s ++ pfS a b), .i 0], []) := by
  obtain ⟨p1, p2, p3, p4⟩ := pairB_r hp
  simp only [Fill.e, List.cons_append, List.nil_append]
  rw [w_morph_fill]
  have hs1 : (s ++ oneS a.kind).length ≤ 400000001 := by simp [oneS]; omega
  simp only [mbyte_c (s := s) (by omega), Option.bind_some, Option.bind_none, andB, orB, orB2, List.getD_cons_zero, List.getD_cons_succ, toB_b, toI_i, toS_s, toL_l, cond_true, cond_false, List.length_map]
  unfold pfS
  show (bif kindS a.kind then _ else _) = _
  cases k : kindS a.kind with
  | true =>
    have kb : kindS b.kind = true := by rw [← p1]; exact k
    have e1 := putK_c (s := s ++ oneS a.kind) (by omega) 0 (fillB_solid ha k).1
    have e2 := putK_c (s := s ++ oneS a.kind ++ rgbaS a.color) (by simp [oneS, rgbaS]; omega) 0 (fillB_solid hb kb).1
    simp only [e1, e2, Option.bind_some, Option.bind_none, andB, orB, orB2, List.getD_cons_zero, List.getD_cons_succ, toB_b, toI_i, toS_s, toL_l, cond_true, cond_false, List.length_map]
    simp
  | false =>
    have kb : kindS b.kind = false := by rw [← p1]; exact k
    have hcond : (bif a.kind == 64 then some [PV.b true] else some [PV.b (a.kind == 65)]) = some [PV.b (kindP a.kind)] := by
      unfold kindP
      cases (a.kind == 64) <;> rfl
    simp only [cond_false]
    have hor : ((a.kind == 64) || (a.kind == 65)) = kindP a.kind := rfl
    cases k' : kindP a.kind with
    | true =>
      have kb' : kindP b.kind = true := by rw [← p1]; exact k'
      rw [k'] at hor
      obtain ⟨hm, h0, h1, _⟩ := fillB_pic ha k k'
      obtain ⟨km, _⟩ := fillB_pic hb kb kb'
      have e0 := putLittle2_c (s := s ++ oneS a.kind) (by omega) 0 h0 h1
      have e1 := putMat_c (s := s ++ oneS a.kind ++ twoS a.id) (by simp [oneS, twoS]; omega) 0 hm
      have hml := matS_len hm
      have e2 := putMat_c (s := s ++ oneS a.kind ++ twoS a.id ++ matS a.mat) (by simp [oneS, twoS]; omega) 0 km
      simp only [hor, e0, e1, e2, Option.bind_some, Option.bind_none, andB, orB, orB2, List.getD_cons_zero, List.getD_cons_succ, toB_b, toI_i, toS_s, toL_l, cond_true, cond_false, List.length_map]
      simp
    | false =>
      have kb' : kindP b.kind = false := by rw [← p1]; exact k'
      rw [k'] at hor
      obtain ⟨_, _, hsb, hm, h0, h2, _, h8⟩ := fillB_grad ha k k'
      obtain ⟨_, _, ksb, km, _⟩ := fillB_grad hb kb kb'
      have hml := matS_len hm
      have kml := matS_len km
      have e1 := putMat_c (s := s ++ oneS a.kind) (by omega) 0 hm
      have e2 := putMat_c (s := s ++ oneS a.kind ++ matS a.mat) (by simp [oneS]; omega) 0 km
      have e3 := mbyte_c (s := s ++ oneS a.kind ++ matS a.mat ++ matS b.mat) (by simp [oneS]; omega) 0 (64 * a.spread + a.stops.length)
      have e4 := mfill_loop (l := a.stops) (m := b.stops) h8 b.kind b.color.1 b.color.2.1 b.color.2.2.1 b.color.2.2.2 b.mat.1 b.mat.2.1 b.mat.2.2.1 b.mat.2.2.2.1 b.mat.2.2.2.2.1 b.mat.2.2.2.2.2 b.spread b.id a.stops [] b.stops [] (s ++ oneS a.kind ++ matS a.mat ++ matS b.mat ++ oneS (64 * a.spread + a.stops.length)) 0 0 rfl rfl rfl p4 hsb ksb (by simp [oneS]; omega)
      rw [show IntKind.wrap .i64 ((IntKind.wrap .i64 (a.spread * 64)) + ((a.stops.length : Nat) : Int)) = 64 * a.spread + a.stops.length by rw [wrap64 (n := a.spread * 64) (by omega) (by omega), wrap64 (by omega) (by omega)]; omega]
      simp only [hor, e1, e2, e3, Option.bind_some, Option.bind_none, andB, orB, orB2, List.getD_cons_zero, List.getD_cons_succ, toB_b, toI_i, toS_s, toL_l, cond_true, cond_false, List.length_map]
      rw [show ((([] : List Stop).length : Nat) : Int) = 0 from rfl] at e4
      rw [e4]
      simp
theorem putRect_S {s : List UInt8} (hs : s.length ≤ 400000000) (fr : Int) {c : I4} (h : frB4 c = true) : cW f_field_PutRect [.s s, .i fr, .i c.1, .i c.2.1, .i c.2.2.1, .i c.2.2.2] [] = some ([.s (s ++ rectS c), .i 0, .i 0], []) := by
  rw [(putRect_ans (s := s) (by omega) fr c.1 c.2.1 c.2.2.1 c.2.2.2).c]
  unfold putRectF
  rw [if_pos (show rectB c.1 c.2.1 c.2.2.1 c.2.2.2 = true from h), rect_behind]
  rfl
noncomputable abbrev B0 (m : Mor) (i : Int) (a : List UInt8) (x : List UInt8) : St := S_morph_Put_L0 (m.fills.map Fill.e) (m.fills.length : Nat) i a 0 m.id m.fr.1 m.fr.2.1 m.fr.2.2.1 m.fr.2.2.2 m.to.1 m.to.2.1 m.to.2.2.1 m.to.2.2.2 (m.fills.map Fill.e) (m.tofl.map Fill.e) (m.strks.map Strk.e) (m.tost.map Strk.e) (m.recs.map Rec.e) (m.targ.map Rec.e) [] 0 x 0
noncomputable abbrev B2 (m : Mor) (i : Int) (a : List UInt8) (x : List UInt8) : St := S_morph_Put_L2 (m.strks.map Strk.e) (m.strks.length : Nat) i a 0 m.id m.fr.1 m.fr.2.1 m.fr.2.2.1 m.fr.2.2.2 m.to.1 m.to.2.1 m.to.2.2.1 m.to.2.2.2 (m.fills.map Fill.e) (m.tofl.map Fill.e) (m.strks.map Strk.e) (m.tost.map Strk.e) (m.recs.map Rec.e) (m.targ.map Rec.e) [] 0 x 0
theorem mput_loop2 {m : Mor} (R : Rt m) (h : m.sh) (A : List UInt8) (hA : A.length ≤ 1000) (S0 : List UInt8) (hS : S0 ++ spsS m.strks m.tost = styS m) : ∀ (rest pre g q : List Strk) (x : List UInt8), m.strks = pre ++ rest → m.tost = q ++ g → q.length = pre.length → rest.length = g.length → x ++ spsS rest g = styS m →
    rW f_morph_Put [] at_morph_Put_L2 (B2 m pre.length A x) = some ([.s (A ++ fourS (innS m).length ++ innS m ++ recsS 0 0 m.targ), .i 0, .i 0], [])
  | [], pre, [], q, x, h1, h', hq, hn, hx => by
    obtain ⟨z1, z2, z3, z4⟩ := R.sizes
    have hx : x = styS m := by simpa [spsS] using hx
    subst hx
    have e1 := PutRecords_c (S := styS m) (by omega) h.r h.rr 0 (m.fills.length : Nat) (m.strks.length : Nat) 1
    unfold putRecsF at e1
    rw [R.r, cond_true, recsT_S] at e1
    simp only [Int.toNat_natCast] at e1
    rw [show styS m ++ recsS m.fills.length m.strks.length m.recs = innS m from rfl] at e1
    have e2 : cW f_bits_PutLittle [.s A, .i 0, .i (((innS m).length : Nat) : Int), .i 4] [] = some ([.s (A ++ fourS (innS m).length), .i 0, .i 0], []) := by
      rw [(putLittle_ans (s := A) (by omega) 0 (((innS m).length : Nat) : Int) 4 (by omega)).c]
      unfold putLittleF encW
      have p4 : (2 : Int) ^ (8 * (4 : Int).toNat) = 4294967296 := rfl
      rw [if_neg (by rw [p4]; omega)]
      simp only
      rw [show ((4 : Int).toNat) = 4 from rfl, littleB_four (by omega) (by omega)]
    have hf4 : (fourS ((innS m).length : Nat)).length = 4 := rfl
    have e3 := (putBytes_ans (s := A ++ fourS (innS m).length) (t := innS m) (by simp only [List.length_append]; omega) 0).c
    have e4 := PutRecords_c (S := A ++ fourS (innS m).length ++ innS m) (by simp only [List.length_append]; omega) h.t h.tt 0 0 0 2
    unfold putRecsF at e4
    rw [R.t, cond_true, recsT_S] at e4
    rw [w_morph_Put_L2]
    simp only [el_end h1, e1, e2, e3, encW, Option.bind_some, Option.bind_none, andB, orB, orB2, List.getD_cons_zero, List.getD_cons_succ, toB_b, toI_i, toS_s, toL_l, cond_true, cond_false, List.length_map]
    simp only [e4, Option.bind_some, Option.bind_none, andB, orB, orB2, List.getD_cons_zero, List.getD_cons_succ, toB_b, toI_i, toS_s, toL_l, cond_true, cond_false, List.length_map]
    rfl
  | [], pre, y :: g, q, x, h1, h', hq, hn, hx => by cases hn
  | r :: rest, pre, [], q, x, h1, h', hq, hn, hx => by cases hn
  | r :: rest, pre, y :: g, q, x, hh, h', hq, hn, hx => by
    obtain ⟨z1, z2, z3, z4⟩ := R.sizes
    obtain ⟨_, l2, _, l4⟩ := listsB_r R.l1
    obtain ⟨_, k2', _, k4'⟩ := listsB_r R.l2
    obtain ⟨h1, h2, h3, h4, h5⟩ := el_step Strk.e hh (Nat.le_trans l2 (by decide))
    obtain ⟨_, k2, k3, _, k5⟩ := el_step Strk.e h' (Nat.le_trans k2' (by decide))
    rw [hq] at k2 k3
    obtain ⟨w0, w1, hc⟩ := strkB_r (l4 r (by rw [hh]; simp))
    obtain ⟨v0, v1, kc⟩ := strkB_r (k4' y (by rw [h']; simp))
    have hxl : x.length ≤ 20000 := by rw [← hx, List.length_append] at z1; omega
    have e1 := putLittle2_c (s := x) (by omega) 0 w0 w1
    have e2 := putLittle2_c (s := x ++ twoS r.width) (by simp [twoS]; omega) 0 v0 v1
    have e3 := putK_c (s := x ++ twoS r.width ++ twoS y.width) (by simp [twoS]; omega) 0 hc
    have e4 := putK_c (s := x ++ twoS r.width ++ twoS y.width ++ rgbaS r.color) (by simp [twoS, rgbaS]; omega) 0 kc
    rw [w_morph_Put_L2]
    simp only [h1, h2, h3, h4, k2, k3, Strk.e, e1, e2, e3, e4, Option.bind_some, Option.bind_none, andB, orB, orB2, List.getD_cons_zero, List.getD_cons_succ, toB_b, toI_i, toS_s, toL_l, cond_true, cond_false, List.length_map]
    exact mput_loop2 R h A hA S0 hS rest (pre ++ [r]) g (q ++ [y]) (x ++ twoS r.width ++ twoS y.width ++ rgbaS r.color ++ rgbaS y.color) h5 k5 (by simp [hq]) (by simpa using hn) (by rw [← hx]; simp [spsS, spS])
theorem mput_loop0 {m : Mor} (R : Rt m) (h : m.sh) (A : List UInt8) (hA : A.length ≤ 1000) : ∀ (rest pre g q : List Fill) (x : List UInt8), m.fills = pre ++ rest → m.tofl = q ++ g → q.length = pre.length → pairsB rest g = true → x ++ (pfsS rest g ++ (oneS m.strks.length ++ spsS m.strks m.tost)) = styS m →
    rW f_morph_Put [] at_morph_Put_L0 (B0 m pre.length A x) = some ([.s (A ++ fourS (innS m).length ++ innS m ++ recsS 0 0 m.targ), .i 0, .i 0], [])
  | [], pre, [], q, x, h1, h', hq, hn, hx => by
    obtain ⟨z1, z2, z3, z4⟩ := R.sizes
    have hx2 : x ++ oneS m.strks.length ++ spsS m.strks m.tost = styS m := by rw [← hx]; simp [pfsS]
    have hxl : x.length ≤ 20000 := by rw [← hx, List.length_append] at z1; omega
    have e := mput_loop2 R h A hA _ hx2 m.strks [] m.tost [] (x ++ oneS m.strks.length) rfl rfl rfl R.n hx2
    rw [w_morph_Put_L0]
    simp only [el_end h1, mbyte_c (s := x) (by omega), Option.bind_some, Option.bind_none, andB, orB, orB2, List.getD_cons_zero, List.getD_cons_succ, toB_b, toI_i, toS_s, toL_l, cond_true, cond_false, List.length_map]
    exact e
  | [], pre, y :: g, q, x, h1, h', hq, hn, hx => by cases hn
  | r :: rest, pre, [], q, x, h1, h', hq, hn, hx => by cases hn
  | r :: rest, pre, y :: g, q, x, hh, h', hq, hn, hx => by
    unfold pairsB at hn
    rw [Bool.and_eq_true] at hn
    obtain ⟨z1, z2, z3, z4⟩ := R.sizes
    obtain ⟨l1, _, l3, _⟩ := listsB_r R.l1
    obtain ⟨k1', _, k3', _⟩ := listsB_r R.l2
    obtain ⟨h1, h2, h3, h4, h5⟩ := el_step Fill.e hh (Nat.le_trans l1 (by decide))
    obtain ⟨_, k2, k3, _, k5⟩ := el_step Fill.e h' (Nat.le_trans k1' (by decide))
    rw [hq] at k2 k3
    have hxl : x.length ≤ 20000 := by rw [← hx, List.length_append] at z1; omega
    have e := mfill_c (l3 r (by rw [hh]; simp)) (k3' y (by rw [h']; simp)) hn.1 (s := x) (by omega) 0
    simp only [Fill.e, List.cons_append, List.nil_append] at e
    rw [w_morph_Put_L0]
    simp only [h1, h2, h3, h4, k2, k3, Fill.e, e, Option.bind_some, Option.bind_none, andB, orB, orB2, List.getD_cons_zero, List.getD_cons_succ, toB_b, toI_i, toS_s, toL_l, cond_true, cond_false, List.length_map]
    exact mput_loop0 R h A hA rest (pre ++ [r]) g (q ++ [y]) (x ++ pfS r y) h5 k5 (by simp [hq]) hn.2 (by rw [← hx]; simp [pfsS])
theorem Put10_c (m : Mor) (h : m.sh) : cW f_morph_Put ([.s [], .i 0] ++ m.e) [] = some (bif right10 m then ([.s (put10 m), .i 0, .i 0], []) else ([.s [], .i 0, .i 1], [])) := by
  have hR := Right10_c m h
  simp only [Mor.e, List.cons_append, List.nil_append] at hR ⊢
  rw [w_morph_Put]
  simp only [hR, Option.bind_some, Option.bind_none, andB, orB, orB2, List.getD_cons_zero, List.getD_cons_succ, toB_b, toI_i, toS_s, toL_l, cond_true, cond_false, List.length_map]
  cases hr : right10 m with
  | false => rfl
  | true =>
    have R := right10_r hr
    have id0 := R.id
    have l1 := rectS_len R.fr
    have l2 := rectS_len R.to
    have e1 := putLittle2_c (s := []) (by decide) 0 (n := m.id) (by omega) (by omega)
    rw [List.nil_append] at e1
    have t2 : (twoS m.id).length = 2 := rfl
    have e2 := putRect_S (s := twoS m.id) (by omega) 0 R.fr
    have e3 := putRect_S (s := twoS m.id ++ rectS m.fr) (by simp only [List.length_append]; omega) 0 R.to
    have e4 := mbyte_c (s := []) (by decide) 0 ((m.fills.length : Nat) : Int)
    rw [List.nil_append] at e4
    have e := mput_loop0 R h (twoS m.id ++ rectS m.fr ++ rectS m.to) (by simp only [List.length_append]; omega) m.fills [] m.tofl [] (oneS m.fills.length) rfl rfl rfl R.p rfl
    simp only [Bool.not_true, e1, e2, e3, e4, Option.bind_some, Option.bind_none, andB, orB, orB2, List.getD_cons_zero, List.getD_cons_succ, toB_b, toI_i, toS_s, toL_l, cond_true, cond_false, List.length_map]
    refine Eq.trans e ?_
    have : twoS m.id ++ rectS m.fr ++ rectS m.to ++ fourS (innS m).length ++ innS m ++ recsS 0 0 m.targ = put10 m := by unfold put10 frontS; simp
    rw [this]
end Go.AI
