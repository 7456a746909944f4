/- Morphs: what is right. -/
import Derived.Test.YtkclfiliefadlaaU10
import Derived.Test.YtkclfiliefadlaaP09
import Derived.Test.YtkclfiliefadlaaP02
import Derived.Test.YtkclfiliefadlaaW
import Derived.Test.YtkclfiliefadlaaP08
set_option linter.unusedVariables false
set_option linter.unusedSimpArgs false
set_option maxRecDepth 100000
namespace Go.AI
open Go Go.Proofs

structure Mor where
  id : Int
  fr : I4
  to : I4
  fills : List Fill
  tofl : List Fill
  strks : List Strk
  tost : List Strk
  recs : List Rec
  targ : List Rec
def Mor.e (m : Mor) : List PV := [.i m.id, .i m.fr.1, .i m.fr.2.1, .i m.fr.2.2.1, .i m.fr.2.2.2, .i m.to.1, .i m.to.2.1, .i m.to.2.2.1, .i m.to.2.2.2, .l (m.fills.map Fill.e), .l (m.tofl.map Fill.e), .l (m.strks.map Strk.e), .l (m.tost.map Strk.e), .l (m.recs.map Rec.e), .l (m.targ.map Rec.e)]
/-- short enough -/
structure Mor.sh (m : Mor) : Prop where
  f : m.fills.length ≤ 2 ^ 40
  tf : m.tofl.length ≤ 2 ^ 40
  ff : Shorts m.fills
  tff : Shorts m.tofl
  s : m.strks.length ≤ 2 ^ 40
  ts : m.tost.length ≤ 2 ^ 40
  r : m.recs.length ≤ 2 ^ 40
  t : m.targ.length ≤ 2 ^ 40
  rr : Shs m.recs
  tt : Shs m.targ
def pairB (a b : Fill) : Bool := (a.kind == b.kind) && ((a.spread == b.spread) && ((a.id == b.id) && (((a.stops.length : Nat) : Int) == ((b.stops.length : Nat) : Int))))
def pairsB : List Fill → List Fill → Bool
  | [], [] => true
  | a :: l, b :: m => pairB a b && pairsB l m
  | _, _ => false
def frB4 (c : I4) : Bool := rectB c.1 c.2.1 c.2.2.1 c.2.2.2
def right10 (m : Mor) : Bool := decide (m.id ≥ 0) && (decide (m.id < 65536) && (frB4 m.fr && (frB4 m.to && (listsB m.fills m.strks && (listsB m.tofl m.tost && (pairsB m.fills m.tofl && ((((m.strks.length : Nat) : Int) == ((m.tost.length : Nat) : Int)) && (rightRecs (m.fills.length : Nat) (m.strks.length : Nat) m.recs 1 && rightRecs 0 0 m.targ 2))))))))
theorem pair_c (a b : Fill) : cW f_morph_pair (a.e ++ b.e) [] = some ([.b (pairB a b)], []) := by
  simp only [Fill.e, List.cons_append, List.nil_append]
  rw [w_morph_pair]
  simp only [Option.bind_some, Option.bind_none, andB, orB, orB2, List.getD_cons_zero, List.getD_cons_succ, toB_b, toI_i, toS_s, toL_l, cond_true, cond_false, List.length_map]
  rfl
theorem pairs_loop {l m : List Fill} (hl : l.length ≤ 2 ^ 40) : ∀ (r r' p p' : List Fill), l = p ++ r → m = p' ++ r' → p.length = p'.length → r.length = r'.length →
    rW f_slices_EqualFunc___celluloid_api_Fill___celluloid_api_Fill_celluloid_api_Fill_celluloid_api_Fill_ [] at_slices_EqualFunc___celluloid_api_Fill___celluloid_api_Fill_celluloid_api_Fill_celluloid_api_Fill__L0 (S_slices_EqualFunc___celluloid_api_Fill___celluloid_api_Fill_celluloid_api_Fill_celluloid_api_Fill__L0 (m.map Fill.e) (l.map Fill.e) l.length p.length) = some ([.b (pairsB r r')], [])
  | [], [], p, p', h, h', hp, hr => by
    rw [w_slices_EqualFunc___celluloid_api_Fill___celluloid_api_Fill_celluloid_api_Fill_celluloid_api_Fill__L0]; simp only [el_end h, Option.bind_some, Option.bind_none, andB, orB, orB2, List.getD_cons_zero, List.getD_cons_succ, toB_b, toI_i, toS_s, toL_l, cond_true, cond_false, List.length_map]; rfl
  | [], y :: r', p, p', h, h', hp, hr => by simp at hr
  | x :: r, [], p, p', h, h', hp, hr => by simp at hr
  | x :: r, y :: r', p, p', h, h', hp, hr => by
    have hm : m.length ≤ 2 ^ 40 := by rw [h']; rw [h] at hl; simp at hl hr ⊢; omega
    obtain ⟨h1, h2, h3, h4, h5⟩ := el_step Fill.e h hl
    obtain ⟨_, k2, k3, _, k5⟩ := el_step Fill.e h' hm
    rw [← hp] at k2 k3
    have e := pair_c x y
    simp only [Fill.e, List.cons_append, List.nil_append] at e
    rw [w_slices_EqualFunc___celluloid_api_Fill___celluloid_api_Fill_celluloid_api_Fill_celluloid_api_Fill__L0]
    simp only [h1, h2, h3, h4, k2, k3, Fill.e, e, pairsB, Option.bind_some, Option.bind_none, andB, orB, orB2, List.getD_cons_zero, List.getD_cons_succ, toB_b, toI_i, toS_s, toL_l, cond_true, cond_false, List.length_map]
    cases pairB x y with
    | false => simp only [Bool.not_false, cond_true, Bool.false_and]
    | true =>
      rw [Bool.not_true, cond_false, Bool.true_and]
      exact pairs_loop hl r r' _ _ h5 k5 (by simp [hp]) (by simpa using hr)
theorem pairsB_len : ∀ {l m : List Fill}, pairsB l m = true → l.length = m.length
  | [], [], _ => rfl
  | a :: l, b :: m, h => by
    unfold pairsB at h
    rw [Bool.and_eq_true] at h
    simp [pairsB_len h.2]
  | [], b :: m, h => by cases h
  | a :: l, [], h => by cases h
theorem pairsB_ne {l m : List Fill} (h : l.length ≠ m.length) : pairsB l m = false := by
  cases e : pairsB l m with
  | false => rfl
  | true => exact absurd (pairsB_len e) h
theorem pairs_c {l m : List Fill} (hl : l.length ≤ 2 ^ 40) : cW f_slices_EqualFunc___celluloid_api_Fill___celluloid_api_Fill_celluloid_api_Fill_celluloid_api_Fill_ [.l (l.map Fill.e), .l (m.map Fill.e), .f f_morph_pair 0] [] = some ([.b (pairsB l m)], []) := by
  rw [w_slices_EqualFunc___celluloid_api_Fill___celluloid_api_Fill_celluloid_api_Fill_celluloid_api_Fill_]
  simp only [List.length_map]
  by_cases h : l.length = m.length
  · rw [show (((l.length : Nat) : Int) != ((m.length : Nat) : Int)) = false by simp [h], cond_false]
    exact pairs_loop hl l m [] [] rfl rfl rfl h
  · rw [show (((l.length : Nat) : Int) != ((m.length : Nat) : Int)) = true by simp [h]; omega, cond_true, pairsB_ne h]
theorem Right10_c (m : Mor) (h : m.sh) : cW f_morph_Right m.e [] = some ([.b (right10 m)], []) := by
  unfold Mor.e
  rw [w_morph_Right]
  simp only [(rightRect_ans _ _ _ _).c, right_c h.f h.s h.ff, right_c h.tf h.ts h.tff, pairs_c h.f, rightRecs_c h.r h.rr, rightRecs_c h.t h.tt, Option.bind_some, Option.bind_none, andB, orB, orB2, List.getD_cons_zero, List.getD_cons_succ, toB_b, toI_i, toS_s, toL_l, cond_true, cond_false, List.length_map]
  unfold right10 frB4
  rfl
end Go.AI
set_option linter.unusedVariables false
set_option linter.unusedSimpArgs false
set_option maxRecDepth 100000
namespace Go.AI
open Go Go.Proofs

def clT (t : Int) : Int := if t < 0 then 0 else if t > 65535 then 65535 else t
def inW (a : Int) : Prop := -1099511627776 ≤ a ∧ a ≤ 1099511627776
instance (a : Int) : Decidable (inW a) := by unfold inW; infer_instance
def betw (a b t : Int) : Int := if inW a ∧ inW b then a + ((b - a) * clT t) / 65535 else 0
theorem clT_r (t : Int) : 0 ≤ clT t ∧ clT t ≤ 65535 := by
  unfold clT
  split
  · omega
  · split <;> omega
theorem prod_r {d c : Int} (c0 : 0 ≤ c) (c1 : c ≤ 65535) : (0 ≤ d → 0 ≤ d * c ∧ d * c ≤ d * 65535) ∧ (d ≤ 0 → d * 65535 ≤ d * c ∧ d * c ≤ 0) := by
  refine ⟨fun h => ⟨Int.mul_nonneg h c0, Int.mul_le_mul_of_nonneg_left c1 h⟩, fun h => ⟨Int.mul_le_mul_of_nonpos_left h c1, Int.mul_nonpos_of_nonpos_of_nonneg h c0⟩⟩
theorem betw_mid {a b t : Int} (ha : inW a) (hb : inW b) : (a ≤ b → a ≤ betw a b t ∧ betw a b t ≤ b) ∧ (b ≤ a → b ≤ betw a b t ∧ betw a b t ≤ a) := by
  unfold betw
  rw [if_pos ⟨ha, hb⟩]
  obtain ⟨c0, c1⟩ := clT_r t
  obtain ⟨p, q⟩ := prod_r (d := b - a) c0 c1
  generalize (b - a) * clT t = x at *
  refine ⟨fun h => ?_, fun h => ?_⟩
  · have := p (by omega); omega
  · have := q (by omega); omega
theorem betw_rng {a b t lo hi : Int} (ha : inW a) (hb : inW b) (h1 : lo ≤ a ∧ a ≤ hi) (h2 : lo ≤ b ∧ b ≤ hi) : lo ≤ betw a b t ∧ betw a b t ≤ hi := by
  obtain ⟨p, q⟩ := betw_mid (t := t) ha hb
  rcases Int.le_total a b with h | h
  · have := p h; omega
  · have := q h; omega
theorem betw_0 {a b : Int} (ha : inW a) (hb : inW b) : betw a b 0 = a := by
  unfold betw
  rw [if_pos ⟨ha, hb⟩, show clT 0 = 0 from rfl, Int.mul_zero]
  simp
theorem betw_1 {a b : Int} (ha : inW a) (hb : inW b) : betw a b 65535 = b := by
  unfold betw
  rw [if_pos ⟨ha, hb⟩, show clT 65535 = 65535 from rfl, Int.mul_ediv_cancel _ (by decide)]
  omega
theorem betw_same {a : Int} (ha : inW a) (t : Int) : betw a a t = a := by
  unfold betw
  rw [if_pos ⟨ha, ha⟩, Int.sub_self, Int.zero_mul]
  simp
/-- of greater ones -/
theorem betw_mono {a b a' b' t : Int} (ha : inW a) (hb : inW b) (ha' : inW a') (hb' : inW b') (h : a ≤ a') (k : b ≤ b') : betw a b t ≤ betw a' b' t := by
  unfold betw
  rw [if_pos ⟨ha, hb⟩, if_pos ⟨ha', hb'⟩]
  obtain ⟨c0, c1⟩ := clT_r t
  generalize clT t = c at *
  have e : ∀ x y : Int, x + ((y - x) * c) / 65535 = (x * (65535 - c) + y * c) / 65535 := by
    intro x y
    have : x * (65535 - c) + y * c = (y - x) * c + x * 65535 := by
      rw [Int.mul_sub, Int.sub_mul]; omega
    rw [this, Int.add_mul_ediv_right _ _ (by decide)]; omega
  rw [e, e]
  refine Int.ediv_le_ediv (by decide) ?_
  have p1 := Int.mul_le_mul_of_nonneg_right h (show 0 ≤ 65535 - c by omega)
  have p2 := Int.mul_le_mul_of_nonneg_right k c0
  omega
end Go.AI
set_option linter.unusedVariables false
set_option linter.unusedSimpArgs false
set_option maxRecDepth 100000
namespace Go.AI
open Go Go.Proofs

def btC (t : Int) (a b : I4) : I4 := (betw a.1 b.1 t, betw a.2.1 b.2.1 t, betw a.2.2.1 b.2.2.1 t, betw a.2.2.2 b.2.2.2 t)
def btM (t : Int) (a b : Mat) : Mat := (betw a.1 b.1 t, betw a.2.1 b.2.1 t, betw a.2.2.1 b.2.2.1 t, betw a.2.2.2.1 b.2.2.2.1 t, betw a.2.2.2.2.1 b.2.2.2.2.1 t, betw a.2.2.2.2.2 b.2.2.2.2.2 t)
def btStop (t : Int) (a b : Stop) : Stop := ⟨betw a.ratio b.ratio t, btC t a.color b.color⟩
def btFill (t : Int) (a b : Fill) : Fill := ⟨a.kind, btC t a.color b.color, btM t a.mat b.mat, a.spread, List.zipWith (btStop t) a.stops b.stops, a.id⟩
def btStrk (t : Int) (a b : Strk) : Strk := ⟨betw a.width b.width t, btC t a.color b.color⟩
def curv (r : Rec) : Rec := if r.kind = 4 then ⟨5, r.x - r.x / 2, r.y - r.y / 2, r.x / 2, r.y / 2, 0, 0, 0, [], []⟩ else r
/-- numbers that are not too great -/
def wC (c : I4) : Prop := inW c.1 ∧ inW c.2.1 ∧ inW c.2.2.1 ∧ inW c.2.2.2
def wM (m : Mat) : Prop := inW m.1 ∧ inW m.2.1 ∧ inW m.2.2.1 ∧ inW m.2.2.2.1 ∧ inW m.2.2.2.2.1 ∧ inW m.2.2.2.2.2
def wStop (s : Stop) : Prop := inW s.ratio ∧ wC s.color
structure wFill (f : Fill) : Prop where
  c : wC f.color
  m : wM f.mat
  s : ∀ s, s ∈ f.stops → wStop s
def wStrk (s : Strk) : Prop := inW s.width ∧ wC s.color
theorem inW0 : inW 0 := by unfold inW; omega
theorem inW_of {a lo hi : Int} (h : lo ≤ a ∧ a ≤ hi) (h1 : -1099511627776 ≤ lo) (h2 : hi ≤ 1099511627776) : inW a := by unfold inW; omega
theorem rgba_w {c : I4} (h : rgbaB c = true) : wC c := by
  obtain ⟨a, b, c, d⟩ := rgba_range h
  exact ⟨inW_of a (by decide) (by decide), inW_of b (by decide) (by decide), inW_of c (by decide) (by decide), inW_of d (by decide) (by decide)⟩
theorem mB_iff {m : Mat} : mB m = true ↔ ((-4194304 ≤ m.1 ∧ m.1 ≤ 4194304) ∧ (-4194304 ≤ m.2.1 ∧ m.2.1 ≤ 4194304) ∧ (-4194304 ≤ m.2.2.1 ∧ m.2.2.1 ≤ 4194304) ∧ (-4194304 ≤ m.2.2.2.1 ∧ m.2.2.2.1 ≤ 4194304)) ∧ (-1048576 ≤ m.2.2.2.2.1 ∧ m.2.2.2.2.1 ≤ 1048576) ∧ (-1048576 ≤ m.2.2.2.2.2 ∧ m.2.2.2.2.2 ≤ 1048576) := by
  unfold mB matB
  simp [inB2, and_assoc]
theorem rgba_iff {c : I4} : rgbaB c = true ↔ (0 ≤ c.1 ∧ c.1 ≤ 255) ∧ (0 ≤ c.2.1 ∧ c.2.1 ≤ 255) ∧ (0 ≤ c.2.2.1 ∧ c.2.2.1 ≤ 255) ∧ (0 ≤ c.2.2.2 ∧ c.2.2.2 ≤ 255) := by
  unfold rgbaB I4.l
  simp [inB2, and_assoc]
theorem fr4_iff {c : I4} : frB4 c = true ↔ ((-1048576 ≤ c.1 ∧ c.1 ≤ 1048576) ∧ (-1048576 ≤ c.2.1 ∧ c.2.1 ≤ 1048576) ∧ (-1048576 ≤ c.2.2.1 ∧ c.2.2.1 ≤ 1048576) ∧ (-1048576 ≤ c.2.2.2 ∧ c.2.2.2 ≤ 1048576)) ∧ c.1 ≤ c.2.1 ∧ c.2.2.1 ≤ c.2.2.2 := by
  unfold frB4 rectB
  simp [inB2, and_assoc]
theorem mat_w {m : Mat} (h : mB m = true) : wM m := by
  obtain ⟨⟨a, b, c, d⟩, e, f⟩ := mB_iff.1 h
  exact ⟨inW_of a (by decide) (by decide), inW_of b (by decide) (by decide), inW_of c (by decide) (by decide), inW_of d (by decide) (by decide), inW_of e (by decide) (by decide), inW_of f (by decide) (by decide)⟩
theorem fr4_w {c : I4} (h : frB4 c = true) : wC c := by
  obtain ⟨⟨a, b, c, d⟩, _⟩ := fr4_iff.1 h
  exact ⟨inW_of a (by decide) (by decide), inW_of b (by decide) (by decide), inW_of c (by decide) (by decide), inW_of d (by decide) (by decide)⟩
theorem wC0 : wC (0, 0, 0, 0) := ⟨inW0, inW0, inW0, inW0⟩
theorem wM0 : wM (0, 0, 0, 0, 0, 0) := ⟨inW0, inW0, inW0, inW0, inW0, inW0⟩
theorem stops_w : ∀ (l : List Stop) (last : Int), 0 ≤ last → stopsB last l = true → ∀ s, s ∈ l → wStop s
  | [], _, _, _, s, hs => by cases hs
  | x :: l, last, h0, h, s, hs => by
    obtain ⟨hc, hr, h1, h2⟩ := stopsB_cons h
    rcases List.mem_cons.1 hs with rfl | hs
    · exact ⟨by unfold inW; omega, rgba_w hc⟩
    · exact stops_w l x.ratio (by omega) hr s hs
theorem fill_w {f : Fill} (h : fillB f = true) : wFill f := by
  cases k : kindS f.kind with
  | true =>
    obtain ⟨a, b⟩ := fillB_solid h k
    rw [b]
    exact ⟨rgba_w a, wM0, fun s hs => by cases hs⟩
  | false =>
    cases k' : kindP f.kind with
    | true =>
      obtain ⟨a, _, _, b⟩ := fillB_pic h k k'
      rw [b]
      exact ⟨wC0, mat_w a, fun s hs => by cases hs⟩
    | false =>
      obtain ⟨_, b, hs, hm, _⟩ := fillB_grad h k k'
      rw [b]
      exact ⟨wC0, mat_w hm, stops_w _ 0 (Int.le_refl _) hs⟩
theorem strk_w {s : Strk} (h : strkB s = true) : wStrk s := by
  unfold strkB at h
  simp only [Bool.and_eq_true, decide_eq_true_eq] at h
  exact ⟨by unfold inW; omega, rgba_w h.2.2⟩
/-! ### the same -/
theorem btC_same {c : I4} (h : wC c) (t : Int) : btC t c c = c := by
  obtain ⟨a, b, d, e⟩ := h
  unfold btC
  rw [betw_same a, betw_same b, betw_same d, betw_same e]
theorem btM_same {m : Mat} (h : wM m) (t : Int) : btM t m m = m := by
  obtain ⟨a, b, c, d, e, f⟩ := h
  unfold btM
  rw [betw_same a, betw_same b, betw_same c, betw_same d, betw_same e, betw_same f]
/-! ### the ends -/
theorem btC_0 {a b : I4} (h : wC a) (k : wC b) : btC 0 a b = a := by
  obtain ⟨a1, a2, a3, a4⟩ := h
  obtain ⟨b1, b2, b3, b4⟩ := k
  unfold btC
  rw [betw_0 a1 b1, betw_0 a2 b2, betw_0 a3 b3, betw_0 a4 b4]
theorem btC_1 {a b : I4} (h : wC a) (k : wC b) : btC 65535 a b = b := by
  obtain ⟨a1, a2, a3, a4⟩ := h
  obtain ⟨b1, b2, b3, b4⟩ := k
  unfold btC
  rw [betw_1 a1 b1, betw_1 a2 b2, betw_1 a3 b3, betw_1 a4 b4]
theorem btStrk_0 {a b : Strk} (h : wStrk a) (k : wStrk b) : btStrk 0 a b = a := by
  unfold btStrk
  rw [betw_0 h.1 k.1, btC_0 h.2 k.2]
theorem btStrk_1 {a b : Strk} (h : wStrk a) (k : wStrk b) : btStrk 65535 a b = b := by
  unfold btStrk
  rw [betw_1 h.1 k.1, btC_1 h.2 k.2]
/-! ### what is right stays right -/
theorem rgba_bt {a b : I4} (h : rgbaB a = true) (k : rgbaB b = true) (t : Int) : rgbaB (btC t a b) = true := by
  obtain ⟨a1, a2, a3, a4⟩ := rgba_w h
  obtain ⟨b1, b2, b3, b4⟩ := rgba_w k
  obtain ⟨p1, p2, p3, p4⟩ := rgba_iff.1 h
  obtain ⟨q1, q2, q3, q4⟩ := rgba_iff.1 k
  exact rgba_iff.2 ⟨betw_rng a1 b1 p1 q1, betw_rng a2 b2 p2 q2, betw_rng a3 b3 p3 q3, betw_rng a4 b4 p4 q4⟩
theorem mat_bt {a b : Mat} (h : mB a = true) (k : mB b = true) (t : Int) : mB (btM t a b) = true := by
  obtain ⟨a1, a2, a3, a4, a5, a6⟩ := mat_w h
  obtain ⟨b1, b2, b3, b4, b5, b6⟩ := mat_w k
  obtain ⟨⟨p1, p2, p3, p4⟩, p5, p6⟩ := mB_iff.1 h
  obtain ⟨⟨q1, q2, q3, q4⟩, q5, q6⟩ := mB_iff.1 k
  exact mB_iff.2 ⟨⟨betw_rng a1 b1 p1 q1, betw_rng a2 b2 p2 q2, betw_rng a3 b3 p3 q3, betw_rng a4 b4 p4 q4⟩, betw_rng a5 b5 p5 q5, betw_rng a6 b6 p6 q6⟩
theorem fr4_bt {a b : I4} (h : frB4 a = true) (k : frB4 b = true) (t : Int) : frB4 (btC t a b) = true := by
  obtain ⟨a1, a2, a3, a4⟩ := fr4_w h
  obtain ⟨b1, b2, b3, b4⟩ := fr4_w k
  obtain ⟨⟨p1, p2, p3, p4⟩, p5, p6⟩ := fr4_iff.1 h
  obtain ⟨⟨q1, q2, q3, q4⟩, q5, q6⟩ := fr4_iff.1 k
  exact fr4_iff.2 ⟨⟨betw_rng a1 b1 p1 q1, betw_rng a2 b2 p2 q2, betw_rng a3 b3 p3 q3, betw_rng a4 b4 p4 q4⟩, betw_mono a1 b1 a2 b2 p5 q5, betw_mono a3 b3 a4 b4 p6 q6⟩
theorem stops_bt (t : Int) : ∀ (l m : List Stop) (u v : Int), 0 ≤ u → u ≤ 255 → 0 ≤ v → v ≤ 255 → stopsB u l = true → stopsB v m = true → l.length = m.length → stopsB (betw u v t) (List.zipWith (btStop t) l m) = true
  | [], [], _, _, _, _, _, _, _, _, _ => rfl
  | [], y :: m, _, _, _, _, _, _, _, _, hl => by cases hl
  | x :: l, [], _, _, _, _, _, _, _, _, hl => by cases hl
  | x :: l, y :: m, u, v, u0, u1, v0, v1, h, k, hl => by
    obtain ⟨hc, hr, h1, h2⟩ := stopsB_cons h
    obtain ⟨kc, kr, k1, k2⟩ := stopsB_cons k
    have wu : inW u := by unfold inW; omega
    have wv : inW v := by unfold inW; omega
    have wx : inW x.ratio := by unfold inW; omega
    have wy : inW y.ratio := by unfold inW; omega
    have ih := stops_bt t l m x.ratio y.ratio (by omega) h2 (by omega) k2 hr kr (by simpa using hl)
    rw [List.zipWith_cons_cons]
    unfold stopsB stopB
    simp only [Bool.and_eq_true, decide_eq_true_eq]
    exact ⟨⟨betw_mono wu wv wx wy h1 k1, (betw_rng wx wy (lo := 0) (hi := 255) (by omega) (by omega)).2, rgba_bt hc kc t⟩, ih⟩
theorem btC_zero (t : Int) : btC t (0, 0, 0, 0) (0, 0, 0, 0) = (0, 0, 0, 0) := btC_same wC0 t
theorem btM_zero (t : Int) : btM t (0, 0, 0, 0, 0, 0) (0, 0, 0, 0, 0, 0) = (0, 0, 0, 0, 0, 0) := btM_same wM0 t
theorem pairB_r {a b : Fill} (h : pairB a b = true) : a.kind = b.kind ∧ a.spread = b.spread ∧ a.id = b.id ∧ a.stops.length = b.stops.length := by
  unfold pairB at h
  simp only [Bool.and_eq_true, beq_iff_eq] at h
  exact ⟨h.1, h.2.1, h.2.2.1, by omega⟩
theorem fill_bt {a b : Fill} (ha : fillB a = true) (hb : fillB b = true) (hp : pairB a b = true) (t : Int) : fillB (btFill t a b) = true := by
  obtain ⟨p1, p2, p3, p4⟩ := pairB_r hp
  cases k : kindS a.kind with
  | true =>
    have k' : kindS b.kind = true := by rw [← p1]; exact k
    obtain ⟨a1, a2⟩ := fillB_solid ha k
    obtain ⟨b1, b2⟩ := fillB_solid hb k'
    unfold fillB
    rw [show kindS (btFill t a b).kind = true from k, cond_true, Bool.and_eq_true, decide_eq_true_eq]
    refine ⟨rgba_bt a1 b1 t, ?_⟩
    unfold btFill
    rw [a2, b2]
    simp [btM_zero]
  | false =>
    have k1 : kindS b.kind = false := by rw [← p1]; exact k
    cases k' : kindP a.kind with
    | true =>
      have k2 : kindP b.kind = true := by rw [← p1]; exact k'
      obtain ⟨a1, a2, a3, a4⟩ := fillB_pic ha k k'
      obtain ⟨b1, b2, b3, b4⟩ := fillB_pic hb k1 k2
      unfold fillB
      rw [show kindS (btFill t a b).kind = false from k, cond_false, show kindP (btFill t a b).kind = true from k', cond_true]
      simp only [Bool.and_eq_true, decide_eq_true_eq]
      refine ⟨mat_bt a1 b1 t, a2, a3, ?_⟩
      unfold btFill
      rw [a4, b4]
      simp [btC_zero]
    | false =>
      have k2 : kindP b.kind = false := by rw [← p1]; exact k'
      obtain ⟨a0, a1, a2, a3, a4, a5, a6, a7⟩ := fillB_grad ha k k'
      obtain ⟨b0, b1, b2, b3, b4, b5, b6, b7⟩ := fillB_grad hb k1 k2
      have hl : (btFill t a b).stops.length = a.stops.length := by
        show (List.zipWith (btStop t) a.stops b.stops).length = _
        rw [List.length_zipWith, ← p4, Nat.min_self]
      have hst := stops_bt t a.stops b.stops 0 0 (by decide) (by decide) (by decide) (by decide) a2 b2 p4
      rw [betw_same inW0] at hst
      unfold fillB
      rw [show kindS (btFill t a b).kind = false from k, cond_false, show kindP (btFill t a b).kind = false from k', cond_false, show kindG (btFill t a b).kind = true from a0, Bool.true_and]
      have e : btFill t a b = ⟨(btFill t a b).kind, (0, 0, 0, 0), (btFill t a b).mat, (btFill t a b).spread, (btFill t a b).stops, 0⟩ := by
        have ca : a.color = (0, 0, 0, 0) := by rw [a1]
        have cb : b.color = (0, 0, 0, 0) := by rw [b1]
        have ia : a.id = 0 := by rw [a1]
        unfold btFill
        simp only
        rw [ca, cb, btC_zero, ia]
      rw [decide_eq_true e, cond_true]
      unfold gradB
      simp only [Bool.and_eq_true, decide_eq_true_eq, hl]
      exact ⟨hst, mat_bt a3 b3 t, a4, a5, by omega, by omega⟩
theorem strk_bt {a b : Strk} (ha : strkB a = true) (hb : strkB b = true) (t : Int) : strkB (btStrk t a b) = true := by
  obtain ⟨a1, a2⟩ := strk_w ha
  obtain ⟨b1, b2⟩ := strk_w hb
  unfold strkB at *
  simp only [Bool.and_eq_true, decide_eq_true_eq] at *
  have := betw_rng a1 b1 (t := t) (lo := 0) (hi := 65535) (by omega) (by omega)
  exact ⟨this.1, (by have := this.2; show betw _ _ _ < 65536; omega), rgba_bt ha.2.2 hb.2.2 t⟩
theorem fills_bt (t : Int) : ∀ (l m : List Fill), (∀ f, f ∈ l → fillB f = true) → (∀ f, f ∈ m → fillB f = true) → pairsB l m = true → ∀ f, f ∈ List.zipWith (btFill t) l m → fillB f = true
  | [], [], _, _, _, f, hf => by cases hf
  | [], y :: m, _, _, h, _, _ => by cases h
  | x :: l, [], _, _, h, _, _ => by cases h
  | x :: l, y :: m, hl, hm, h, f, hf => by
    unfold pairsB at h
    rw [Bool.and_eq_true] at h
    rw [List.zipWith_cons_cons] at hf
    rcases List.mem_cons.1 hf with rfl | hf
    · exact fill_bt (hl x (by simp)) (hm y (by simp)) h.1 t
    · exact fills_bt t l m (fun f hf => hl f (by simp [hf])) (fun f hf => hm f (by simp [hf])) h.2 f hf
theorem strks_bt (t : Int) : ∀ (l m : List Strk), (∀ f, f ∈ l → strkB f = true) → (∀ f, f ∈ m → strkB f = true) → ∀ f, f ∈ List.zipWith (btStrk t) l m → strkB f = true
  | [], _, _, _, f, hf => by simp at hf
  | _ :: _, [], _, _, f, hf => by simp at hf
  | x :: l, y :: m, hl, hm, f, hf => by
    rw [List.zipWith_cons_cons] at hf
    rcases List.mem_cons.1 hf with rfl | hf
    · exact strk_bt (hl x (by simp)) (hm y (by simp)) t
    · exact strks_bt t l m (fun f hf => hl f (by simp [hf])) (fun f hf => hm f (by simp [hf])) f hf
theorem lists_bt {l l' : List Fill} {m m' : List Strk} (h : listsB l m = true) (h' : listsB l' m' = true) (hp : pairsB l l' = true) (hm : m.length = m'.length) (t : Int) : listsB (List.zipWith (btFill t) l l') (List.zipWith (btStrk t) m m') = true := by
  obtain ⟨a1, a2, a3, a4⟩ := listsB_r h
  obtain ⟨b1, b2, b3, b4⟩ := listsB_r h'
  have e := pairsB_len hp
  unfold listsB
  simp only [Bool.and_eq_true, decide_eq_true_eq, List.all_eq_true, List.length_zipWith, ← e, ← hm, Nat.min_self]
  exact ⟨by omega, by omega, fills_bt t l l' a3 b3 hp, strks_bt t m m' a4 b4⟩
end Go.AI
set_option linter.unusedVariables false
set_option linter.unusedSimpArgs false
set_option maxRecDepth 100000
namespace Go.AI
open Go Go.Proofs

structure Pen (r : Rec) : Prop where
  k : r.kind = 1 ∨ r.kind = 4 ∨ r.kind = 5
  el : r.left = 0
  er : r.right = 0
  en : r.line = 0
  ef : r.fills = []
  es : r.strks = []
  c : r.kind ≠ 5 → r.cx = 0 ∧ r.cy = 0
  x : (r.kind = 1 → -1048576 ≤ r.x ∧ r.x ≤ 1048576) ∧ (r.kind ≠ 1 → -65536 ≤ r.x ∧ r.x ≤ 65535)
  y : (r.kind = 1 → -1048576 ≤ r.y ∧ r.y ≤ 1048576) ∧ (r.kind ≠ 1 → -65536 ≤ r.y ∧ r.y ≤ 65535)
  cx : -65536 ≤ r.cx ∧ r.cx ≤ 65535
  cy : -65536 ≤ r.cy ∧ r.cy ≤ 65535
theorem noLi_r {r : Rec} (h : noLi r) : r.fills = [] ∧ r.strks = [] := by
  unfold noLi at h
  simpa [List.length_eq_zero_iff] using h
theorem pen_of {r : Rec} {f s : Int} (h : recB r f s = true) (k2 : r.kind ≠ 2) (k3 : r.kind ≠ 3) : Pen r := by
  rcases recB_kind h with k | k | k | k | k
  · obtain ⟨⟨⟨a1, a2, a3⟩, b, c1, c2⟩, hx, hy⟩ := recB_move h k
    obtain ⟨d1, d2⟩ := noLi_r b
    exact ⟨.inl k, a1, a2, a3, d1, d2, fun _ => ⟨c1, c2⟩, ⟨fun _ => hx, fun n => absurd k n⟩, ⟨fun _ => hy, fun n => absurd k n⟩, by omega, by omega⟩
  · exact absurd k k2
  · exact absurd k k3
  · obtain ⟨⟨⟨a1, a2, a3⟩, b, c1, c2⟩, hx, hy⟩ := recB_line h k
    obtain ⟨d1, d2⟩ := noLi_r b
    exact ⟨.inr (.inl k), a1, a2, a3, d1, d2, fun _ => ⟨c1, c2⟩, ⟨fun n => by omega, fun _ => hx⟩, ⟨fun n => by omega, fun _ => hy⟩, by omega, by omega⟩
  · obtain ⟨⟨⟨a1, a2, a3⟩, b⟩, hx, hy, hcx, hcy⟩ := recB_curve h k
    obtain ⟨d1, d2⟩ := noLi_r b
    exact ⟨.inr (.inr k), a1, a2, a3, d1, d2, fun n => absurd k n, ⟨fun n => by omega, fun _ => hx⟩, ⟨fun n => by omega, fun _ => hy⟩, hcx, hcy⟩
theorem Pen.recB {r : Rec} (h : Pen r) (f s : Int) : recB r f s = true := by
  have hst : noSt r := ⟨h.el, h.er, h.en⟩
  have hli : noLi r := by unfold noLi; rw [h.ef, h.es]; exact ⟨rfl, rfl⟩
  unfold Go.AI.recB
  rcases h.k with k | k | k
  · rw [k]
    exact decide_eq_true ⟨hst, hli, h.c (by omega), h.x.1 k, h.y.1 k⟩
  · rw [k]
    exact decide_eq_true ⟨hst, hli, h.c (by omega), h.x.2 (by omega), h.y.2 (by omega)⟩
  · rw [k]
    exact decide_eq_true ⟨hst, hli, h.x.2 (by omega), h.y.2 (by omega), h.cx, h.cy⟩
structure wRec (r : Rec) : Prop where
  x : -1048576 ≤ r.x ∧ r.x ≤ 1048576
  y : -1048576 ≤ r.y ∧ r.y ≤ 1048576
  cx : -1048576 ≤ r.cx ∧ r.cx ≤ 1048576
  cy : -1048576 ≤ r.cy ∧ r.cy ≤ 1048576
theorem Pen.w {r : Rec} (h : Pen r) : wRec r := by
  have cx := h.cx
  have cy := h.cy
  rcases h.k with k | k | k
  · exact ⟨h.x.1 k, h.y.1 k, by omega, by omega⟩
  · have hx := h.x.2 (by omega); have hy := h.y.2 (by omega)
    exact ⟨by omega, by omega, by omega, by omega⟩
  · have hx := h.x.2 (by omega); have hy := h.y.2 (by omega)
    exact ⟨by omega, by omega, by omega, by omega⟩
theorem wRec.inX {r : Rec} (h : wRec r) : inW r.x ∧ inW r.y ∧ inW r.cx ∧ inW r.cy :=
  ⟨inW_of h.x (by decide) (by decide), inW_of h.y (by decide) (by decide), inW_of h.cx (by decide) (by decide), inW_of h.cy (by decide) (by decide)⟩
theorem Pen.curv {r : Rec} (h : Pen r) : Pen (curv r) := by
  unfold Go.AI.curv
  split
  · rename_i k
    have hx := h.x.2 (by omega)
    have hy := h.y.2 (by omega)
    exact ⟨.inr (.inr rfl), rfl, rfl, rfl, rfl, rfl, fun n => absurd rfl n, ⟨fun n => (by cases n), fun _ => (by dsimp only; omega)⟩, ⟨fun n => (by cases n), fun _ => (by dsimp only; omega)⟩, (by dsimp only; omega), (by dsimp only; omega)⟩
  · exact h
def btRec (t : Int) (a b : Rec) : Rec := ⟨a.kind, betw a.x b.x t, betw a.y b.y t, betw a.cx b.cx t, betw a.cy b.cy t, 0, 0, 0, [], []⟩
theorem Pen.bt {a b : Rec} (ha : Pen a) (hb : Pen b) (hk : a.kind = b.kind) (t : Int) : Pen (btRec t a b) := by
  obtain ⟨a1, a2, a3, a4⟩ := ha.w.inX
  obtain ⟨b1, b2, b3, b4⟩ := hb.w.inX
  refine ⟨ha.k, rfl, rfl, rfl, rfl, rfl, fun n => ?_, ⟨fun k => betw_rng a1 b1 (ha.x.1 k) (hb.x.1 (hk ▸ k)), fun k => betw_rng a1 b1 (ha.x.2 k) (hb.x.2 (fun e => k (hk.trans e)))⟩, ⟨fun k => betw_rng a2 b2 (ha.y.1 k) (hb.y.1 (hk ▸ k)), fun k => betw_rng a2 b2 (ha.y.2 k) (hb.y.2 (fun e => k (hk.trans e)))⟩, betw_rng a3 b3 ha.cx hb.cx, betw_rng a4 b4 ha.cy hb.cy⟩
  obtain ⟨x1, x2⟩ := ha.c n
  obtain ⟨y1, y2⟩ := hb.c (fun e => n (hk.trans e))
  show betw a.cx b.cx t = 0 ∧ betw a.cy b.cy t = 0
  rw [x1, x2, y1, y2, betw_same inW0]
  exact ⟨rfl, rfl⟩
theorem rec_is {a : Rec} (h : Pen a) {x y cx cy : Int} (hx : x = a.x) (hy : y = a.y) (hcx : cx = a.cx) (hcy : cy = a.cy) : (⟨a.kind, x, y, cx, cy, 0, 0, 0, [], []⟩ : Rec) = a := by
  obtain ⟨k, l, r, n, f, s, _⟩ := h
  obtain ⟨a1, a2, a3, a4, a5, a6, a7, a8, a9, a10⟩ := a
  simp only at *
  subst hx hy hcx hcy l r n f s
  rfl
theorem Pen.bt_0 {a b : Rec} (ha : Pen a) (hb : Pen b) : btRec 0 a b = a := by
  obtain ⟨a1, a2, a3, a4⟩ := ha.w.inX
  obtain ⟨b1, b2, b3, b4⟩ := hb.w.inX
  exact rec_is ha (betw_0 a1 b1) (betw_0 a2 b2) (betw_0 a3 b3) (betw_0 a4 b4)
/-! ### both -/
def both (a b : Rec) : Rec × Rec := if a.kind = b.kind then (a, b) else (curv a, curv b)
def pairsAt : List Rec → List Rec → Option (List (Rec × Rec))
  | [], [] => some []
  | [], _ :: _ => none
  | r :: l, g => if r.kind = 2 then (pairsAt l g).map ((r, r) :: ·) else
    match g with
    | [] => none
    | b :: g => if (both r b).1.kind = (both r b).2.kind then (pairsAt l g).map (both r b :: ·) else none
def ptAt (t : Int) (p : Rec × Rec) : Rec := if p.1.kind = 2 then p.1 else btRec t p.1 p.2
theorem both_pen {a b : Rec} (ha : Pen a) (hb : Pen b) : Pen (both a b).1 ∧ Pen (both a b).2 := by
  unfold both
  split
  · exact ⟨ha, hb⟩
  · exact ⟨ha.curv, hb.curv⟩
theorem pen2 {r : Rec} (h : Pen r) : r.kind ≠ 2 := by rcases h.k with k | k | k <;> omega
theorem pen3 {r : Rec} (h : Pen r) : r.kind ≠ 3 := by rcases h.k with k | k | k <;> omega
/-- what stands at a place, by the record there -/
inductive Duo (f s : Int) (o : Rec) (p : Rec × Rec) : Prop
  | set (k : o.kind = 2) (e : p = (o, o)) (h : recB o f s = true) : Duo f s o p
  | pen (k : o.kind ≠ 2) (a : Pen p.1) (b : Pen p.2) (e : p.1.kind = p.2.kind) (h : p.1.kind = o.kind → p.1 = o) : Duo f s o p
inductive Duos (f s : Int) : List Rec → List (Rec × Rec) → Prop
  | nil : Duos f s [] []
  | cons {o : Rec} {p : Rec × Rec} {l : List Rec} {d : List (Rec × Rec)} (h : Duo f s o p) (t : Duos f s l d) : Duos f s (o :: l) (p :: d)
theorem recsB_1 {f s : Int} : ∀ {l : List Rec}, recsB f s l 1 = true → ∀ r, r ∈ l → recB r f s = true ∧ r.kind ≠ 3
  | [], _, r, hr => by cases hr
  | x :: l, h, r, hr => by
    unfold recsB at h
    simp only [Bool.and_eq_true] at h
    obtain ⟨⟨h1, h2⟩, h3⟩ := h
    have k3 : (x.kind == 3) = false := by
      unfold kindB at h2
      simp only [Bool.and_eq_true, Bool.not_eq_true'] at h2
      simpa using h2.1
    unfold nextF at h3
    rw [k3, cond_false] at h3
    rcases List.mem_cons.1 hr with rfl | hr
    · exact ⟨h1, by simpa using k3⟩
    · exact recsB_1 h3 r hr
theorem recsB_2 {f s : Int} : ∀ {l : List Rec}, recsB f s l 2 = true → ∀ r, r ∈ l → Pen r
  | [], _, r, hr => by cases hr
  | x :: l, h, r, hr => by
    unfold recsB at h
    simp only [Bool.and_eq_true] at h
    obtain ⟨⟨h1, h2⟩, h3⟩ := h
    have k : (x.kind == 3) = false ∧ (x.kind == 2) = false := by
      unfold kindB at h2
      simpa using h2
    unfold nextF at h3
    rw [k.1, cond_false] at h3
    rcases List.mem_cons.1 hr with rfl | hr
    · exact pen_of h1 (by simpa using k.2) (by simpa using k.1)
    · exact recsB_2 h3 r hr
theorem duos_of {f s : Int} : ∀ {l g : List Rec} {d : List (Rec × Rec)}, (∀ r, r ∈ l → recB r f s = true ∧ r.kind ≠ 3) → (∀ r, r ∈ g → Pen r) → pairsAt l g = some d → Duos f s l d
  | [], [], d, _, _, h => by
    unfold pairsAt at h
    cases h
    exact .nil
  | [], _ :: _, d, _, _, h => by
    unfold pairsAt at h
    cases h
  | r :: l, g, d, hl, hg, h => by
    obtain ⟨hr, k3⟩ := hl r (by simp)
    have hl' : ∀ x, x ∈ l → recB x f s = true ∧ x.kind ≠ 3 := fun x hx => hl x (by simp [hx])
    unfold pairsAt at h
    split at h
    · rename_i k
      obtain ⟨e, h1, rfl⟩ := Option.map_eq_some_iff.1 h
      exact .cons (.set k rfl hr) (duos_of hl' hg h1)
    · rename_i k
      cases g with
      | nil => cases h
      | cons b g =>
        dsimp only at h
        split at h
        · rename_i ke
          obtain ⟨e, h1, rfl⟩ := Option.map_eq_some_iff.1 h
          have pr := pen_of hr k k3
          obtain ⟨p1, p2⟩ := both_pen pr (hg b (by simp))
          refine .cons (.pen k p1 p2 ke (fun kk => ?_)) (duos_of hl' (fun x hx => hg x (by simp [hx])) h1)
          unfold both at kk ⊢
          split
          · rfl
          · rename_i kn
            rw [if_neg kn] at kk
            show curv r = r
            have kk : (curv r).kind = r.kind := kk
            unfold curv at kk ⊢
            split
            · rename_i k4
              rw [if_pos k4] at kk
              have : (5 : Int) = r.kind := kk
              omega
            · rfl
        · cases h
theorem pt_ok {f s : Int} {o : Rec} {p : Rec × Rec} (h : Duo f s o p) (t : Int) : recB (ptAt t p) f s = true ∧ (ptAt t p).kind ≠ 3 ∧ (ptAt t p).sh := by
  unfold ptAt
  cases h with
  | set k e h =>
    rw [e, if_pos k]
    refine ⟨h, by show o.kind ≠ 3; omega, ?_⟩
    obtain ⟨⟨a, _⟩, _⟩ := recB_set h k
    obtain ⟨a1, a2⟩ := noLi_r a
    refine ⟨by rw [a1]; exact Nat.zero_le _, by rw [a2]; exact Nat.zero_le _, ?_⟩
    show Shorts o.fills
    rw [a1]; intro f hf; cases hf
  | pen k a b e h =>
    rw [if_neg (pen2 a)]
    have q := Pen.bt a b e t
    exact ⟨q.recB f s, pen3 q, Nat.zero_le _, Nat.zero_le _, fun f hf => by cases hf⟩
theorem Duos.right {f s : Int} : ∀ {l : List Rec} {d : List (Rec × Rec)}, Duos f s l d → ∀ t : Int, recsB f s (d.map (ptAt t)) 0 = true ∧ Shs (d.map (ptAt t)) ∧ d.length = l.length
  | _, _, .nil, t => ⟨rfl, (fun r hr => by cases hr), rfl⟩
  | _, _, .cons (o := o) (p := p) (l := l) (d := d) h q, t => by
    obtain ⟨a1, a2, a3⟩ := pt_ok h t
    obtain ⟨b1, b2, b3⟩ := Duos.right q t
    refine ⟨?_, ?_, by simp [b3]⟩
    · rw [List.map_cons]
      unfold recsB
      have k3 : ((ptAt t p).kind == 3) = false := by simpa using a2
      rw [a1]
      unfold kindB nextF
      rw [k3, cond_false]
      simp only [Bool.false_and, Bool.not_false, Bool.true_and]
      rw [b1, Bool.and_true]
      simp
    · intro r hr
      rw [List.map_cons] at hr
      rcases List.mem_cons.1 hr with rfl | hr
      · exact a3
      · exact b2 r hr
end Go.AI
set_option linter.unusedVariables false
set_option linter.unusedSimpArgs false
set_option maxRecDepth 100000
namespace Go.AI
open Go Go.Proofs

theorem mul64_1 {x : Int} (h0 : 0 ≤ x) (h1 : x < 18446744073709551616) : cW f_math_bits_Mul64 [.i x, .i 1] [] = some ([.i 0, .i x], []) := by
  obtain ⟨n, rfl⟩ := Int.eq_ofNat_of_zero_le h0
  have hn : n < 18446744073709551616 := by omega
  rw [w_math_bits_Mul64]
  have e1 : shr .u64 1 32 = 0 := by decide
  have e2 : bitsOp .and .u64 1 4294967295 = 1 := by decide
  have e3 : shr .u64 (n : Int) 32 = ((n / 4294967296 : Nat) : Int) := shrN (y := 32) (by decide)
  have e4 : bitsOp .and .u64 (n : Int) 4294967295 = ((n % 4294967296 : Nat) : Int) := by
    have := andN (k := .u64) (x := n) (y := 4294967295) hn (by decide)
    rw [show ((4294967295 : Nat) : Int) = 4294967295 from rfl] at this
    rw [this, show n &&& 4294967295 = n % 4294967296 from Nat.and_two_pow_sub_one_eq_mod n 32, wrapU64 (by omega) (by omega)]
  have e5 : ∀ k : Nat, k < 4294967296 → shr .u64 (k : Int) 32 = 0 := by
    intro k hk
    have := shrN (k := .u64) (x := k) (y := 32) (by decide)
    rw [show ((32 : Nat) : Int) = 32 from rfl] at this
    rw [this, show k / 2 ^ 32 = 0 from Nat.div_eq_of_lt hk]; rfl
  rw [e1, e2, e3, e4]
  simp only [Int.mul_one, Int.mul_zero]
  rw [wrapU64 (n := ((n / 4294967296 : Nat) : Int)) (by omega) (by omega), wrapU64 (n := ((n % 4294967296 : Nat) : Int)) (by omega) (by omega), e5 _ (Nat.mod_lt _ (by decide)), Int.add_zero,
    wrapU64 (n := ((n / 4294967296 : Nat) : Int)) (by omega) (by omega), e5 _ (by omega)]
  have e6 : bitsOp .and .u64 ((n / 4294967296 : Nat) : Int) 4294967295 = ((n / 4294967296 : Nat) : Int) := by
    have := andN (k := .u64) (x := n / 4294967296) (y := 4294967295) (by show _ < 18446744073709551616; omega) (by decide)
    rw [show ((4294967295 : Nat) : Int) = 4294967295 from rfl] at this
    rw [this, show n / 4294967296 &&& 4294967295 = n / 4294967296 % 4294967296 from Nat.and_two_pow_sub_one_eq_mod _ 32, wrapU64 (by omega) (by omega)]
    omega
  have z : IntKind.wrap .u64 0 = 0 := by decide
  rw [e6]
  simp only [Int.add_zero, z]
  rw [wrapU64 (n := ((n / 4294967296 : Nat) : Int)) (by omega) (by omega), e5 _ (by omega), show ((0 : Int) + 0) = 0 from rfl, z, wrapU64 (by omega) (by omega)]
theorem wrap64_neg {n : Int} (h1 : -9223372036854775808 ≤ n) (h2 : n < 0) : IntKind.wrap .u64 n = n + 18446744073709551616 := by
  show n % 18446744073709551616 = _
  omega
theorem wrap_back {n : Int} (h1 : -9223372036854775808 ≤ n) (h2 : n ≤ 9223372036854775807) : IntKind.wrap .i64 (IntKind.wrap .u64 n) = n := by
  have e : (2 : Int) ^ (64 - 1) = 9223372036854775808 := rfl
  have e' : (2 : Int) ^ 64 = 18446744073709551616 := rfl
  simp only [IntKind.wrap, IntKind.bits, IntKind.signed, Bool.true_and, Bool.false_and, Bool.false_eq_true, if_false, decide_eq_true_eq, e, e']
  split <;> omega
theorem times1_c {a : Int} (h1 : -9223372036854775808 ≤ a) (h2 : a ≤ 9223372036854775807) : cW f_fix_times [.i a, .i 1] [] = some ([.i (if a < 0 then -1 else 0), .i (IntKind.wrap .u64 a)], []) := by
  have hw : 0 ≤ IntKind.wrap .u64 a ∧ IntKind.wrap .u64 a < 18446744073709551616 := by
    show 0 ≤ a % 18446744073709551616 ∧ a % 18446744073709551616 < 18446744073709551616
    omega
  rw [w_fix_times, show IntKind.wrap .u64 1 = 1 by decide, mul64_1 hw.1 hw.2]
  simp only [Option.bind_some, Option.bind_none, andB, orB, orB2, List.getD_cons_zero, List.getD_cons_succ, toB_b, toI_i, toS_s, toL_l, cond_true, cond_false, List.length_map]
  rw [show decide ((1 : Int) < 0) = false by decide]
  by_cases h : a < 0
  · rw [decide_eq_true h, if_pos h]
    simp only [Option.bind_some, Option.bind_none, andB, orB, orB2, List.getD_cons_zero, List.getD_cons_succ, toB_b, toI_i, toS_s, toL_l, cond_true, cond_false, List.length_map]
    rw [show IntKind.wrap .i64 (IntKind.wrap .u64 (0 - 1)) = -1 by decide]
  · rw [decide_eq_false h, if_neg h]
    simp only [Option.bind_some, Option.bind_none, andB, orB, orB2, List.getD_cons_zero, List.getD_cons_succ, toB_b, toI_i, toS_s, toL_l, cond_true, cond_false, List.length_map]
    rw [show IntKind.wrap .i64 0 = 0 by decide]
theorem abs_c {a : Int} (h1 : -9223372036854775808 ≤ a) (h2 : a ≤ 9223372036854775807) : cW f__celluloid_fix_wide__abs [.i (if a < 0 then -1 else 0), .i (IntKind.wrap .u64 a)] [] = some ([.i 0, .i (if a < 0 then -a else a), .b (decide (a < 0))], []) := by
  rw [w__celluloid_fix_wide__abs]
  by_cases h : a < 0
  · rw [if_pos h, if_pos h, decide_eq_true h, show decide ((-1 : Int) ≥ 0) = false by decide]
    simp only [Option.bind_some, Option.bind_none, andB, orB, orB2, List.getD_cons_zero, List.getD_cons_succ, toB_b, toI_i, toS_s, toL_l, cond_true, cond_false, List.length_map]
    rw [wrap64_neg h1 h, w_math_bits_Sub64]
    have s1 : ((0 : Int).toNat + 2 ^ 64 - (a + 18446744073709551616).toNat - (0 : Int).toNat) % 2 ^ 64 = (-a).toNat := by
      show (0 + 18446744073709551616 - (a + 18446744073709551616).toNat - 0) % 18446744073709551616 = _
      omega
    have s2 : (if (0 : Int).toNat < (a + 18446744073709551616).toNat + (0 : Int).toNat then (1 : Nat) else 0) = 1 := if_pos (by show 0 < _ + 0; omega)
    rw [s1, s2]
    rw [show Nat.ble (0 : Int).toNat 1 = true from rfl]
    simp only [Option.bind_some, Option.bind_none, andB, orB, orB2, List.getD_cons_zero, List.getD_cons_succ, toB_b, toI_i, toS_s, toL_l, cond_true, cond_false, List.length_map]
    rw [w_math_bits_Sub64, show Nat.ble (Int.ofNat 1).toNat 1 = true from rfl]
    simp only [Option.bind_some, Option.bind_none, andB, orB, orB2, List.getD_cons_zero, List.getD_cons_succ, toB_b, toI_i, toS_s, toL_l, cond_true, cond_false, List.length_map]
    rw [show Int.ofNat (((0 : Int).toNat + 2 ^ 64 - (IntKind.wrap .u64 (-1)).toNat - (Int.ofNat 1).toNat) % 2 ^ 64) = 0 by decide, show Int.ofNat (-a).toNat = -a from Int.toNat_of_nonneg (by omega)]
  · rw [if_neg h, if_neg h, decide_eq_false h, show decide ((0 : Int) ≥ 0) = true by decide]
    simp only [Option.bind_some, Option.bind_none, andB, orB, orB2, List.getD_cons_zero, List.getD_cons_succ, toB_b, toI_i, toS_s, toL_l, cond_true, cond_false, List.length_map]
    rw [show IntKind.wrap .u64 0 = 0 by decide, wrapU64 (by omega) (by omega)]
theorem size_c {c : Int} (h1 : 0 ≤ c) (h2 : c ≤ 9223372036854775807) : cW f_fix_size [.i c] [] = some ([.i c], []) := by
  rw [w_fix_size, decide_eq_false (by omega)]
  simp only [Option.bind_some, Option.bind_none, andB, orB, orB2, List.getD_cons_zero, List.getD_cons_succ, toB_b, toI_i, toS_s, toL_l, cond_true, cond_false, List.length_map]
  rw [wrapU64 h1 (by omega)]
theorem div64_0 {x d : Int} (hx : 0 ≤ x) (hx2 : x ≤ 9223372036854775808) (hd : 0 < d) : cW f_math_bits_Div64 [.i 0, .i x, .i d] [] = some ([.i (x / d), .i (x % d)], []) := by
  have e : x / d ≤ x := Int.ediv_le_self _ hx
  have e0 : 0 ≤ x / d := Int.ediv_nonneg hx (by omega)
  rw [w_math_bits_Div64, show (d == 0) = false by simp; omega, show decide (d ≤ 0) = false by simp; omega, show ((0 : Int) == 0) = true from rfl, show (d != 0) = true by simp; omega]
  simp only [Option.bind_some, Option.bind_none, andB, orB, orB2, List.getD_cons_zero, List.getD_cons_succ, toB_b, toI_i, toS_s, toL_l, cond_true, cond_false, List.length_map]
  rw [Int.tdiv_eq_ediv_of_nonneg hx, Int.tmod_eq_emod_of_nonneg hx, wrapU64 e0 (by omega)]
/-- the floor of a quotient -/
theorem floor_c {a d : Int} (h1 : -9223372036854775807 ≤ a) (h2 : a ≤ 9223372036854775807) (hd : 0 < d) (hd2 : d ≤ 9223372036854775807) : cW f_fix_Floor [.i a, .i d] [] = some ([.i (a / d), .b true], []) := by
  rw [w_fix_Floor, w_fix_MulDiv, show (d == 0) = false by simp; omega]
  simp only [times1_c (a := a) (by omega) h2, abs_c (a := a) (by omega) h2, size_c (c := d) (by omega) hd2, Option.bind_some, Option.bind_none, andB, orB, orB2, List.getD_cons_zero, List.getD_cons_succ, toB_b, toI_i, toS_s, toL_l, cond_true, cond_false, List.length_map]
  rw [show decide ((0 : Int) ≥ d) = false by simp; omega, show decide (d < 0) = false by simp; omega]
  by_cases h : a < 0
  · rw [if_pos h, decide_eq_true h]
    simp only [div64_0 (x := -a) (d := d) (by omega) (by omega) hd, Option.bind_some, Option.bind_none, andB, orB, orB2, List.getD_cons_zero, List.getD_cons_succ, toB_b, toI_i, toS_s, toL_l, cond_true, cond_false, List.length_map]
    have q0 : 0 ≤ -a / d := Int.ediv_nonneg (by omega) (by omega)
    have q1 : -a / d ≤ -a := Int.ediv_le_self _ (by omega)
    have m0 := Int.emod_nonneg (-a) (show d ≠ 0 by omega)
    have m1 := Int.emod_lt_of_pos (-a) hd
    have dm := Int.mul_ediv_add_emod (-a) d
    rw [show (true == false) = false from rfl]
    simp only [Bool.and_true, Bool.true_and, Bool.and_false, Bool.false_and, Bool.or_true, Bool.true_or, Bool.or_false, Bool.false_or, Bool.not_true, Bool.not_false, Option.bind_some, Option.bind_none, andB, orB, orB2, List.getD_cons_zero, List.getD_cons_succ, toB_b, toI_i, toS_s, toL_l, cond_true, cond_false, List.length_map]
    cases hq : (-a / d == 0) with
    | true =>
      have hq : -a / d = 0 := by simpa using hq
      rw [hq] at dm ⊢
      have hm : -a % d > 0 := by omega
      rw [show (-a % d == 0) = false by simp; omega]
      rw [decide_eq_true hm]
      simp only [Bool.and_true, Bool.true_and, Bool.and_false, Bool.false_and, Bool.or_true, Bool.true_or, Bool.or_false, Bool.false_or, Bool.not_true, Bool.not_false, Option.bind_some, Option.bind_none, andB, orB, orB2, List.getD_cons_zero, List.getD_cons_succ, toB_b, toI_i, toS_s, toL_l, cond_true, cond_false, List.length_map]
      rw [show (IntKind.wrap .u64 (0 + 1) == 0) = false by decide]
      simp only [w_fix_narrowed, Bool.and_true, Bool.true_and, Bool.and_false, Bool.false_and, Bool.or_true, Bool.true_or, Bool.or_false, Bool.false_or, Bool.not_true, Bool.not_false, Option.bind_some, Option.bind_none, andB, orB, orB2, List.getD_cons_zero, List.getD_cons_succ, toB_b, toI_i, toS_s, toL_l, cond_true, cond_false, List.length_map]
      rw [show decide (IntKind.wrap .u64 (0 + 1) ≤ 9223372036854775808) = true by decide]
      simp only [Bool.and_true, Bool.true_and, Bool.and_false, Bool.false_and, Bool.or_true, Bool.true_or, Bool.or_false, Bool.false_or, Bool.not_true, Bool.not_false, Option.bind_some, Option.bind_none, andB, orB, orB2, List.getD_cons_zero, List.getD_cons_succ, toB_b, toI_i, toS_s, toL_l, cond_true, cond_false, List.length_map]
      rw [show IntKind.wrap .i64 (IntKind.wrap .u64 (0 - IntKind.wrap .u64 (0 + 1))) = -1 by decide]
      have : a / d = -1 := by
        have : a = -1 * d + (d + a) := by omega
        rw [this, Int.add_comm, Int.add_mul_ediv_right _ _ (by omega), Int.ediv_eq_zero_of_lt (by omega) (by omega)]
        rfl
      rw [this]
    | false =>
      simp only [Bool.and_true, Bool.true_and, Bool.and_false, Bool.false_and, Bool.or_true, Bool.true_or, Bool.or_false, Bool.false_or, Bool.not_true, Bool.not_false, Option.bind_some, Option.bind_none, andB, orB, orB2, List.getD_cons_zero, List.getD_cons_succ, toB_b, toI_i, toS_s, toL_l, cond_true, cond_false, List.length_map]
      generalize hQ : -a / d = q at *
      generalize hM : -a % d = m at *
      have key : a = (-q) * d - m := by rw [Int.neg_mul, Int.mul_comm]; omega
      cases hm : decide (m > 0) with
      | false =>
        have hm : m = 0 := by simp at hm; omega
        simp only [w_fix_narrowed, Bool.and_true, Bool.true_and, Bool.and_false, Bool.false_and, Bool.or_true, Bool.true_or, Bool.or_false, Bool.false_or, Bool.not_true, Bool.not_false, Option.bind_some, Option.bind_none, andB, orB, orB2, List.getD_cons_zero, List.getD_cons_succ, toB_b, toI_i, toS_s, toL_l, cond_true, cond_false, List.length_map]
        rw [decide_eq_true (p := q ≤ 9223372036854775808) (by omega)]
        simp only [Bool.and_true, Bool.true_and, Bool.and_false, Bool.false_and, Bool.or_true, Bool.true_or, Bool.or_false, Bool.false_or, Bool.not_true, Bool.not_false, Option.bind_some, Option.bind_none, andB, orB, orB2, List.getD_cons_zero, List.getD_cons_succ, toB_b, toI_i, toS_s, toL_l, cond_true, cond_false, List.length_map]
        have qp : q ≠ 0 := by simpa using hq
        rw [wrap_back (n := 0 - q) (by omega) (by omega)]
        have : a / d = -q := by
          rw [key, hm, Int.sub_zero, Int.mul_ediv_cancel _ (by omega)]
        rw [this, Int.zero_sub]
      | true =>
        have hm : m > 0 := by simpa using hm
        simp only [Bool.and_true, Bool.true_and, Bool.and_false, Bool.false_and, Bool.or_true, Bool.true_or, Bool.or_false, Bool.false_or, Bool.not_true, Bool.not_false, Option.bind_some, Option.bind_none, andB, orB, orB2, List.getD_cons_zero, List.getD_cons_succ, toB_b, toI_i, toS_s, toL_l, cond_true, cond_false, List.length_map]
        rw [wrapU64 (n := q + 1) (by omega) (by omega), show (q + 1 == 0) = false by simp; omega]
        simp only [w_fix_narrowed, Bool.and_true, Bool.true_and, Bool.and_false, Bool.false_and, Bool.or_true, Bool.true_or, Bool.or_false, Bool.false_or, Bool.not_true, Bool.not_false, Option.bind_some, Option.bind_none, andB, orB, orB2, List.getD_cons_zero, List.getD_cons_succ, toB_b, toI_i, toS_s, toL_l, cond_true, cond_false, List.length_map]
        rw [decide_eq_true (p := q + 1 ≤ 9223372036854775808) (by omega)]
        simp only [Bool.and_true, Bool.true_and, Bool.and_false, Bool.false_and, Bool.or_true, Bool.true_or, Bool.or_false, Bool.false_or, Bool.not_true, Bool.not_false, Option.bind_some, Option.bind_none, andB, orB, orB2, List.getD_cons_zero, List.getD_cons_succ, toB_b, toI_i, toS_s, toL_l, cond_true, cond_false, List.length_map]
        have : a / d = -(q + 1) := by
          have : a = (d - m) + (-(q + 1)) * d := by rw [key, Int.neg_mul, Int.neg_mul, Int.add_mul]; omega
          rw [this, Int.add_mul_ediv_right _ _ (by omega), Int.ediv_eq_zero_of_lt (by omega) (by omega)]; omega
        rw [this]
        rw [wrap_back (n := 0 - (q + 1)) (by omega) (by omega), Int.zero_sub]
  · rw [if_neg h, decide_eq_false h]
    simp only [div64_0 (x := a) (d := d) (by omega) (by omega) hd, Option.bind_some, Option.bind_none, andB, orB, orB2, List.getD_cons_zero, List.getD_cons_succ, toB_b, toI_i, toS_s, toL_l, cond_true, cond_false, List.length_map]
    have q0 : 0 ≤ a / d := Int.ediv_nonneg (by omega) (by omega)
    have q1 : a / d ≤ a := Int.ediv_le_self _ (by omega)
    rw [show (false == false) = true from rfl]
    simp only [w_fix_narrowed, Bool.and_true, Bool.true_and, Bool.and_false, Bool.false_and, Bool.or_true, Bool.true_or, Bool.or_false, Bool.false_or, Bool.not_true, Bool.not_false, Option.bind_some, Option.bind_none, andB, orB, orB2, List.getD_cons_zero, List.getD_cons_succ, toB_b, toI_i, toS_s, toL_l, cond_true, cond_false, List.length_map]
    rw [decide_eq_true (p := a / d ≤ 9223372036854775807) (by omega)]
    simp only [Bool.and_true, Bool.true_and, Bool.and_false, Bool.false_and, Bool.or_true, Bool.true_or, Bool.or_false, Bool.false_or, Bool.not_true, Bool.not_false, Option.bind_some, Option.bind_none, andB, orB, orB2, List.getD_cons_zero, List.getD_cons_succ, toB_b, toI_i, toS_s, toL_l, cond_true, cond_false, List.length_map]
    rw [wrap64 (by omega) (by omega)]
theorem clT_bif (t : Int) : (bif decide ((65535 : Int) < (bif decide ((0 : Int) > t) then 0 else t)) then 65535 else (bif decide ((0 : Int) > t) then 0 else t)) = clT t := by
  unfold clT
  simp only [Bool.cond_decide]
  by_cases h : t < 0
  · rw [if_pos h, if_pos (show (0 : Int) > t from h), if_neg (by decide)]
  · rw [if_neg h, if_neg (show ¬ (0 : Int) > t from h)]
theorem far_w {d c : Int} (h1 : -2199023255552 ≤ d) (h2 : d ≤ 2199023255552) (c0 : 0 ≤ c) (c1 : c ≤ 65535) : -144115188075855872 ≤ d * c ∧ d * c ≤ 144115188075855872 := by
  obtain ⟨p, q⟩ := prod_r (d := d) c0 c1
  rcases Int.le_total 0 d with h | h
  · have := p h; omega
  · have := q h; omega
theorem wide_bif {a b : Int} (h1 : -9223372036854775808 ≤ a ∧ a ≤ 9223372036854775807) (h2 : -9223372036854775808 ≤ b ∧ b ≤ 9223372036854775807) :
    ((bif decide ((bif decide (IntKind.wrap .i64 (0 - b) > (bif decide (b > (bif decide (IntKind.wrap .i64 (0 - a) > a) then IntKind.wrap .i64 (0 - a) else a)) then b else (bif decide (IntKind.wrap .i64 (0 - a) > a) then IntKind.wrap .i64 (0 - a) else a))) then IntKind.wrap .i64 (0 - b) else (bif decide (b > (bif decide (IntKind.wrap .i64 (0 - a) > a) then IntKind.wrap .i64 (0 - a) else a)) then b else (bif decide (IntKind.wrap .i64 (0 - a) > a) then IntKind.wrap .i64 (0 - a) else a))) > 1099511627776) then some [PV.b true]
      else some [PV.b (decide ((bif decide (b < a) then b else a) < -1099511627776))])) = some [PV.b (!decide (inW a ∧ inW b))] := by
  have n : ∀ x : Int, -9223372036854775808 ≤ x → x ≤ 9223372036854775807 → IntKind.wrap .i64 (0 - x) = if x = -9223372036854775808 then x else -x := by
    intro x k1 k2
    split
    · rename_i h; rw [h]; decide
    · rw [wrap64 (by omega) (by omega)]; omega
  rw [n a h1.1 h1.2, n b h2.1 h2.2]
  generalize hx : (if a = -9223372036854775808 then a else -a) = x
  generalize hy : (if b = -9223372036854775808 then b else -b) = y
  have hx1 : x = a ∧ a = -9223372036854775808 ∨ x = -a ∧ a ≠ -9223372036854775808 := by rw [← hx]; split <;> omega
  have hy1 : y = b ∧ b = -9223372036854775808 ∨ y = -b ∧ b ≠ -9223372036854775808 := by rw [← hy]; split <;> omega
  clear hx hy n
  simp only [Bool.cond_decide]
  generalize hm : (if x > a then x else a) = m
  have hm1 : (m = x ∨ m = a) ∧ x ≤ m ∧ a ≤ m := by rw [← hm]; split <;> omega
  clear hm
  generalize hp : (if b > m then b else m) = p
  have hp1 : (p = b ∨ p = m) ∧ b ≤ p ∧ m ≤ p := by rw [← hp]; split <;> omega
  clear hp
  generalize hq : (if y > p then y else p) = q
  have hq1 : (q = y ∨ q = p) ∧ y ≤ q ∧ p ≤ q := by rw [← hq]; split <;> omega
  clear hq
  generalize hr : (if b < a then b else a) = r
  have hr1 : (r = a ∨ r = b) ∧ r ≤ a ∧ r ≤ b := by rw [← hr]; split <;> omega
  clear hr
  split
  · rw [decide_eq_false]; rfl
    unfold inW; omega
  · congr 3
    rw [Bool.eq_iff_iff]
    simp only [Bool.not_eq_true', decide_eq_false_iff_not, decide_eq_true_eq]
    unfold inW
    omega
theorem Between_c {a b : Int} (t : Int) (h1 : -9223372036854775808 ≤ a ∧ a ≤ 9223372036854775807) (h2 : -9223372036854775808 ≤ b ∧ b ≤ 9223372036854775807) : cW f_morph_Between [.i a, .i b, .i t] [] = some ([.i (betw a b t)], []) := by
  rw [w_morph_Between, wide_bif h1 h2, clT_bif]
  unfold betw
  simp only [Option.bind_some, Option.bind_none, andB, orB, orB2, List.getD_cons_zero, List.getD_cons_succ, toB_b, toI_i, toS_s, toL_l, cond_true, cond_false, List.length_map]
  by_cases h : inW a ∧ inW b
  · rw [if_pos h, decide_eq_true h]
    obtain ⟨⟨a0, a1⟩, b0, b1⟩ := h
    obtain ⟨c0, c1⟩ := clT_r t
    obtain ⟨f0, f1⟩ := far_w (d := b - a) (c := clT t) (by omega) (by omega) c0 c1
    obtain ⟨m0, m1⟩ := betw_rng (t := t) (lo := -1099511627776) (hi := 1099511627776) (a := a) (b := b) ⟨a0, a1⟩ ⟨b0, b1⟩ ⟨a0, a1⟩ ⟨b0, b1⟩
    unfold betw at m0 m1
    rw [if_pos ⟨⟨a0, a1⟩, b0, b1⟩] at m0 m1
    rw [wrap64 (n := b - a) (by omega) (by omega), wrap64 (n := (b - a) * clT t) (by omega) (by omega)]
    simp only [floor_c (a := (b - a) * clT t) (d := 65535) (by omega) (by omega) (by decide) (by decide), Bool.not_true, Option.bind_some, Option.bind_none, andB, orB, orB2, List.getD_cons_zero, List.getD_cons_succ, toB_b, toI_i, toS_s, toL_l, cond_true, cond_false, List.length_map]
    rw [wrap64 (by omega) (by omega)]
  · rw [if_neg h, decide_eq_false h]; rfl
end Go.AI
set_option linter.unusedVariables false
set_option linter.unusedSimpArgs false
set_option maxRecDepth 100000
namespace Go.AI
open Go Go.Proofs

def zero9 : T9 := (0, (0, 0, 0, 0), [], [], [])
def at10 (m : Mor) (t : Int) : Option T9 := (pairsAt m.recs m.targ).map fun d => (m.id, btC t m.fr m.to, List.zipWith (btFill t) m.fills m.tofl, List.zipWith (btStrk t) m.strks m.tost, d.map (ptAt t))
theorem inW64 {a : Int} (h : inW a) : -9223372036854775808 ≤ a ∧ a ≤ 9223372036854775807 := by unfold inW at h; omega
theorem Between_w {a b : Int} (t : Int) (ha : inW a) (hb : inW b) : cW f_morph_Between [.i a, .i b, .i t] [] = some ([.i (betw a b t)], []) := Between_c t (inW64 ha) (inW64 hb)
theorem color10_c {a b : I4} (t : Int) (ha : wC a) (hb : wC b) : cW f_morph_color [.i a.1, .i a.2.1, .i a.2.2.1, .i a.2.2.2, .i b.1, .i b.2.1, .i b.2.2.1, .i b.2.2.2, .i t] [] = some ([.i (btC t a b).1, .i (btC t a b).2.1, .i (btC t a b).2.2.1, .i (btC t a b).2.2.2], []) := by
  obtain ⟨a1, a2, a3, a4⟩ := ha
  obtain ⟨b1, b2, b3, b4⟩ := hb
  rw [w_morph_color]
  simp only [Between_w t a1 b1, Between_w t a2 b2, Between_w t a3 b3, Between_w t a4 b4, Option.bind_some, Option.bind_none, andB, orB, orB2, List.getD_cons_zero, List.getD_cons_succ, toB_b, toI_i, toS_s, toL_l, cond_true, cond_false, List.length_map]
  rfl
theorem rect10_c {a b : I4} (t : Int) (ha : wC a) (hb : wC b) : cW f_morph_rect [.i a.1, .i a.2.1, .i a.2.2.1, .i a.2.2.2, .i b.1, .i b.2.1, .i b.2.2.1, .i b.2.2.2, .i t] [] = some ([.i (btC t a b).1, .i (btC t a b).2.1, .i (btC t a b).2.2.1, .i (btC t a b).2.2.2], []) := by
  obtain ⟨a1, a2, a3, a4⟩ := ha
  obtain ⟨b1, b2, b3, b4⟩ := hb
  rw [w_morph_rect]
  simp only [Between_w t a1 b1, Between_w t a2 b2, Between_w t a3 b3, Between_w t a4 b4, Option.bind_some, Option.bind_none, andB, orB, orB2, List.getD_cons_zero, List.getD_cons_succ, toB_b, toI_i, toS_s, toL_l, cond_true, cond_false, List.length_map]
  rfl
theorem matrix10_c {a b : Mat} (t : Int) (ha : wM a) (hb : wM b) : cW f_morph_matrix [.i a.1, .i a.2.1, .i a.2.2.1, .i a.2.2.2.1, .i a.2.2.2.2.1, .i a.2.2.2.2.2, .i b.1, .i b.2.1, .i b.2.2.1, .i b.2.2.2.1, .i b.2.2.2.2.1, .i b.2.2.2.2.2, .i t] [] = some ([.i (btM t a b).1, .i (btM t a b).2.1, .i (btM t a b).2.2.1, .i (btM t a b).2.2.2.1, .i (btM t a b).2.2.2.2.1, .i (btM t a b).2.2.2.2.2], []) := by
  obtain ⟨a1, a2, a3, a4, a5, a6⟩ := ha
  obtain ⟨b1, b2, b3, b4, b5, b6⟩ := hb
  rw [w_morph_matrix]
  simp only [Between_w t a1 b1, Between_w t a2 b2, Between_w t a3 b3, Between_w t a4 b4, Between_w t a5 b5, Between_w t a6 b6, Option.bind_some, Option.bind_none, andB, orB, orB2, List.getD_cons_zero, List.getD_cons_succ, toB_b, toI_i, toS_s, toL_l, cond_true, cond_false, List.length_map]
  rfl
theorem shr1 (x : Int) : shr .i64 x 1 = x / 2 := by rw [shr_eq (by decide) (by decide)]; rfl
theorem curved_c {r : Rec} (h : Pen r) : cW f_morph_curved r.e [] = some ((curv r).e, []) := by
  unfold Rec.e
  rw [w_morph_curved]
  unfold curv
  by_cases k : r.kind = 4
  · have hx := h.x.2 (by omega)
    have hy := h.y.2 (by omega)
    rw [if_pos k, show (r.kind != 4) = false by simp [k], cond_false, shr1, shr1, wrap64 (by omega) (by omega), wrap64 (by omega) (by omega)]
    rfl
  · rw [if_neg k, show (r.kind != 4) = true by simp [k], cond_true]
theorem record10_c {a b : Rec} (t : Int) (ha : Pen a) (hb : Pen b) : cW f_morph_record (a.e ++ b.e ++ [.i t]) [] = some (if (both a b).1.kind = (both a b).2.kind then ((btRec t (both a b).1 (both a b).2).e ++ [.b true], []) else ((⟨0, 0, 0, 0, 0, 0, 0, 0, [], []⟩ : Rec).e ++ [.b false], [])) := by
  have e1 := curved_c ha
  have e2 := curved_c hb
  have fin : ∀ p q : Rec, Pen p → Pen q → cW f_morph_Between [.i p.x, .i q.x, .i t] [] = some ([.i (betw p.x q.x t)], []) ∧ cW f_morph_Between [.i p.y, .i q.y, .i t] [] = some ([.i (betw p.y q.y t)], []) ∧ cW f_morph_Between [.i p.cx, .i q.cx, .i t] [] = some ([.i (betw p.cx q.cx t)], []) ∧ cW f_morph_Between [.i p.cy, .i q.cy, .i t] [] = some ([.i (betw p.cy q.cy t)], []) := by
    intro p q hp hq
    obtain ⟨a1, a2, a3, a4⟩ := hp.w.inX
    obtain ⟨b1, b2, b3, b4⟩ := hq.w.inX
    exact ⟨Between_w t a1 b1, Between_w t a2 b2, Between_w t a3 b3, Between_w t a4 b4⟩
  simp only [Rec.e, List.cons_append, List.nil_append, List.map_nil] at e1 e2 ⊢
  rw [w_morph_record]
  unfold both
  by_cases k : a.kind = b.kind
  · obtain ⟨f1, f2, f3, f4⟩ := fin a b ha hb
    rw [if_pos k, if_pos k, show (a.kind != b.kind) = false by simp [k]]
    simp only [f1, f2, f3, f4, Option.bind_some, Option.bind_none, andB, orB, orB2, List.getD_cons_zero, List.getD_cons_succ, toB_b, toI_i, toS_s, toL_l, cond_true, cond_false, List.length_map]
    rfl
  · obtain ⟨f1, f2, f3, f4⟩ := fin _ _ ha.curv hb.curv
    rw [if_neg k, show (a.kind != b.kind) = true by simp [k]]
    simp only [e1, e2, Option.bind_some, Option.bind_none, andB, orB, orB2, List.getD_cons_zero, List.getD_cons_succ, toB_b, toI_i, toS_s, toL_l, cond_true, cond_false, List.length_map]
    by_cases kk : (curv a).kind = (curv b).kind
    · rw [if_pos kk, show ((curv a).kind != (curv b).kind) = false by simp [kk]]
      simp only [f1, f2, f3, f4, Option.bind_some, Option.bind_none, andB, orB, orB2, List.getD_cons_zero, List.getD_cons_succ, toB_b, toI_i, toS_s, toL_l, cond_true, cond_false, List.length_map]
      rfl
    · rw [if_neg kk, show ((curv a).kind != (curv b).kind) = true by simp [kk]]
      rfl
/-! ### the loops -/
noncomputable abbrev A0 (m : Mor) (t i : Int) (F : List (List PV)) (B : I4) : St := S_morph_At_L0 t (m.fills.map Fill.e) (m.fills.length : Nat) i m.id m.fr.1 m.fr.2.1 m.fr.2.2.1 m.fr.2.2.2 m.to.1 m.to.2.1 m.to.2.2.1 m.to.2.2.2 (m.fills.map Fill.e) (m.tofl.map Fill.e) (m.strks.map Strk.e) (m.tost.map Strk.e) (m.recs.map Rec.e) (m.targ.map Rec.e) [] [] [] 0 0 0 0 0 F [] [] m.id B.1 B.2.1 B.2.2.1 B.2.2.2
noncomputable abbrev A2 (m : Mor) (t i k : Int) (F : List (List PV)) (B : I4) (a b : Fill) (P : List (List PV)) (c : I4) (d : Mat) : St := S_morph_At_L2 t (m.fills.map Fill.e) (m.fills.length : Nat) i (a.stops.map Stop.e) (a.stops.length : Nat) k m.id m.fr.1 m.fr.2.1 m.fr.2.2.1 m.fr.2.2.2 m.to.1 m.to.2.1 m.to.2.2.1 m.to.2.2.2 (m.fills.map Fill.e) (m.tofl.map Fill.e) (m.strks.map Strk.e) (m.tost.map Strk.e) (m.recs.map Rec.e) (m.targ.map Rec.e) [] [] [] 0 0 0 0 0 F [] [] m.id B.1 B.2.1 B.2.2.1 B.2.2.2 b.kind b.color.1 b.color.2.1 b.color.2.2.1 b.color.2.2.2 b.mat.1 b.mat.2.1 b.mat.2.2.1 b.mat.2.2.2.1 b.mat.2.2.2.2.1 b.mat.2.2.2.2.2 b.spread (b.stops.map Stop.e) b.id P a.kind c.1 c.2.1 c.2.2.1 c.2.2.2 d.1 d.2.1 d.2.2.1 d.2.2.2.1 d.2.2.2.2.1 d.2.2.2.2.2 a.spread a.id
noncomputable abbrev A4 (m : Mor) (t i : Int) (F S : List (List PV)) (B : I4) : St := S_morph_At_L4 t (m.strks.map Strk.e) (m.strks.length : Nat) i m.id m.fr.1 m.fr.2.1 m.fr.2.2.1 m.fr.2.2.2 m.to.1 m.to.2.1 m.to.2.2.1 m.to.2.2.2 (m.fills.map Fill.e) (m.tofl.map Fill.e) (m.strks.map Strk.e) (m.tost.map Strk.e) (m.recs.map Rec.e) (m.targ.map Rec.e) [] [] [] 0 0 0 0 0 F S [] m.id B.1 B.2.1 B.2.2.1 B.2.2.2
noncomputable abbrev A6 (m : Mor) (t ai i : Int) (F S R : List (List PV)) (B : I4) : St := S_morph_At_L6 t ai (m.recs.map Rec.e) (m.recs.length : Nat) i m.id m.fr.1 m.fr.2.1 m.fr.2.2.1 m.fr.2.2.2 m.to.1 m.to.2.1 m.to.2.2.1 m.to.2.2.2 (m.fills.map Fill.e) (m.tofl.map Fill.e) (m.strks.map Strk.e) (m.tost.map Strk.e) (m.recs.map Rec.e) (m.targ.map Rec.e) [] [] [] 0 0 0 0 0 F S R m.id B.1 B.2.1 B.2.2.1 B.2.2.2
def resA (m : Mor) (B : I4) (F : List Fill) (S : List Strk) (R : Option (List Rec)) : Res := match R with
  | none => (e9 zero9 ++ [.i 3], [])
  | some R => (e9 (m.id, B, F, S, R) ++ [.i 0], [])
theorem loopA6 {m : Mor} (t : Int) (B : I4) (F : List Fill) (S : List Strk) (hr : m.recs.length ≤ 512) (ht : m.targ.length ≤ 512) {f s : Int} (ok : ∀ r, r ∈ m.recs → recB r f s = true ∧ r.kind ≠ 3) (ok2 : ∀ r, r ∈ m.targ → Pen r) : ∀ (rest pre g q : List Rec) (acc : List Rec), m.recs = pre ++ rest → m.targ = q ++ g → acc.length = pre.length →
    rW f_morph_At [] at_morph_At_L6 (A6 m t q.length pre.length (F.map Fill.e) (S.map Strk.e) (acc.map Rec.e) B) = some (resA m B F S ((pairsAt rest g).map fun d => acc ++ d.map (ptAt t)))
  | [], pre, [], q, acc, h, h', ha => by
    rw [w_morph_At_L6]
    simp only [el_end h, el_end h', Option.bind_some, Option.bind_none, andB, orB, orB2, List.getD_cons_zero, List.getD_cons_succ, toB_b, toI_i, toS_s, toL_l, cond_true, cond_false, List.length_map]
    unfold pairsAt resA
    simp [e9]
  | [], pre, b :: g, q, acc, h, h', ha => by
    obtain ⟨k1, _⟩ := el_step Rec.e h' (Nat.le_trans ht (by decide))
    rw [w_morph_At_L6]
    simp only [el_end h, k1, Option.bind_some, Option.bind_none, andB, orB, orB2, List.getD_cons_zero, List.getD_cons_succ, toB_b, toI_i, toS_s, toL_l, cond_true, cond_false, List.length_map]
    rfl
  | r :: rest, pre, g, q, acc, h, h', ha => by
    obtain ⟨h1, h2, h3, h4, h5⟩ := el_step Rec.e h (Nat.le_trans hr (by decide))
    obtain ⟨o1, o3⟩ := ok r (by rw [h]; simp)
    have hpl : pre.length ≤ 512 := by rw [h] at hr; simp at hr; omega
    have room : (acc.length + 1001) * 113 ≤ 1099511627776 := by omega
    rw [w_morph_At_L6]
    simp only [h1, h2, h3, h4, Rec.e, Option.bind_some, Option.bind_none, andB, orB, orB2, List.getD_cons_zero, List.getD_cons_succ, toB_b, toI_i, toS_s, toL_l, cond_true, cond_false, List.length_map]
    unfold pairsAt
    by_cases k : r.kind = 2
    · rw [if_pos k, show (r.kind == 2) = true by simp [k]]
      simp only [room1 _ _ room, Option.bind_some, Option.bind_none, andB, orB, orB2, List.getD_cons_zero, List.getD_cons_succ, toB_b, toI_i, toS_s, toL_l, cond_true, cond_false, List.length_map]
      rw [rec_row]
      refine (loopA6 t B F S hr ht ok ok2 rest (pre ++ [r]) g q (acc ++ [r]) h5 h' (by simp [ha])).trans ?_
      cases pairsAt rest g with
      | none => rfl
      | some d =>
        have e : ptAt t (r, r) = r := by unfold ptAt; exact if_pos k
        simp [e]
    · rw [if_neg k, show (r.kind == 2) = false by simp [k]]
      have pr := pen_of o1 k o3
      cases g with
      | nil =>
        have e : (((q.length : Nat) : Int) == ((m.targ.length : Nat) : Int)) = true := by rw [h']; simp
        simp only [e, Option.bind_some, Option.bind_none, andB, orB, orB2, List.getD_cons_zero, List.getD_cons_succ, toB_b, toI_i, toS_s, toL_l, cond_true, cond_false, List.length_map]
        rfl
      | cons b g =>
        obtain ⟨k1, k2, k3, k4, k5⟩ := el_step Rec.e h' (Nat.le_trans ht (by decide))
        have pb := ok2 b (by rw [h']; simp)
        have e : (((q.length : Nat) : Int) == ((m.targ.length : Nat) : Int)) = false := by rw [h']; simp; omega
        have er := record10_c t pr pb
        simp only [Rec.e, List.cons_append, List.nil_append, List.map_nil] at er
        simp only [e, k2, k3, Rec.e, er, Option.bind_some, Option.bind_none, andB, orB, orB2, List.getD_cons_zero, List.getD_cons_succ, toB_b, toI_i, toS_s, toL_l, cond_true, cond_false, List.length_map]
        by_cases ke : (both r b).1.kind = (both r b).2.kind
        · rw [if_pos ke, if_pos ke]
          simp only [room1 _ _ room, k4, Bool.and_true, Bool.true_and, Bool.and_false, Bool.false_and, Bool.or_true, Bool.true_or, Bool.or_false, Bool.false_or, Bool.not_true, Bool.not_false, Option.bind_some, Option.bind_none, andB, orB, orB2, List.getD_cons_zero, List.getD_cons_succ, toB_b, toI_i, toS_s, toL_l, cond_true, cond_false, List.length_map]
          have hrow := rec_row acc (btRec t (both r b).1 (both r b).2)
          have hn : (btRec t (both r b).1 (both r b).2).fills.map Fill.e = [] ∧ (btRec t (both r b).1 (both r b).2).strks.map Strk.e = [] := ⟨rfl, rfl⟩
          rw [hrow]
          refine (loopA6 t B F S hr ht ok ok2 rest (pre ++ [r]) g (q ++ [b]) (acc ++ [btRec t (both r b).1 (both r b).2]) h5 k5 (by simp [ha])).trans ?_
          cases pairsAt rest g with
          | none => rfl
          | some d =>
            have e : ptAt t (both r b) = btRec t (both r b).1 (both r b).2 := by unfold ptAt; exact if_neg (pen2 (both_pen pr pb).1)
            simp [e]
        · rw [if_neg ke, if_neg ke]
          simp only [Bool.and_true, Bool.true_and, Bool.and_false, Bool.false_and, Bool.or_true, Bool.true_or, Bool.or_false, Bool.false_or, Bool.not_true, Bool.not_false, Option.bind_some, Option.bind_none, andB, orB, orB2, List.getD_cons_zero, List.getD_cons_succ, toB_b, toI_i, toS_s, toL_l, cond_true, cond_false, List.length_map]
          rfl
theorem loopA4 {m : Mor} (t : Int) (B : I4) (F : List (List PV)) (hs : m.strks.length ≤ 15) (ok : ∀ r, r ∈ m.strks → strkB r = true) (ok2 : ∀ r, r ∈ m.tost → strkB r = true) : ∀ (rest pre g q acc : List Strk), m.strks = pre ++ rest → m.tost = q ++ g → q.length = pre.length → rest.length = g.length → acc.length = pre.length →
    rW f_morph_At [] at_morph_At_L4 (A4 m t pre.length F (acc.map Strk.e) B) = rW f_morph_At [] at_morph_At_L6 (A6 m t 0 0 F ((acc ++ List.zipWith (btStrk t) rest g).map Strk.e) [] B)
  | [], pre, [], q, acc, h, h', hq, hl, ha => by
    rw [w_morph_At_L4]
    simp only [el_end h, List.zipWith_nil_left, List.append_nil, Option.bind_some, Option.bind_none, andB, orB, orB2, List.getD_cons_zero, List.getD_cons_succ, toB_b, toI_i, toS_s, toL_l, cond_true, cond_false, List.length_map]
  | [], pre, b :: g, q, acc, h, h', hq, hl, ha => by cases hl
  | r :: rest, pre, [], q, acc, h, h', hq, hl, ha => by cases hl
  | r :: rest, pre, b :: g, q, acc, h, h', hq, hl, ha => by
    have hr2 : m.tost.length ≤ 2 ^ 40 := by
      rw [h']; rw [h] at hs; simp at hs hl ⊢; omega
    obtain ⟨h1, h2, h3, h4, h5⟩ := el_step Strk.e h (Nat.le_trans hs (by decide))
    obtain ⟨_, k2, k3, k4, k5⟩ := el_step Strk.e h' hr2
    rw [hq] at k2 k3
    have hpl : pre.length ≤ 15 := by rw [h] at hs; simp at hs; omega
    have room : (acc.length + 1001) * 41 ≤ 1099511627776 := by omega
    obtain ⟨a1, a2⟩ := strk_w (ok r (by rw [h]; simp))
    obtain ⟨b1, b2⟩ := strk_w (ok2 b (by rw [h']; simp))
    rw [w_morph_At_L4]
    simp only [h1, h2, h3, h4, k2, k3, Strk.e, Between_w t a1 b1, color10_c t a2 b2, room1 _ _ room, Option.bind_some, Option.bind_none, andB, orB, orB2, List.getD_cons_zero, List.getD_cons_succ, toB_b, toI_i, toS_s, toL_l, cond_true, cond_false, List.length_map]
    have hrow := strk_row acc (btStrk t r b)
    rw [show PV.i (betw r.width b.width t) = PV.i (btStrk t r b).width from rfl]
    refine Eq.trans (congrArg _ ?_) ((loopA4 t B F hs ok ok2 rest (pre ++ [r]) g (q ++ [b]) (acc ++ [btStrk t r b]) h5 k5 (by simp [hq]) (by simpa using hl) (by simp [ha])).trans ?_)
    · rw [← hrow]; rfl
    · rw [List.zipWith_cons_cons, List.append_assoc]; rfl
theorem loopA2 {m : Mor} (t : Int) (B : I4) (i : Int) (accF : List Fill) (hF : accF.length ≤ 15) (a b : Fill) (c : I4) (d : Mat) (hs : a.stops.length ≤ 8) (ok : ∀ s, s ∈ a.stops → wStop s) (ok2 : ∀ s, s ∈ b.stops → wStop s) : ∀ (rest pre g q acc : List Stop), a.stops = pre ++ rest → b.stops = q ++ g → q.length = pre.length → rest.length = g.length → acc.length = pre.length →
    rW f_morph_At [] at_morph_At_L2 (A2 m t i pre.length (accF.map Fill.e) B a b (acc.map Stop.e) c d) = rW f_morph_At [] at_morph_At_L0 (A0 m t (IntKind.wrap .i64 (i + 1)) ((accF ++ [(⟨a.kind, c, d, a.spread, acc ++ List.zipWith (btStop t) rest g, a.id⟩ : Fill)]).map Fill.e) B)
  | [], pre, [], q, acc, h, h', hq, hl, ha => by
    have room : (accF.length + 1001) * 129 ≤ 1099511627776 := by omega
    rw [w_morph_At_L2]
    simp only [el_end h, room1 _ _ room, List.zipWith_nil_left, List.append_nil, Option.bind_some, Option.bind_none, andB, orB, orB2, List.getD_cons_zero, List.getD_cons_succ, toB_b, toI_i, toS_s, toL_l, cond_true, cond_false, List.length_map]
    rw [← fill_row accF ⟨a.kind, c, d, a.spread, acc, a.id⟩]
  | [], pre, b :: g, q, acc, h, h', hq, hl, ha => by cases hl
  | r :: rest, pre, [], q, acc, h, h', hq, hl, ha => by cases hl
  | x :: rest, pre, y :: g, q, acc, h, h', hq, hl, ha => by
    have hr2 : b.stops.length ≤ 2 ^ 40 := by
      rw [h']; rw [h] at hs; simp at hs hl ⊢; omega
    obtain ⟨h1, h2, h3, h4, h5⟩ := el_step Stop.e h (Nat.le_trans hs (by decide))
    obtain ⟨_, k2, k3, k4, k5⟩ := el_step Stop.e h' hr2
    rw [hq] at k2 k3
    have hpl : pre.length ≤ 8 := by rw [h] at hs; simp at hs; omega
    have room : (acc.length + 1001) * 41 ≤ 1099511627776 := by omega
    obtain ⟨a1, a2⟩ := ok x (by rw [h]; simp)
    obtain ⟨b1, b2⟩ := ok2 y (by rw [h']; simp)
    rw [w_morph_At_L2]
    simp only [h1, h2, h3, h4, k2, k3, Stop.e, Between_w t a1 b1, color10_c t a2 b2, room1 _ _ room, Option.bind_some, Option.bind_none, andB, orB, orB2, List.getD_cons_zero, List.getD_cons_succ, toB_b, toI_i, toS_s, toL_l, cond_true, cond_false, List.length_map]
    rw [stops_row acc ⟨betw x.ratio y.ratio t, btC t x.color y.color⟩]
    refine ((loopA2 (m := m) t B i accF hF a b c d hs ok ok2 rest (pre ++ [x]) g (q ++ [y]) (acc ++ [btStop t x y]) h5 k5 (by simp [hq]) (by simpa using hl) (by simp [ha])).trans ?_)
    rw [List.zipWith_cons_cons, List.append_assoc]; rfl
theorem loopA0 {m : Mor} (t : Int) (B : I4) (hs : m.fills.length ≤ 15) (ok : ∀ r, r ∈ m.fills → fillB r = true) (ok2 : ∀ r, r ∈ m.tofl → fillB r = true) : ∀ (rest pre g q acc : List Fill), m.fills = pre ++ rest → m.tofl = q ++ g → q.length = pre.length → pairsB rest g = true → acc.length = pre.length →
    rW f_morph_At [] at_morph_At_L0 (A0 m t pre.length (acc.map Fill.e) B) = rW f_morph_At [] at_morph_At_L4 (A4 m t 0 ((acc ++ List.zipWith (btFill t) rest g).map Fill.e) [] B)
  | [], pre, [], q, acc, h, h', hq, hl, ha => by
    rw [w_morph_At_L0]
    simp only [el_end h, List.zipWith_nil_left, List.append_nil, Option.bind_some, Option.bind_none, andB, orB, orB2, List.getD_cons_zero, List.getD_cons_succ, toB_b, toI_i, toS_s, toL_l, cond_true, cond_false, List.length_map]
  | [], pre, b :: g, q, acc, h, h', hq, hl, ha => by cases hl
  | r :: rest, pre, [], q, acc, h, h', hq, hl, ha => by cases hl
  | x :: rest, pre, y :: g, q, acc, h, h', hq, hl, ha => by
    unfold pairsB at hl
    rw [Bool.and_eq_true] at hl
    obtain ⟨hp, hl⟩ := hl
    have hn := pairsB_len hl
    have hr2 : m.tofl.length ≤ 2 ^ 40 := by
      rw [h']; rw [h] at hs; simp at hs ⊢; omega
    obtain ⟨h1, h2, h3, h4, h5⟩ := el_step Fill.e h (Nat.le_trans hs (by decide))
    obtain ⟨_, k2, k3, k4, k5⟩ := el_step Fill.e h' hr2
    rw [hq] at k2 k3
    have hpl : pre.length ≤ 15 := by rw [h] at hs; simp at hs; omega
    have wx := fill_w (ok x (by rw [h]; simp))
    have wy := fill_w (ok2 y (by rw [h']; simp))
    have h8 : x.stops.length ≤ 8 := by
      have hx := ok x (by rw [h]; simp)
      cases k : kindS x.kind with
      | true => rw [(fillB_solid hx k).2]; exact Nat.zero_le _
      | false =>
        cases k' : kindP x.kind with
        | true => rw [(fillB_pic hx k k').2.2.2]; exact Nat.zero_le _
        | false => exact (fillB_grad hx k k').2.2.2.2.2.2.2
    have e := loopA2 (m := m) t B pre.length acc (by omega) x y (btC t x.color y.color) (btM t x.mat y.mat) h8 wx.s wy.s x.stops [] y.stops [] [] rfl rfl rfl (pairB_r hp).2.2.2 rfl
    rw [h4] at e
    rw [w_morph_At_L0]
    simp only [h1, h2, h3, k2, k3, Fill.e, color10_c t wx.c wy.c, matrix10_c t wx.m wy.m, Option.bind_some, Option.bind_none, andB, orB, orB2, List.getD_cons_zero, List.getD_cons_succ, toB_b, toI_i, toS_s, toL_l, cond_true, cond_false, List.length_map]
    refine Eq.trans e ?_
    refine (loopA0 t B hs ok ok2 rest (pre ++ [x]) g (q ++ [y]) (acc ++ [btFill t x y]) h5 k5 (by simp [hq]) hl (by simp [ha])).trans ?_
    rw [List.zipWith_cons_cons, List.append_assoc]; rfl
structure Rt (m : Mor) : Prop where
  id : 0 ≤ m.id ∧ m.id ≤ 65535
  fr : frB4 m.fr = true
  to : frB4 m.to = true
  l1 : listsB m.fills m.strks = true
  l2 : listsB m.tofl m.tost = true
  p : pairsB m.fills m.tofl = true
  n : m.strks.length = m.tost.length
  r : rightRecs (m.fills.length : Nat) (m.strks.length : Nat) m.recs 1 = true
  t : rightRecs 0 0 m.targ 2 = true
theorem right10_r {m : Mor} (h : right10 m = true) : Rt m := by
  unfold right10 at h
  simp only [Bool.and_eq_true, decide_eq_true_eq, beq_iff_eq] at h
  obtain ⟨h1, h2, h3, h4, h5, h6, h7, h8, h9, h10⟩ := h
  exact ⟨by omega, h3, h4, h5, h6, h7, by omega, h9, h10⟩
theorem Rt.recs {m : Mor} (h : Rt m) : m.recs.length ≤ 512 ∧ m.targ.length ≤ 512 ∧ (∀ r, r ∈ m.recs → recB r (m.fills.length : Nat) (m.strks.length : Nat) = true ∧ r.kind ≠ 3) ∧ (∀ r, r ∈ m.targ → Pen r) := by
  obtain ⟨_, _, _, a, b⟩ := rightRecs_r h.r
  obtain ⟨_, _, _, c, d⟩ := rightRecs_r h.t
  exact ⟨a, c, recsB_1 b, recsB_2 d⟩
def atF (m : Mor) (t : Int) : T9 × Int := bif !right10 m || (decide (t < 0) || decide (t > 65535)) then (zero9, 1) else match at10 m t with
  | none => (zero9, 3)
  | some s => (s, 0)
theorem At_c (m : Mor) (h : m.sh) (t : Int) : cW f_morph_At (m.e ++ [.i t]) [] = some (e9 (atF m t).1 ++ [.i (atF m t).2], []) := by
  have er := Right10_c m h
  simp only [Mor.e, List.cons_append, List.nil_append] at er ⊢
  rw [w_morph_At]
  simp only [er, Bool.and_true, Bool.true_and, Bool.and_false, Bool.false_and, Bool.or_true, Bool.true_or, Bool.or_false, Bool.false_or, Bool.not_true, Bool.not_false, Option.bind_some, Option.bind_none, andB, orB, orB2, List.getD_cons_zero, List.getD_cons_succ, toB_b, toI_i, toS_s, toL_l, cond_true, cond_false, List.length_map]
  unfold atF
  cases hc : (!right10 m || (decide (t < 0) || decide (t > 65535))) with
  | true => rfl
  | false =>
    simp only [Bool.or_eq_false_iff, Bool.not_eq_false'] at hc
    have R := right10_r hc.1
    obtain ⟨r1, r2, r3, r4⟩ := R.recs
    obtain ⟨a1, a2, a3, a4⟩ := listsB_r R.l1
    obtain ⟨b1, b2, b3, b4⟩ := listsB_r R.l2
    have e0 := loopA0 (m := m) t (btC t m.fr m.to) a1 a3 b3 m.fills [] m.tofl [] [] rfl rfl rfl R.p rfl
    have e4 := loopA4 (m := m) t (btC t m.fr m.to) ((List.zipWith (btFill t) m.fills m.tofl).map Fill.e) a2 a4 b4 m.strks [] m.tost [] [] rfl rfl rfl R.n rfl
    have e6 := loopA6 (m := m) t (btC t m.fr m.to) (List.zipWith (btFill t) m.fills m.tofl) (List.zipWith (btStrk t) m.strks m.tost) r1 r2 r3 r4 m.recs [] m.targ [] [] rfl rfl rfl
    simp only [rect10_c t (fr4_w R.fr) (fr4_w R.to), cond_false, Option.bind_some, Option.bind_none, andB, orB, orB2, List.getD_cons_zero, List.getD_cons_succ, toB_b, toI_i, toS_s, toL_l, cond_true, cond_false, List.length_map]
    refine Eq.trans e0 ?_
    refine Eq.trans e4 ?_
    refine Eq.trans e6 ?_
    unfold at10 resA
    cases pairsAt m.recs m.targ with
    | none => rfl
    | some d => rfl
end Go.AI
set_option linter.unusedVariables false
set_option linter.unusedSimpArgs false
set_option maxRecDepth 100000
namespace Go.AI
open Go Go.Proofs

end Go.AI
set_option linter.unusedVariables false
set_option linter.unusedSimpArgs false
set_option maxRecDepth 100000
namespace Go.AI
open Go Go.Proofs

theorem awake10 : cW f_celluloidlaw10_awake [] [] = some ([.b true], []) := c_at 100 (by kernel_rfl)
end Go.AI
set_option linter.unusedVariables false
set_option linter.unusedSimpArgs false
set_option maxRecDepth 100000
namespace Go.AI
open Go Go.Proofs

def small10 (m : Mor) : Bool := smallB m.fills m.strks && (smallB m.tofl m.tost && (smallR m.recs && smallR m.targ))
structure Mor.wf (m : Mor) : Prop where
  f : m.fills.length ≤ 9223372036854775807
  tf : m.tofl.length ≤ 9223372036854775807
  r : m.recs.length ≤ 9223372036854775807
  t : m.targ.length ≤ 9223372036854775807
  rr : ∀ r, r ∈ m.recs → r.fills.length ≤ 9223372036854775807
  tt : ∀ r, r ∈ m.targ → r.fills.length ≤ 9223372036854775807
theorem small10_c (m : Mor) (h : m.wf) : cW f_celluloidref10_Small m.e [] = some ([.b (small10 m)], []) := by
  unfold Mor.e
  rw [w_celluloidref10_Small]
  simp only [small_c h.f, small_c h.tf, small9_c h.r h.rr, small9_c h.t h.tt, Option.bind_some, Option.bind_none, andB, orB, orB2, List.getD_cons_zero, List.getD_cons_succ, toB_b, toI_i, toS_s, toL_l, cond_true, cond_false, List.length_map]
  unfold small10
  rfl
theorem small10_sh {m : Mor} (h : small10 m = true) : m.sh := by
  unfold small10 at h
  simp only [Bool.and_eq_true] at h
  obtain ⟨h1, h2, h3, h4⟩ := h
  obtain ⟨a1, a2, a3⟩ := smallB_r h1
  obtain ⟨b1, b2, b3⟩ := smallB_r h2
  obtain ⟨c1, c2⟩ := smallR_r h3
  obtain ⟨d1, d2⟩ := smallR_r h4
  exact ⟨Nat.le_trans (Nat.le_of_lt a2) (by decide), Nat.le_trans (Nat.le_of_lt b2) (by decide), mem_shorts a1, mem_shorts b1, Nat.le_trans (Nat.le_of_lt a3) (by decide), Nat.le_trans (Nat.le_of_lt b3) (by decide), Nat.le_trans c1 (by decide), Nat.le_trans d1 (by decide), c2, d2⟩
theorem ref10_c (m : Mor) : cW f_celluloidlaw10_ref m.e [] = some (m.e, []) := by
  unfold Mor.e
  rw [w_celluloidlaw10_ref]
theorem at10_some {m : Mor} {t : Int} {s : T9} (h : at10 m t = some s) : ∃ d, pairsAt m.recs m.targ = some d ∧ s = (m.id, btC t m.fr m.to, List.zipWith (btFill t) m.fills m.tofl, List.zipWith (btStrk t) m.strks m.tost, d.map (ptAt t)) := by
  unfold at10 at h
  obtain ⟨d, h1, h2⟩ := Option.map_eq_some_iff.1 h
  exact ⟨d, h1, h2.symm⟩
theorem Rt.at_right {m : Mor} (R : Rt m) {t : Int} {s : T9} (h : at10 m t = some s) : right9 s = true ∧ sh9 s := by
  obtain ⟨d, hd, rfl⟩ := at10_some h
  obtain ⟨r1, r2, r3, r4⟩ := R.recs
  have D := duos_of r3 r4 hd
  obtain ⟨q1, q2, q3⟩ := D.right t
  have hL := lists_bt R.l1 R.l2 R.p R.n t
  obtain ⟨l1, l2, l3, l4⟩ := listsB_r hL
  have n1 : (List.zipWith (btFill t) m.fills m.tofl).length = m.fills.length := by rw [List.length_zipWith, ← pairsB_len R.p, Nat.min_self]
  have n2 : (List.zipWith (btStrk t) m.strks m.tost).length = m.strks.length := by rw [List.length_zipWith, ← R.n, Nat.min_self]
  obtain ⟨f0, s0, _⟩ := rightRecs_r R.r
  refine ⟨?_, ?_⟩
  · unfold right9 frB
    have e1 : inB2 0 65535 m.id = true := (inR_iff _ _ _).2 R.id
    have e2 := fr4_bt R.fr R.to t
    unfold frB4 at e2
    simp only
    rw [e1, e2, hL, n1, n2]
    simp only [Bool.true_and]
    unfold rightRecs
    rw [q1, (inR_iff _ _ _).2 f0, (inR_iff _ _ _).2 s0, show inB2 0 2 0 = true from rfl, List.length_map, q3, decide_eq_true (by omega)]
    rfl
  · refine ⟨Nat.le_trans l1 (by decide), ?_, Nat.le_trans l2 (by decide), ?_, q2⟩
    · intro f hf
      have hx := l3 f hf
      cases k : kindS f.kind with
      | true => rw [(fillB_solid hx k).2]; exact Nat.zero_le _
      | false =>
        cases k' : kindP f.kind with
        | true => rw [(fillB_pic hx k k').2.2.2]; exact Nat.zero_le _
        | false => exact Nat.le_trans (fillB_grad hx k k').2.2.2.2.2.2.2 (by decide)
    · show (d.map (ptAt t)).length ≤ 2 ^ 40
      rw [List.length_map, q3]; exact Nat.le_trans r1 (by decide)
/-! ### the same -/
end Go.AI
set_option linter.unusedVariables false
set_option linter.unusedSimpArgs false
set_option maxRecDepth 100000
namespace Go.AI
open Go Go.Proofs

def mid (x y z : Int) : Prop := (x ≤ z ∧ z ≤ y) ∨ (y ≤ z ∧ z ≤ x)
theorem lo_bif {x y z : Int} (h : mid x y z) : decide (z < (bif decide (y < x) then y else x)) = false := by
  unfold mid at h
  simp only [Bool.cond_decide, decide_eq_false_iff_not]
  split <;> omega
theorem hi_bif {x y z : Int} (h : mid x y z) : decide (z > (bif decide (y > x) then y else x)) = false := by
  unfold mid at h
  simp only [Bool.cond_decide, decide_eq_false_iff_not]
  split <;> omega
theorem mid_bt {a b : Int} (ha : inW a) (hb : inW b) (t : Int) : mid (betw a b 0) (betw a b 65535) (betw a b t) := by
  rw [betw_0 ha hb, betw_1 ha hb]
  obtain ⟨p, q⟩ := betw_mid (t := t) ha hb
  rcases Int.le_total a b with h | h
  · exact .inl (p h)
  · exact .inr (q h)
theorem mid_self (a : Int) : mid a a a := .inl ⟨Int.le_refl _, Int.le_refl _⟩
theorem duo_mid {f s : Int} {o : Rec} {p : Rec × Rec} (h : Duo f s o p) (t : Int) : mid (ptAt 0 p).x (ptAt 65535 p).x (ptAt t p).x ∧ mid (ptAt 0 p).y (ptAt 65535 p).y (ptAt t p).y ∧ mid (ptAt 0 p).cx (ptAt 65535 p).cx (ptAt t p).cx := by
  unfold ptAt
  cases h with
  | set k e h =>
    rw [e]
    dsimp only
    rw [if_pos k, if_pos k, if_pos k]
    exact ⟨mid_self _, mid_self _, mid_self _⟩
  | pen k a b e h =>
    rw [if_neg (pen2 a), if_neg (pen2 a), if_neg (pen2 a)]
    obtain ⟨a1, a2, a3, a4⟩ := a.w.inX
    obtain ⟨b1, b2, b3, b4⟩ := b.w.inX
    exact ⟨mid_bt a1 b1 t, mid_bt a2 b2 t, mid_bt a3 b3 t⟩
theorem duo_first {f s : Int} {o : Rec} {p : Rec × Rec} (h : Duo f s o p) (hk : (ptAt 0 p).kind = o.kind) : ptAt 0 p = o := by
  unfold ptAt at *
  cases h with
  | set k e h =>
    rw [e]
    exact if_pos k
  | pen k a b e h =>
    rw [if_neg (pen2 a), Pen.bt_0 a b] at *
    exact h hk
theorem ends_loop2 {m : Mor} {f s : Int} {d : List (Rec × Rec)} (t : Int) (A B C : T9) (hr : m.recs.length ≤ 512) (hd : d.length ≤ 512) (hs : Shs m.recs) (hA : A.2.2.2.2 = d.map (ptAt 0)) (hB : B.2.2.2.2 = d.map (ptAt 65535)) (hC : C.2.2.2.2 = d.map (ptAt t)) (hR : cW f_shape_Right (e9 C) [] = some ([.b true], [])) :
    ∀ (rest pre : List Rec) (dr dp : List (Rec × Rec)), m.recs = pre ++ rest → d = dp ++ dr → dp.length = pre.length → Duos f s rest dr →
    rW f_celluloidlaw10_MorphEnds [] at_celluloidlaw10_MorphEnds_L2 (S_celluloidlaw10_MorphEnds_L2 (C.2.2.2.2.length : Nat) pre.length m.id m.fr.1 m.fr.2.1 m.fr.2.2.1 m.fr.2.2.2 m.to.1 m.to.2.1 m.to.2.2.1 m.to.2.2.2 (m.fills.map Fill.e) (m.tofl.map Fill.e) (m.strks.map Strk.e) (m.tost.map Strk.e) (m.recs.map Rec.e) (m.targ.map Rec.e)
      A.1 A.2.1.1 A.2.1.2.1 A.2.1.2.2.1 A.2.1.2.2.2 (A.2.2.1.map Fill.e) (A.2.2.2.1.map Strk.e) (A.2.2.2.2.map Rec.e)
      B.1 B.2.1.1 B.2.1.2.1 B.2.1.2.2.1 B.2.1.2.2.2 (B.2.2.1.map Fill.e) (B.2.2.2.1.map Strk.e) (B.2.2.2.2.map Rec.e)
      C.1 C.2.1.1 C.2.1.2.1 C.2.1.2.2.1 C.2.1.2.2.2 (C.2.2.1.map Fill.e) (C.2.2.2.1.map Strk.e) (C.2.2.2.2.map Rec.e)) = some ([.b true], []) := by
  have hcl : C.2.2.2.2.length = d.length := by rw [hC, List.length_map]
  intro rest
  induction rest with
  | nil =>
    intro pre dr dp h h' hp D
    cases D
    have e : decide (((pre.length : Nat) : Int) < ((C.2.2.2.2.length : Nat) : Int)) = false := by
      rw [hcl, h']; simp; omega
    rw [w_celluloidlaw10_MorphEnds_L2]
    simp only [e9] at hR
    simp only [e, hR, awake10, Bool.and_true, Bool.true_and, Bool.and_false, Bool.false_and, Bool.or_true, Bool.true_or, Bool.or_false, Bool.false_or, Bool.not_true, Bool.not_false, Option.bind_some, Option.bind_none, andB, orB, orB2, List.getD_cons_zero, List.getD_cons_succ, toB_b, toI_i, toS_s, toL_l, cond_true, cond_false, List.length_map]
  | cons o l IH =>
    intro pre dr dp h h' hp D
    obtain ⟨p, q, rfl, g, tl⟩ : ∃ p q, dr = p :: q ∧ Duo f s o p ∧ Duos f s l q := by
      cases D with
      | cons g tl => exact ⟨_, _, rfl, g, tl⟩
    obtain ⟨h1, h2, h3, h4, h5⟩ := el_step Rec.e h (Nat.le_trans hr (by decide))
    have lA : A.2.2.2.2 = (dp.map (ptAt 0)) ++ ptAt 0 p :: q.map (ptAt 0) := by rw [hA, h']; simp
    have lB : B.2.2.2.2 = (dp.map (ptAt 65535)) ++ ptAt 65535 p :: q.map (ptAt 65535) := by rw [hB, h']; simp
    have lC : C.2.2.2.2 = (dp.map (ptAt t)) ++ ptAt t p :: q.map (ptAt t) := by rw [hC, h']; simp
    have nd : ∀ u : Int, (d.map (ptAt u)).length ≤ 2 ^ 40 := fun u => by rw [List.length_map]; exact Nat.le_trans hd (by decide)
    obtain ⟨_, a2, a3, _, _⟩ := el_step Rec.e lA (by rw [hA]; exact nd _)
    obtain ⟨_, b2, b3, _, _⟩ := el_step Rec.e lB (by rw [hB]; exact nd _)
    obtain ⟨c1, c2, c3, _, _⟩ := el_step Rec.e lC (by rw [hC]; exact nd _)
    rw [List.length_map, hp] at a2 a3 b2 b3 c1 c2 c3
    obtain ⟨m1, m2, m3⟩ := duo_mid g t
    have ih := IH (pre ++ [o]) q (dp ++ [p]) h5 (by rw [h']; simp) (by simp [hp]) tl
    rw [w_celluloidlaw10_MorphEnds_L2]
    simp only [h2, h3, h4, a2, a3, b2, b3, c1, c2, c3, Rec.e, lo_bif m1, hi_bif m1, lo_bif m2, hi_bif m2, lo_bif m3, hi_bif m3, Bool.and_true, Bool.true_and, Bool.and_false, Bool.false_and, Bool.or_true, Bool.true_or, Bool.or_false, Bool.false_or, Bool.not_true, Bool.not_false, Option.bind_some, Option.bind_none, andB, orB, orB2, List.getD_cons_zero, List.getD_cons_succ, toB_b, toI_i, toS_s, toL_l, cond_true, cond_false, List.length_map]
    by_cases hk : (ptAt 0 p).kind = o.kind
    · have hx := duo_first g hk
      have es := sameRecs_c (l := [o]) (by show (1 : Nat) ≤ 2 ^ 40; decide) (fun r hr => by rw [List.mem_singleton.1 hr]; exact hs o (by rw [h]; simp))
      have es' : cW f_shape_SameRecords [.l (List.set [[PV.i 0, PV.i 0, PV.i 0, PV.i 0, PV.i 0, PV.i 0, PV.i 0, PV.i 0, PV.l [], PV.l []]] 0 [PV.i o.kind, PV.i o.x, PV.i o.y, PV.i o.cx, PV.i o.cy, PV.i o.left, PV.i o.right, PV.i o.line, PV.l (o.fills.map Fill.e), PV.l (o.strks.map Strk.e)]), .l (List.set [[PV.i 0, PV.i 0, PV.i 0, PV.i 0, PV.i 0, PV.i 0, PV.i 0, PV.i 0, PV.l [], PV.l []]] 0 [PV.i o.kind, PV.i o.x, PV.i o.y, PV.i o.cx, PV.i o.cy, PV.i o.left, PV.i o.right, PV.i o.line, PV.l (o.fills.map Fill.e), PV.l (o.strks.map Strk.e)])] [] = some ([.b true], []) := es
      rw [hx, beq_self_eq_true]
      simp only [es', Bool.and_true, Bool.true_and, Bool.and_false, Bool.false_and, Bool.or_true, Bool.true_or, Bool.or_false, Bool.false_or, Bool.not_true, Bool.not_false, Option.bind_some, Option.bind_none, andB, orB, orB2, List.getD_cons_zero, List.getD_cons_succ, toB_b, toI_i, toS_s, toL_l, cond_true, cond_false, List.length_map]
      exact ih
    · rw [show ((ptAt 0 p).kind == o.kind) = false by simp [hk]]
      simp only [Bool.and_true, Bool.true_and, Bool.and_false, Bool.false_and, Bool.or_true, Bool.true_or, Bool.or_false, Bool.false_or, Bool.not_true, Bool.not_false, Option.bind_some, Option.bind_none, andB, orB, orB2, List.getD_cons_zero, List.getD_cons_succ, toB_b, toI_i, toS_s, toL_l, cond_true, cond_false, List.length_map]
      exact ih
theorem ends_loop0 {m : Mor} {f s : Int} {d : List (Rec × Rec)} (t e : Int) (A B C : T9) (hs : m.strks.length ≤ 15) (ht : m.tost.length ≤ 15) (hr : m.recs.length ≤ 512) (hd : d.length = m.recs.length) (hS : Shs m.recs) (sA : A.2.2.2.1 = m.strks) (sB : B.2.2.2.1 = m.tost) (hn : m.strks.length = m.tost.length) (hA : A.2.2.2.2 = d.map (ptAt 0)) (hB : B.2.2.2.2 = d.map (ptAt 65535)) (hC : e = 0 → C.2.2.2.2 = d.map (ptAt t) ∧ cW f_shape_Right (e9 C) [] = some ([.b true], [])) (hE : e ≠ 0 → t < 0 ∨ t > 65535) (D : Duos f s m.recs d) :
    ∀ (rest pre : List Strk) (g q : List Strk), m.strks = pre ++ rest → m.tost = q ++ g → q.length = pre.length →
    rW f_celluloidlaw10_MorphEnds [] at_celluloidlaw10_MorphEnds_L0 (S_celluloidlaw10_MorphEnds_L0 t e (m.strks.length : Nat) pre.length m.id m.fr.1 m.fr.2.1 m.fr.2.2.1 m.fr.2.2.2 m.to.1 m.to.2.1 m.to.2.2.1 m.to.2.2.2 (m.fills.map Fill.e) (m.tofl.map Fill.e) (m.strks.map Strk.e) (m.tost.map Strk.e) (m.recs.map Rec.e) (m.targ.map Rec.e)
      A.1 A.2.1.1 A.2.1.2.1 A.2.1.2.2.1 A.2.1.2.2.2 (A.2.2.1.map Fill.e) (m.strks.map Strk.e) (A.2.2.2.2.map Rec.e)
      B.1 B.2.1.1 B.2.1.2.1 B.2.1.2.2.1 B.2.1.2.2.2 (B.2.2.1.map Fill.e) (m.tost.map Strk.e) (B.2.2.2.2.map Rec.e)
      C.1 C.2.1.1 C.2.1.2.1 C.2.1.2.2.1 C.2.1.2.2.2 (C.2.2.1.map Fill.e) (C.2.2.2.1.map Strk.e) (C.2.2.2.2.map Rec.e)) = some ([.b true], [])
  | [], pre, g, q, h, h', hq => by
    rw [w_celluloidlaw10_MorphEnds_L0]
    simp only [el_end h, Bool.and_true, Bool.true_and, Bool.and_false, Bool.false_and, Bool.or_true, Bool.true_or, Bool.or_false, Bool.false_or, Bool.not_true, Bool.not_false, Option.bind_some, Option.bind_none, andB, orB, orB2, List.getD_cons_zero, List.getD_cons_succ, toB_b, toI_i, toS_s, toL_l, cond_true, cond_false, List.length_map]
    by_cases he : e = 0
    · obtain ⟨c1, c2⟩ := hC he
      have el := ends_loop2 t A B C hr (by omega) hS hA hB c1 c2 m.recs [] d [] rfl rfl rfl D
      rw [sA, sB] at el
      rw [show (e != 0) = false by simp [he], hA, hB, c1]
      rw [hA, hB, c1] at el
      have n1 : (((d.length : Nat) : Int) != ((m.recs.length : Nat) : Int)) = false := by simp [hd]
      have n2 : (((d.length : Nat) : Int) != ((d.length : Nat) : Int)) = false := by simp
      simp only [List.length_map] at el ⊢
      simp only [n1, n2, Bool.and_true, Bool.true_and, Bool.and_false, Bool.false_and, Bool.or_true, Bool.true_or, Bool.or_false, Bool.false_or, Bool.not_true, Bool.not_false, Option.bind_some, Option.bind_none, andB, orB, orB2, List.getD_cons_zero, List.getD_cons_succ, toB_b, toI_i, toS_s, toL_l, cond_true, cond_false, List.length_map]
      exact el
    · rw [show (e != 0) = true by simp [he]]
      simp only [awake10, Bool.and_true, Bool.true_and, Bool.and_false, Bool.false_and, Bool.or_true, Bool.true_or, Bool.or_false, Bool.false_or, Bool.not_true, Bool.not_false, Option.bind_some, Option.bind_none, andB, orB, orB2, List.getD_cons_zero, List.getD_cons_succ, toB_b, toI_i, toS_s, toL_l, cond_true, cond_false, List.length_map]
      rcases hE he with k | k
      · rw [decide_eq_true k]; simp only [Bool.and_true, Bool.true_and, Bool.and_false, Bool.false_and, Bool.or_true, Bool.true_or, Bool.or_false, Bool.false_or, Bool.not_true, Bool.not_false, Option.bind_some, Option.bind_none, andB, orB, orB2, List.getD_cons_zero, List.getD_cons_succ, toB_b, toI_i, toS_s, toL_l, cond_true, cond_false, List.length_map]
      · rw [decide_eq_true k]
        cases decide (t < 0) <;> simp only [Bool.and_true, Bool.true_and, Bool.and_false, Bool.false_and, Bool.or_true, Bool.true_or, Bool.or_false, Bool.false_or, Bool.not_true, Bool.not_false, Option.bind_some, Option.bind_none, andB, orB, orB2, List.getD_cons_zero, List.getD_cons_succ, toB_b, toI_i, toS_s, toL_l, cond_true, cond_false, List.length_map]
  | x :: rest, pre, [], q, h, h', hq => by
    exfalso
    rw [h, h'] at hn
    simp at hn
    omega
  | x :: rest, pre, y :: g, q, h, h', hq => by
    obtain ⟨h1, h2, h3, h4, h5⟩ := el_step Strk.e h (Nat.le_trans hs (by decide))
    obtain ⟨k1, k2, k3, k4, k5⟩ := el_step Strk.e h' (Nat.le_trans ht (by decide))
    rw [hq] at k1 k2 k3
    have g1 : decide (((pre.length : Nat) : Int) ≥ ((m.strks.length : Nat) : Int)) = false := by
      rw [h]; simp; omega
    have g2 : decide (((pre.length : Nat) : Int) ≥ ((m.tost.length : Nat) : Int)) = false := by
      rw [h']; simp; omega
    rw [w_celluloidlaw10_MorphEnds_L0]
    simp only [h1, h2, h3, h4, k2, k3, g1, g2, Strk.e, beq_self_eq_true, Bool.and_self, Bool.and_true, Bool.true_and, Bool.and_false, Bool.false_and, Bool.or_true, Bool.true_or, Bool.or_false, Bool.false_or, Bool.not_true, Bool.not_false, Option.bind_some, Option.bind_none, andB, orB, orB2, List.getD_cons_zero, List.getD_cons_succ, toB_b, toI_i, toS_s, toL_l, cond_true, cond_false, List.length_map]
    exact ends_loop0 t e A B C hs ht hr hd hS sA sB hn hA hB hC hE D rest (pre ++ [x]) g (q ++ [y]) h5 k5 (by simp [hq])
theorem zip_first {α : Type} (f : α → α → α) : ∀ (l m : List α), l.length = m.length → (∀ x y, x ∈ l → y ∈ m → f x y = x) → List.zipWith f l m = l
  | [], [], _, _ => rfl
  | [], _ :: _, h, _ => by cases h
  | _ :: _, [], h, _ => by cases h
  | x :: l, y :: m, h, k => by
    rw [List.zipWith_cons_cons, k x y (by simp) (by simp), zip_first f l m (by simpa using h) (fun a b ha hb => k a b (by simp [ha]) (by simp [hb]))]
theorem zip_last {α : Type} (f : α → α → α) : ∀ (l m : List α), l.length = m.length → (∀ x y, x ∈ l → y ∈ m → f x y = y) → List.zipWith f l m = m
  | [], [], _, _ => rfl
  | [], _ :: _, h, _ => by cases h
  | _ :: _, [], h, _ => by cases h
  | x :: l, y :: m, h, k => by
    rw [List.zipWith_cons_cons, k x y (by simp) (by simp), zip_last f l m (by simpa using h) (fun a b ha hb => k a b (by simp [ha]) (by simp [hb]))]
theorem atF_bad {m : Mor} (h : right10 m = false) (t : Int) : atF m t = (zero9, 1) := by
  unfold atF
  rw [h]; rfl
theorem MorphEnds_c (m : Mor) (w : m.wf) (t : Int) : cW f_celluloidlaw10_MorphEnds (m.e ++ [.i t]) [] = some ([.b true], []) := by
  have es := small10_c m w
  have er := ref10_c m
  simp only [Mor.e, List.cons_append, List.nil_append] at es er ⊢
  rw [w_celluloidlaw10_MorphEnds]
  simp only [er, es, Option.bind_some, Option.bind_none, andB, orB, orB2, List.getD_cons_zero, List.getD_cons_succ, toB_b, toI_i, toS_s, toL_l, cond_true, cond_false, List.length_map]
  cases hs : small10 m with
  | false => simp only [awake10, Bool.and_true, Bool.true_and, Bool.and_false, Bool.false_and, Bool.or_true, Bool.true_or, Bool.or_false, Bool.false_or, Bool.not_true, Bool.not_false, Option.bind_some, Option.bind_none, andB, orB, orB2, List.getD_cons_zero, List.getD_cons_succ, toB_b, toI_i, toS_s, toL_l, cond_true, cond_false, List.length_map]
  | true =>
    have sh := small10_sh hs
    have e0 := At_c m sh 0
    have e1 := At_c m sh 65535
    have e2 := At_c m sh t
    simp only [Mor.e, List.cons_append, List.nil_append] at e0 e1 e2
    cases hr : right10 m with
    | false =>
      rw [atF_bad hr] at e0 e1 e2
      simp only [e9, zero9, List.map_nil, List.cons_append, List.nil_append] at e0 e1 e2
      simp only [e0, e1, e2, awake10, beq_self_eq_true, Bool.and_true, Bool.true_and, Bool.and_false, Bool.false_and, Bool.or_true, Bool.true_or, Bool.or_false, Bool.false_or, Bool.not_true, Bool.not_false, Option.bind_some, Option.bind_none, andB, orB, orB2, List.getD_cons_zero, List.getD_cons_succ, toB_b, toI_i, toS_s, toL_l, cond_true, cond_false, List.length_map]
      rfl
    | true =>
      have R := right10_r hr
      have b0 : atF m 0 = (match at10 m 0 with | none => (zero9, 3) | some s => (s, 0)) := by unfold atF; rw [hr]; rfl
      have b1 : atF m 65535 = (match at10 m 65535 with | none => (zero9, 3) | some s => (s, 0)) := by unfold atF; rw [hr]; rfl
      cases hp : pairsAt m.recs m.targ with
      | none =>
        have n : ∀ u, at10 m u = none := fun u => by unfold at10; rw [hp]; rfl
        rw [b0, n] at e0
        rw [b1, n] at e1
        simp only [e9, zero9, List.map_nil, List.cons_append, List.nil_append] at e0 e1 e2
        simp only [e0, e1, e2, awake10, beq_self_eq_true, Bool.and_true, Bool.true_and, Bool.and_false, Bool.false_and, Bool.or_true, Bool.true_or, Bool.or_false, Bool.false_or, Bool.not_true, Bool.not_false, Option.bind_some, Option.bind_none, andB, orB, orB2, List.getD_cons_zero, List.getD_cons_succ, toB_b, toI_i, toS_s, toL_l, cond_true, cond_false, List.length_map]
        rfl
      | some d =>
        have n : ∀ u, at10 m u = some (m.id, btC u m.fr m.to, List.zipWith (btFill u) m.fills m.tofl, List.zipWith (btStrk u) m.strks m.tost, d.map (ptAt u)) := fun u => by unfold at10; rw [hp]; rfl
        obtain ⟨r1, r2, r3, r4⟩ := R.recs
        obtain ⟨l1, l2, l3, l4⟩ := listsB_r R.l1
        obtain ⟨k1, k2, k3, k4⟩ := listsB_r R.l2
        have D := duos_of r3 r4 hp
        have z0 : List.zipWith (btStrk 0) m.strks m.tost = m.strks := zip_first _ _ _ R.n (fun x y hx hy => btStrk_0 (strk_w (l4 x hx)) (strk_w (k4 y hy)))
        have z1 : List.zipWith (btStrk 65535) m.strks m.tost = m.tost := zip_last _ _ _ R.n (fun x y hx hy => btStrk_1 (strk_w (l4 x hx)) (strk_w (k4 y hy)))
        have q : ∀ u, right9 (m.id, btC u m.fr m.to, List.zipWith (btFill u) m.fills m.tofl, List.zipWith (btStrk u) m.strks m.tost, d.map (ptAt u)) = true ∧ _ := fun u => R.at_right (n u)
        have Q : ∀ u, cW f_shape_Right (e9 (m.id, btC u m.fr m.to, List.zipWith (btFill u) m.fills m.tofl, List.zipWith (btStrk u) m.strks m.tost, d.map (ptAt u))) [] = some ([.b true], []) := fun u => by
          have := Right9_c _ (q u).2
          rwa [(q u).1] at this
        have q0 := Q 0
        have q1 := Q 65535
        rw [b0, n] at e0
        rw [b1, n] at e1
        rw [z0, btC_0 (fr4_w R.fr) (fr4_w R.to)] at e0 q0
        rw [z1, btC_1 (fr4_w R.fr) (fr4_w R.to)] at e1 q1
        have hC : (atF m t).2 = 0 → (atF m t).1.2.2.2.2 = d.map (ptAt t) ∧ cW f_shape_Right (e9 (atF m t).1) [] = some ([.b true], []) := by
          intro h
          unfold atF at h ⊢
          rw [hr] at h ⊢
          cases hb : (decide (t < 0) || decide (t > 65535)) with
          | true => rw [hb] at h; cases h
          | false =>
            simp only [Bool.not_true, Bool.or_self, cond_false]
            rw [n t]
            exact ⟨rfl, Q t⟩
        have hE : (atF m t).2 ≠ 0 → t < 0 ∨ t > 65535 := by
          intro h
          unfold atF at h
          rw [hr] at h
          cases hb : (decide (t < 0) || decide (t > 65535)) with
          | true => simpa using hb
          | false =>
            rw [hb] at h
            simp only [Bool.not_true, Bool.or_self, cond_false] at h
            rw [n t] at h
            exact absurd rfl h
        have el := ends_loop0 (m := m) (d := d) t (atF m t).2 (m.id, m.fr, List.zipWith (btFill 0) m.fills m.tofl, m.strks, d.map (ptAt 0)) (m.id, m.to, List.zipWith (btFill 65535) m.fills m.tofl, m.tost, d.map (ptAt 65535)) (atF m t).1 l2 k2 r1 (D.right 0).2.2 sh.rr rfl rfl R.n rfl rfl hC hE D m.strks [] m.tost [] rfl rfl rfl
        simp only [e9, List.cons_append, List.nil_append] at e0 e1 e2 q0 q1
        simp only [e0, e1, e2, q0, q1, beq_self_eq_true, bne_self_eq_false, Bool.and_self, Bool.and_true, Bool.true_and, Bool.and_false, Bool.false_and, Bool.or_true, Bool.true_or, Bool.or_false, Bool.false_or, Bool.not_true, Bool.not_false, Option.bind_some, Option.bind_none, andB, orB, orB2, List.getD_cons_zero, List.getD_cons_succ, toB_b, toI_i, toS_s, toL_l, cond_true, cond_false, List.length_map]
        exact el
end Go.AI
