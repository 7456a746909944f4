/- Fills and lines: what is the same, what is right. -/
import Derived.Test.YtkclfiliefadlaaGreatU08
import Derived.Test.YtkclfiliefadlaaGreatW
import Derived.Test.YtkclfiliefadlaaGreatP07
import Derived.Test.YtkclfiliefadlaaGreatAiL
import Derived.Test.YtkclfiliefadlaaGreatP02
set_option linter.unusedVariables false
set_option linter.unusedSimpArgs false
set_option maxRecDepth 100000
namespace Go.AI
open Go Go.Proofs

structure Stop where
  ratio : Int
  color : I4
  deriving DecidableEq
structure Fill where
  kind : Int
  color : I4
  mat : Mat
  spread : Int
  stops : List Stop
  id : Int
  deriving DecidableEq
structure Strk where
  width : Int
  color : I4
  deriving DecidableEq
def Stop.e (s : Stop) : List PV := [.i s.ratio, .i s.color.1, .i s.color.2.1, .i s.color.2.2.1, .i s.color.2.2.2]
def Strk.e (s : Strk) : List PV := [.i s.width, .i s.color.1, .i s.color.2.1, .i s.color.2.2.1, .i s.color.2.2.2]
def Fill.e (f : Fill) : List PV := [.i f.kind, .i f.color.1, .i f.color.2.1, .i f.color.2.2.1, .i f.color.2.2.2, .i f.mat.1, .i f.mat.2.1, .i f.mat.2.2.1, .i f.mat.2.2.2.1, .i f.mat.2.2.2.2.1, .i f.mat.2.2.2.2.2, .i f.spread, .l (f.stops.map Stop.e), .i f.id]

theorem rightK_c (c : I4) : cW f_q166 [.i c.1, .i c.2.1, .i c.2.2.1, .i c.2.2.2] [] = some ([.b (rgbaB c)], []) := (rightK_ans c).c
theorem qRGBA_c (c : I4) : cW f_q101 [.i c.1, .i c.2.1, .i c.2.2.1, .i c.2.2.2] [] = some ([.b (rgbaB c)], []) := (qRGBA_ans c).c
theorem rightMatrix_c (a b c d x y : Int) : cW f_q123 [.i a, .i b, .i c, .i d, .i x, .i y] [] = some ([.b (matB a b c d x y)], []) := (rightMatrix_ans a b c d x y).c
theorem qMatrix_c (a b c d x y : Int) : cW f_q144 [.i a, .i b, .i c, .i d, .i x, .i y] [] = some ([.b (matB a b c d x y)], []) := (qMatrix_ans a b c d x y).c

theorem i4_eq (a b : I4) : ((a.1 == b.1) && ((a.2.1 == b.2.1) && ((a.2.2.1 == b.2.2.1) && (a.2.2.2 == b.2.2.2)))) = decide (a = b) := by
  obtain ⟨a1, a2, a3, a4⟩ := a; obtain ⟨b1, b2, b3, b4⟩ := b
  rw [Bool.eq_iff_iff]; simp
theorem mat_eq (a b : Mat) : ((a.1 == b.1) && ((a.2.1 == b.2.1) && ((a.2.2.1 == b.2.2.1) && ((a.2.2.2.1 == b.2.2.2.1) && ((a.2.2.2.2.1 == b.2.2.2.2.1) && (a.2.2.2.2.2 == b.2.2.2.2.2)))))) = decide (a = b) := by
  obtain ⟨a1, a2, a3, a4, a5, a6⟩ := a; obtain ⟨b1, b2, b3, b4, b5, b6⟩ := b
  rw [Bool.eq_iff_iff]; simp
theorem stop_eq (a b : Stop) : ((a.ratio == b.ratio) && ((a.color.1 == b.color.1) && ((a.color.2.1 == b.color.2.1) && ((a.color.2.2.1 == b.color.2.2.1) && (a.color.2.2.2 == b.color.2.2.2))))) = decide (a = b) := by
  rw [i4_eq]; obtain ⟨a1, a2⟩ := a; obtain ⟨b1, b2⟩ := b
  rw [Bool.eq_iff_iff]; simp
theorem strk_eq (a b : Strk) : ((a.width == b.width) && ((a.color.1 == b.color.1) && ((a.color.2.1 == b.color.2.1) && ((a.color.2.2.1 == b.color.2.2.1) && (a.color.2.2.2 == b.color.2.2.2))))) = decide (a = b) := by
  rw [i4_eq]; obtain ⟨a1, a2⟩ := a; obtain ⟨b1, b2⟩ := b
  rw [Bool.eq_iff_iff]; simp
theorem fill_eq (a b : Fill) : ((a.kind == b.kind) && (decide (a.color = b.color) && (decide (a.mat = b.mat) && ((a.spread == b.spread) && ((a.id == b.id) && decide (a.stops = b.stops)))))) = decide (a = b) := by
  obtain ⟨a1, a2, a3, a4, a5, a6⟩ := a; obtain ⟨b1, b2, b3, b4, b5, b6⟩ := b
  rw [Bool.eq_iff_iff]; simp
  intros; exact and_comm

theorem list_eq_step {α : Type} [DecidableEq α] (pre : List α) (x y : α) (a b : List α) : decide (x :: a = y :: b) = (decide (x = y) && decide (a = b)) := by
  rw [Bool.eq_iff_iff]; simp

theorem eqStops_loop {l m : List Stop} (hl : l.length ≤ 2 ^ 40) : ∀ (r r' p p' : List Stop), l = p ++ r → m = p' ++ r' → p.length = p'.length → r.length = r'.length →
    rW f_q30 [] at_q15 (S_q15 (l.map Stop.e) (m.map Stop.e) l.length p.length) = some ([.b (decide (r = r'))], [])
  | [], [], p, p', h, h', hp, hr => by
    rw [w_q15]; simp only [el_end h, zcf]; rfl
  | x :: r, y :: r', p, p', h, h', hp, hr => by
    have hm : m.length ≤ 2 ^ 40 := by rw [h']; rw [h] at hl; simp at hl hr ⊢; omega
    obtain ⟨h1, h2, h3, h4, h5⟩ := el_step Stop.e h hl
    obtain ⟨_, k2, k3, _, k5⟩ := el_step Stop.e h' hm
    rw [← hp] at k2 k3
    rw [w_q15]
    simp only [h1, h2, h3, h4, k2, k3, Stop.e, zcf]
    rw [stop_eq, list_eq_step p]
    cases h : decide (x = y) with
    | false => simp only [zq17, zq5, zq11]
    | true =>
      rw [Bool.not_true, cond_false, Bool.true_and]
      exact eqStops_loop hl r r' _ _ h5 k5 (by simp [hp]) (by simpa using hr)
theorem eqStops_c {l m : List Stop} (hl : l.length ≤ 2 ^ 40) : cW f_q30 [.l (l.map Stop.e), .l (m.map Stop.e)] [] = some ([.b (decide (l = m))], []) := by
  rw [w_q30]
  simp only [zq7]
  by_cases h : l.length = m.length
  · rw [show (((l.length : Nat) : Int) != ((m.length : Nat) : Int)) = false by simp [h], cond_false]
    exact eqStops_loop hl l m [] [] rfl rfl rfl h
  · rw [show (((l.length : Nat) : Int) != ((m.length : Nat) : Int)) = true by simp [h]; omega, cond_true]
    rw [decide_eq_false (fun e => h (by rw [e]))]
theorem sameFill_c (a b : Fill) (hl : a.stops.length ≤ 2 ^ 40) : cW f_q184 (a.e ++ b.e) [] = some ([.b (decide (a = b))], []) := by
  simp only [Fill.e, List.cons_append, List.nil_append]
  rw [w_q184]
  simp only [eqStops_c hl, zcf]
  rw [i4_eq, mat_eq, fill_eq]

/-- the document's -/
theorem qSame_loop {l m : List Stop} (hl : l.length ≤ 2 ^ 40) (x2 x3 x4 x5 x6 x7 x8 x9 x10 x11 x12 x13 x15 x16 x17 x18 x19 x20 x21 x22 x23 x24 x25 x26 x27 x29 : Int) : ∀ (r r' p p' : List Stop), l = p ++ r → m = p' ++ r' → p.length = p'.length → r.length = r'.length →
    rW f_q142 [] at_q93 (S_q93 p.length x2 x3 x4 x5 x6 x7 x8 x9 x10 x11 x12 x13 (l.map Stop.e) x15 x16 x17 x18 x19 x20 x21 x22 x23 x24 x25 x26 x27 (m.map Stop.e) x29) = some ([.b (decide (r = r'))], [])
  | [], [], p, p', h, h', hp, hr => by
    rw [w_q93]; simp only [el_end h, zcf]; rfl
  | x :: r, y :: r', p, p', h, h', hp, hr => by
    have hm : m.length ≤ 2 ^ 40 := by rw [h']; rw [h] at hl; simp at hl hr ⊢; omega
    obtain ⟨h1, h2, h3, h4, h5⟩ := el_step Stop.e h hl
    obtain ⟨_, k2, k3, _, k5⟩ := el_step Stop.e h' hm
    rw [← hp] at k2 k3
    rw [w_q93]
    simp only [h1, h2, h3, h4, k2, k3, Stop.e, zcf]
    rw [stop_eq, list_eq_step p]
    cases h : decide (x = y) with
    | false => simp only [zq17, zq5, zq11]
    | true =>
      rw [Bool.not_true, cond_false, Bool.true_and]
      exact qSame_loop hl _ _ _ _ _ _ _ _ _ _ _ _ _ _ _ _ _ _ _ _ _ _ _ _ _ _ r r' _ _ h5 k5 (by simp [hp]) (by simpa using hr)
theorem bne_not {α : Type} [BEq α] (a b : α) : (a != b) = !(a == b) := rfl
theorem qSame_c (a b : Fill) (hl : a.stops.length ≤ 2 ^ 40) : cW f_q142 (a.e ++ b.e) [] = some ([.b (decide (a = b))], []) := by
  simp only [Fill.e, List.cons_append, List.nil_append]
  rw [w_q142]
  simp only [zcf]
  rw [i4_eq, mat_eq, ← fill_eq]
  simp only [bne_not]
  cases h1 : (a.kind == b.kind) with
  | false => rfl
  | true =>
    cases h2 : decide (a.color = b.color) with
    | false => rfl
    | true =>
      cases h3 : decide (a.mat = b.mat) with
      | false => rfl
      | true =>
        cases h4 : (a.spread == b.spread) with
        | false => rfl
        | true =>
          cases h5 : (a.id == b.id) with
          | false => rfl
          | true =>
            by_cases h6 : a.stops.length = b.stops.length
            · rw [show (((a.stops.length : Nat) : Int) == ((b.stops.length : Nat) : Int)) = true by simp [h6]]
              exact qSame_loop hl _ _ _ _ _ _ _ _ _ _ _ _ _ _ _ _ _ _ _ _ _ _ _ _ _ _ a.stops b.stops [] [] rfl rfl rfl h6
            · rw [show (((a.stops.length : Nat) : Int) == ((b.stops.length : Nat) : Int)) = false by simp [h6]; omega]
              rw [decide_eq_false (p := a.stops = b.stops) (fun e => h6 (by rw [e]))]; rfl
def mB (m : Mat) : Bool := matB m.1 m.2.1 m.2.2.1 m.2.2.2.1 m.2.2.2.2.1 m.2.2.2.2.2
def stopB (s : Stop) (last : Int) : Bool := decide (s.ratio ≥ last) && (decide (s.ratio ≤ 255) && rgbaB s.color)
def stopsB : Int → List Stop → Bool
  | _, [] => true
  | last, s :: r => stopB s last && stopsB s.ratio r
def gradB (f : Fill) : Bool := mB f.mat && (decide (f.spread ≥ 0) && (decide (f.spread ≤ 2) && (decide (((f.stops.length : Nat) : Int) ≥ 1) && decide (((f.stops.length : Nat) : Int) ≤ 8))))
def kindS (k : Int) : Bool := k == 0
def kindP (k : Int) : Bool := k == 64 || k == 65
def kindG (k : Int) : Bool := k == 16 || k == 18
def fillB (f : Fill) : Bool :=
  bif kindS f.kind then rgbaB f.color && decide (f = ⟨0, f.color, (0, 0, 0, 0, 0, 0), 0, [], 0⟩)
  else bif kindP f.kind then mB f.mat && (decide (f.id ≥ 0) && (decide (f.id < 65536) && decide (f = ⟨f.kind, (0, 0, 0, 0), f.mat, 0, [], f.id⟩)))
  else bif kindG f.kind && decide (f = ⟨f.kind, (0, 0, 0, 0), f.mat, f.spread, f.stops, 0⟩) then stopsB 0 f.stops && gradB f
  else false
theorem stop_c (s : Stop) (last : Int) : cW f_q214 (s.e ++ [.i last]) [] = some ([.b (stopB s last)], []) := by
  simp only [Stop.e, List.cons_append, List.nil_append]
  rw [w_q214]
  simp only [rightK_c, zcf]
  rfl
theorem picture_c (k : Int) : cW f_q189 [.i k] [] = some ([.b (kindP k)], []) := by
  rw [w_q189]; simp only [zcf]; rfl
theorem gradient_c (k : Int) : cW f_q202 [.i k] [] = some ([.b (kindG k)], []) := by
  rw [w_q202]; simp only [zcf]; rfl
theorem rightFill_loop (f : Fill) (hl : f.stops.length ≤ 2 ^ 40) : ∀ (rest pre : List Stop) (last : Int), f.stops = pre ++ rest →
    rW f_q167 [] at_q112 (S_q112 last (f.stops.map Stop.e) f.stops.length pre.length f.kind f.color.1 f.color.2.1 f.color.2.2.1 f.color.2.2.2 f.mat.1 f.mat.2.1 f.mat.2.2.1 f.mat.2.2.2.1 f.mat.2.2.2.2.1 f.mat.2.2.2.2.2 f.spread (f.stops.map Stop.e) f.id) = some ([.b (stopsB last rest && gradB f)], [])
  | [], pre, last, h => by
    rw [w_q112]
    simp only [el_end h, rightMatrix_c, zcf]
    rfl
  | x :: rest, pre, last, h => by
    obtain ⟨h1, h2, h3, h4, h5⟩ := el_step Stop.e h hl
    have hs := stop_c x last
    simp only [Stop.e, List.cons_append, List.nil_append] at hs
    rw [w_q112]
    simp only [h1, h2, h3, h4, Stop.e, hs, zcf]
    unfold stopsB
    cases h : stopB x last with
    | false => simp only [zq17, zq5, zq11]
    | true =>
      rw [Bool.not_true, cond_false, Bool.true_and]
      exact rightFill_loop f hl rest _ _ h5
theorem rightFill_c (f : Fill) (hl : f.stops.length ≤ 2 ^ 40) : cW f_q167 f.e [] = some ([.b (fillB f)], []) := by
  have e1 := sameFill_c f ⟨0, f.color, (0, 0, 0, 0, 0, 0), 0, [], 0⟩ hl
  have e2 := sameFill_c f ⟨f.kind, (0, 0, 0, 0), f.mat, 0, [], f.id⟩ hl
  have e3 := sameFill_c f ⟨f.kind, (0, 0, 0, 0), f.mat, f.spread, f.stops, 0⟩ hl
  have el := rightFill_loop f hl f.stops [] 0 rfl
  simp only [Fill.e, List.cons_append, List.nil_append, List.map_nil] at e1 e2 e3 ⊢
  rw [w_q167]
  simp only [rightK_c, rightMatrix_c, picture_c, gradient_c, e1, e2, e3, zcf]
  unfold fillB
  show (bif kindS f.kind then _ else _) = _
  cases kindS f.kind with
  | true => rfl
  | false =>
    cases kindP f.kind with
    | true => rfl
    | false =>
      simp only [zq6]
      cases kindG f.kind with
      | false => rfl
      | true =>
        cases h : decide (f = ⟨f.kind, (0, 0, 0, 0), f.mat, f.spread, f.stops, 0⟩) with
        | false => rfl
        | true => exact el
theorem qFill_loop (f : Fill) (hl : f.stops.length ≤ 2 ^ 40) : ∀ (rest pre : List Stop) (last : Int), f.stops = pre ++ rest → 0 ≤ last → (pre = [] → last = 0) → (∀ p x, pre = p ++ [x] → last = x.ratio) →
    rW f_q120 [] at_q57 (S_q57 pre.length f.kind f.color.1 f.color.2.1 f.color.2.2.1 f.color.2.2.2 f.mat.1 f.mat.2.1 f.mat.2.2.1 f.mat.2.2.2.1 f.mat.2.2.2.2.1 f.mat.2.2.2.2.2 f.spread (f.stops.map Stop.e) f.id) = some ([.b (stopsB last rest && (decide (f.color = (0, 0, 0, 0)) && ((f.id == 0) && gradB f)))], [])
  | [], pre, last, h, h0, hn, hp => by
    rw [w_q57]
    simp only [el_end h, qMatrix_c, zcf]
    rw [i4_eq f.color (0, 0, 0, 0)]
    unfold stopsB gradB mB
    rw [show decide (((f.stops.length : Nat) : Int) > 0) = decide (((f.stops.length : Nat) : Int) ≥ 1) by simp; omega, show decide (((f.stops.length : Nat) : Int) < 9) = decide (((f.stops.length : Nat) : Int) ≤ 8) by simp; omega,
      show decide (f.spread < 3) = decide (f.spread ≤ 2) by simp; omega]
    congr 4
    cases decide (f.color = (0, 0, 0, 0)) <;> cases (f.id == 0) <;> cases decide (f.spread ≥ 0) <;> cases decide (f.spread ≤ 2) <;> cases decide (((f.stops.length : Nat) : Int) ≥ 1) <;> cases decide (((f.stops.length : Nat) : Int) ≤ 8) <;> cases matB f.mat.1 f.mat.2.1 f.mat.2.2.1 f.mat.2.2.2.1 f.mat.2.2.2.2.1 f.mat.2.2.2.2.2 <;> rfl
  | x :: rest, pre, last, h, h0, hn, hp => by
    obtain ⟨h1, h2, h3, h4, h5⟩ := el_step Stop.e h hl
    have key : ∀ r : Option (List PV), (r = some [PV.b (!stopB x last)]) → (r.bind fun r9 => (bif ((r9.getD 0 PV.u)).toB then some ([(PV.b false)], []) else rW f_q120 [] at_q57 (S_q57 (pre ++ [x]).length f.kind f.color.1 f.color.2.1 f.color.2.2.1 f.color.2.2.2 f.mat.1 f.mat.2.1 f.mat.2.2.1 f.mat.2.2.2.1 f.mat.2.2.2.2.1 f.mat.2.2.2.2.2 f.spread (f.stops.map Stop.e) f.id))) = some ([.b (stopsB last (x :: rest) && (decide (f.color = (0, 0, 0, 0)) && ((f.id == 0) && gradB f)))], []) := by
      rintro r rfl
      unfold stopsB
      rw [Option.bind_some]
      cases hs : stopB x last with
      | false => rfl
      | true =>
        have h0' : 0 ≤ x.ratio := by
          unfold stopB at hs
          simp only [Bool.and_eq_true, decide_eq_true_eq] at hs
          omega
        rw [Bool.true_and]
        exact qFill_loop f hl rest _ _ h5 h0' (fun e => by simp at e) (fun p y e => by have := List.append_inj_right' e rfl; simp at this; rw [this])
    rw [w_q57]
    simp only [h1, h2, h3, h4, Stop.e, qRGBA_c, zcf]
    refine key _ ?_
    unfold stopB
    rcases List.eq_nil_or_concat pre with rfl | ⟨p, y, rfl⟩
    · obtain rfl := hn rfl
      rw [show decide (((([] : List Stop).length : Nat) : Int) > 0) = false by simp]
      simp only [zq6]
      by_cases a1 : x.ratio < 0
      · rw [decide_eq_true a1, decide_eq_false (p := x.ratio ≥ 0) (by omega)]; rfl
      · rw [decide_eq_false a1, decide_eq_true (p := x.ratio ≥ 0) (by omega)]
        by_cases a2 : x.ratio > 255
        · rw [decide_eq_true a2, decide_eq_false (p := x.ratio ≤ 255) (by omega)]; rfl
        · rw [decide_eq_false a2, decide_eq_true (p := x.ratio ≤ 255) (by omega)]; rfl
    · obtain rfl := hp p y (by simp)
      rw [List.concat_eq_append] at *
      have hw : IntKind.wrap .i64 ((((p ++ [y]).length : Nat) : Int) - 1) = ((p.length : Nat) : Int) := by
        rw [h] at hl
        simp only [List.length_append, List.length_cons, List.length_nil] at hl ⊢
        have : (2 : Nat) ^ 40 = 1099511627776 := rfl
        rw [wrap64 (by omega) (by omega)]; omega
      have h' : f.stops = p ++ y :: (x :: rest) := by rw [h]; simp
      obtain ⟨_, k2, k3, _, _⟩ := el_step Stop.e h' hl
      rw [hw, k2, k3, show decide ((((p ++ [y]).length : Nat) : Int) > 0) = true by simp]
      simp only [zq5, Stop.e, zcf]
      by_cases a1 : x.ratio < 0
      · rw [decide_eq_true a1, decide_eq_false (p := x.ratio ≥ y.ratio) (by omega)]; rfl
      · rw [decide_eq_false a1]
        by_cases a2 : x.ratio > 255
        · rw [decide_eq_true a2, decide_eq_false (p := x.ratio ≤ 255) (by omega)]
          cases decide (x.ratio ≥ y.ratio) <;> rfl
        · rw [decide_eq_false a2, decide_eq_true (p := x.ratio ≤ 255) (by omega)]
          by_cases a3 : x.ratio < y.ratio
          · rw [decide_eq_true a3, decide_eq_false (p := x.ratio ≥ y.ratio) (by omega)]; rfl
          · rw [decide_eq_false a3, decide_eq_true (p := x.ratio ≥ y.ratio) (by omega)]; rfl
theorem dec_fill {f : Fill} {k : Int} {c : I4} {m : Mat} {sp : Int} {st : List Stop} {i : Int} : decide (f = ⟨k, c, m, sp, st, i⟩) = ((f.kind == k) && (decide (f.color = c) && (decide (f.mat = m) && ((f.spread == sp) && ((f.id == i) && decide (f.stops = st)))))) := (fill_eq f ⟨k, c, m, sp, st, i⟩).symm
theorem no_stops (f : Fill) : (((f.stops.length : Nat) : Int) == 0) = decide (f.stops = []) := by
  cases f.stops with
  | nil => rfl
  | cons a l => simp; omega
theorem qFill_c (f : Fill) (hl : f.stops.length ≤ 2 ^ 40) : cW f_q120 f.e [] = some ([.b (fillB f)], []) := by
  have el := qFill_loop f hl f.stops [] 0 rfl (by omega) (fun _ => rfl) (fun p x e => by simp at e)
  simp only [Fill.e, List.cons_append, List.nil_append, List.map_nil] at ⊢
  rw [w_q120]
  simp only [qRGBA_c, qMatrix_c, zcf]
  rw [mat_eq f.mat (0, 0, 0, 0, 0, 0), i4_eq f.color (0, 0, 0, 0), no_stops]
  unfold fillB
  rw [dec_fill, dec_fill, dec_fill, beq_self_eq_true, decide_eq_true (p := f.color = f.color) rfl, decide_eq_true (p := f.mat = f.mat) rfl, beq_self_eq_true, beq_self_eq_true, decide_eq_true (p := f.stops = f.stops) rfl]
  unfold kindS kindP kindG
  by_cases k0 : f.kind = 0
  · rw [k0]
    simp only [show ((0 : Int) == 0) = true from rfl, zq5, zq9]
    cases rgbaB f.color <;> cases decide (f.mat = (0, 0, 0, 0, 0, 0)) <;> cases (f.spread == 0) <;> cases (f.id == 0) <;> cases decide (f.stops = []) <;> rfl
  rw [show (f.kind == 0) = false by simpa using k0]
  simp only [zq6, zq9, zq8]
  by_cases k1 : f.kind = 64
  · rw [k1]
    simp only [show ((64 : Int) == 64) = true from rfl, zq5, zq13]
    show some ([PV.b (_ && (_ && (_ && (_ && (_ && mB f.mat)))))], []) = _
    cases decide (f.color = (0, 0, 0, 0)) <;> cases (f.spread == 0) <;> cases decide (f.id ≥ 0) <;> cases decide (f.id < 65536) <;> cases decide (f.stops = []) <;> cases mB f.mat <;> rfl
  rw [show (f.kind == 64) = false by simpa using k1]
  by_cases k2 : f.kind = 65
  · rw [k2]
    simp only [show ((65 : Int) == 65) = true from rfl, zq5, zq6, zq15]
    show some ([PV.b (_ && (_ && (_ && (_ && (_ && mB f.mat)))))], []) = _
    cases decide (f.color = (0, 0, 0, 0)) <;> cases (f.spread == 0) <;> cases decide (f.id ≥ 0) <;> cases decide (f.id < 65536) <;> cases decide (f.stops = []) <;> cases mB f.mat <;> rfl
  rw [show (f.kind == 65) = false by simpa using k2]
  simp only [zq6, zq15]
  have fin : ∀ c d e : Bool, (c && (d && (e && gradB f))) = (bif (d && e) then c && gradB f else false) := by intro c d e; cases c <;> cases d <;> cases e <;> rfl
  by_cases k3 : f.kind = 16
  · rw [k3] at el ⊢
    simp only [show ((16 : Int) == 16) = true from rfl, zq5, zq13, zq9]
    rw [← fin]; exact el
  rw [show (f.kind == 16) = false by simpa using k3]
  by_cases k4 : f.kind = 18
  · rw [k4] at el ⊢
    simp only [show ((18 : Int) == 18) = true from rfl, zq5, zq6, zq15, zq9]
    rw [← fin]; exact el
  rw [show (f.kind == 18) = false by simpa using k4]
  rfl
def strkB (s : Strk) : Bool := decide (s.width ≥ 0) && (decide (s.width < 65536) && rgbaB s.color)
theorem rightStroke_c (s : Strk) : cW f_q199 s.e [] = some ([.b (strkB s)], []) := by
  unfold Strk.e
  rw [w_q199]
  simp only [rightK_c, zcf]; rfl
theorem qStroke_c (s : Strk) : cW f_q188 s.e [] = some ([.b (strkB s)], []) := by
  unfold Strk.e
  rw [w_q188]
  simp only [qRGBA_c, zcf]; rfl
end Go.AI
set_option linter.unusedVariables false
set_option linter.unusedSimpArgs false
set_option maxRecDepth 100000
namespace Go.AI
open Go Go.Proofs

theorem PWL.split {P : Program} {us : List LTy} : ∀ {ts : List LTy} {ps : List PV}, PWL P (ts ++ us) ps → ∃ a b, ps = a ++ b ∧ PWL P ts a ∧ PWL P us b
  | [], ps, h => ⟨[], ps, rfl, ⟨rfl, fun j hj => by simp at hj⟩, h⟩
  | t :: ts, ps, h => by
    obtain ⟨p, q, rfl, hp, hq⟩ := h.cons
    obtain ⟨a, b, rfl, ha, hb⟩ := PWL.split (ts := ts) hq
    refine ⟨p :: a, b, rfl, ?_, hb⟩
    refine ⟨by simp [ha.1], fun j hj => ?_⟩
    cases j with
    | zero => exact hp
    | succ j => simpa using ha.2 j (by simpa using hj)
theorem rows_of {α : Type} {P : Program} (e : α → List PV) (wf : α → Prop) {ts : List LTy} (h : ∀ x, PWL P ts x → ∃ a, x = e a ∧ wf a) : ∀ es : List (List PV), (∀ x, x ∈ es → PWL P ts x) → ∃ l : List α, es = l.map e ∧ ∀ a, a ∈ l → wf a
  | [], _ => ⟨[], rfl, fun a ha => by cases ha⟩
  | x :: es, hx => by
    obtain ⟨a, rfl, ha⟩ := h x (hx x (by simp))
    obtain ⟨l, rfl, hl⟩ := rows_of e wf h es (fun y hy => hx y (by simp [hy]))
    exact ⟨a :: l, rfl, fun b hb => by rcases List.mem_cons.1 hb with rfl | hb; exact ha; exact hl b hb⟩
def I4.wf (c : I4) : Prop := I64 c.1 ∧ (I64 c.2.1 ∧ (I64 c.2.2.1 ∧ I64 c.2.2.2))
def Mat.wf (m : Mat) : Prop := I64 m.1 ∧ (I64 m.2.1 ∧ (I64 m.2.2.1 ∧ (I64 m.2.2.2.1 ∧ (I64 m.2.2.2.2.1 ∧ I64 m.2.2.2.2.2))))
abbrev L4 : List LTy := [.int .i64, .int .i64, .int .i64, .int .i64]
theorem i4_of {P : Program} {x : List PV} (h : PWL P L4 x) : ∃ c : I4, x = [.i c.1, .i c.2.1, .i c.2.2.1, .i c.2.2.2] ∧ c.wf := by
  obtain ⟨p1, q1, rfl, h1, r1⟩ := h.cons
  obtain ⟨p2, q2, rfl, h2, r2⟩ := r1.cons
  obtain ⟨p3, q3, rfl, h3, r3⟩ := r2.cons
  obtain ⟨p4, q4, rfl, h4, r4⟩ := r3.cons
  obtain rfl := r4.nil
  obtain ⟨x1, rfl, w1⟩ := h1.i64_of
  obtain ⟨x2, rfl, w2⟩ := h2.i64_of
  obtain ⟨x3, rfl, w3⟩ := h3.i64_of
  obtain ⟨x4, rfl, w4⟩ := h4.i64_of
  exact ⟨(x1, x2, x3, x4), rfl, w1, w2, w3, w4⟩
theorem int_cons {P : Program} {ts : List LTy} {x : List PV} (h : PWL P (.int .i64 :: ts) x) : ∃ (n : Int) (q : List PV), x = .i n :: q ∧ I64 n ∧ PWL P ts q := by
  obtain ⟨p1, q1, rfl, h1, r1⟩ := h.cons
  obtain ⟨x1, rfl, w1⟩ := h1.i64_of
  exact ⟨x1, q1, rfl, w1, r1⟩
theorem sl_cons {α : Type} {P : Program} {t : TypeId} {us : List LTy} {e : α → List PV} {wf : α → Prop} (hl : leaves P t = some us) (he : ∀ x, PWL P us x → ∃ a, x = e a ∧ wf a) {ts : List LTy} {x : List PV} (h : PWL P (.sl t :: ts) x) :
    ∃ (l : List α) (q : List PV), x = .l (l.map e) :: q ∧ l.length ≤ maxLen ∧ (∀ a, a ∈ l → wf a) ∧ PWL P ts q := by
  obtain ⟨p1, q1, rfl, h1, r1⟩ := h.cons
  obtain ⟨es, ts, rfl, hl', hn, hx⟩ := h1.sl_of
  rw [hl] at hl'
  cases hl'
  obtain ⟨l, rfl, hw⟩ := rows_of e wf he es hx
  exact ⟨l, q1, rfl, by simpa using hn, hw, r1⟩
def Stop.wf (s : Stop) : Prop := I64 s.ratio ∧ s.color.wf
theorem stop_of {P : Program} (x : List PV) (h : PWL P (.int .i64 :: L4) x) : ∃ s : Stop, x = s.e ∧ s.wf := by
  obtain ⟨n, q, rfl, hn, r⟩ := int_cons h
  obtain ⟨c, rfl, hc⟩ := i4_of r
  exact ⟨⟨n, c⟩, rfl, hn, hc⟩
def Strk.wf (s : Strk) : Prop := I64 s.width ∧ s.color.wf
theorem strk_of {P : Program} (x : List PV) (h : PWL P (.int .i64 :: L4) x) : ∃ s : Strk, x = s.e ∧ s.wf := by
  obtain ⟨n, q, rfl, hn, r⟩ := int_cons h
  obtain ⟨c, rfl, hc⟩ := i4_of r
  exact ⟨⟨n, c⟩, rfl, hn, hc⟩
def Fill.wf (f : Fill) : Prop := I64 f.kind ∧ (f.color.wf ∧ (Mat.wf f.mat ∧ (I64 f.spread ∧ (f.stops.length ≤ maxLen ∧ ((∀ s, s ∈ f.stops → s.wf) ∧ I64 f.id)))))
abbrev LFill (t : TypeId) : List LTy := [.int .i64, .int .i64, .int .i64, .int .i64, .int .i64, .int .i64, .int .i64, .int .i64, .int .i64, .int .i64, .int .i64, .int .i64, .sl t, .int .i64]
theorem fill_of {P : Program} {t : TypeId} (ht : leaves P t = some (.int .i64 :: L4)) (x : List PV) (h : PWL P (LFill t) x) : ∃ f : Fill, x = f.e ∧ f.wf := by
  obtain ⟨x0, q, rfl, w0, h⟩ := int_cons h
  obtain ⟨x1, q, rfl, w1, h⟩ := int_cons h
  obtain ⟨x2, q, rfl, w2, h⟩ := int_cons h
  obtain ⟨x3, q, rfl, w3, h⟩ := int_cons h
  obtain ⟨x4, q, rfl, w4, h⟩ := int_cons h
  obtain ⟨x5, q, rfl, w5, h⟩ := int_cons h
  obtain ⟨x6, q, rfl, w6, h⟩ := int_cons h
  obtain ⟨x7, q, rfl, w7, h⟩ := int_cons h
  obtain ⟨x8, q, rfl, w8, h⟩ := int_cons h
  obtain ⟨x9, q, rfl, w9, h⟩ := int_cons h
  obtain ⟨x10, q, rfl, w10, h⟩ := int_cons h
  obtain ⟨x11, q, rfl, w11, h⟩ := int_cons h
  obtain ⟨l, q, rfl, hl, hw, h⟩ := sl_cons (e := Stop.e) ht stop_of h
  obtain ⟨x12, q, rfl, w12, h⟩ := int_cons h
  obtain rfl := h.nil
  exact ⟨⟨x0, (x1, x2, x3, x4), (x5, x6, x7, x8, x9, x10), x11, l, x12⟩, rfl, w0, ⟨w1, w2, w3, w4⟩, ⟨w5, w6, w7, w8, w9, w10⟩, w11, hl, hw, w12⟩
end Go.AI
set_option linter.unusedVariables false
set_option linter.unusedSimpArgs false
set_option maxRecDepth 100000
namespace Go.AI
open Go Go.Proofs

theorem right1_c (f : Fill) (hl : f.stops.length ≤ 2 ^ 40) : cW f_q173 f.e [] = some ([.b (!fillB f)], []) := by
  have h := rightFill_c f hl
  unfold Fill.e at h ⊢
  rw [w_q173]
  simp only [h, zcf]
theorem right2_c (s : Strk) : cW f_q174 s.e [] = some ([.b (!strkB s)], []) := by
  have h := rightStroke_c s
  unfold Strk.e at h ⊢
  rw [w_q174]
  simp only [h, zcf]
def Shorts (l : List Fill) : Prop := ∀ f, f ∈ l → f.stops.length ≤ 2 ^ 40
theorem idxFill_loop {l : List Fill} (hl : l.length ≤ 2 ^ 40) (hs : Shorts l) : ∀ (rest pre : List Fill), l = pre ++ rest → ∃ n : Int,
    rW f_q33 [] at_q13 (S_q13 (l.map Fill.e) l.length pre.length) = some ([.i n], []) ∧ decide (n ≥ 0) = !rest.all fillB
  | [], pre, h => by
    refine ⟨-1, ?_, rfl⟩
    rw [w_q13]; simp only [el_end h, zcf]
  | x :: rest, pre, h => by
    obtain ⟨h1, h2, h3, h4, h5⟩ := el_step Fill.e h hl
    have hx := right1_c x (hs x (by rw [h]; simp))
    rw [w_q13]
    unfold Fill.e at hx
    simp only [h1, h2, h3, h4, Fill.e, hx, List.all_cons, zcf]
    cases hf : fillB x with
    | false => exact ⟨_, rfl, by simp⟩
    | true => simpa [hf] using idxFill_loop hl hs rest _ h5
theorem anyFill_c {l : List Fill} (hl : l.length ≤ 2 ^ 40) (hs : Shorts l) : cW f_q69 [.l (l.map Fill.e), .f f_q173 0] [] = some ([.b (!l.all fillB)], []) := by
  obtain ⟨n, h1, h2⟩ := idxFill_loop hl hs l [] rfl
  rw [w_q69, w_q33]
  simp only [zq7]
  rw [show (0 : Int) = ((([] : List Fill).length : Nat) : Int) from rfl, h1]
  simp only [zcf]
  rw [← h2]; rfl
theorem idxStrk_loop {l : List Strk} (hl : l.length ≤ 2 ^ 40) : ∀ (rest pre : List Strk), l = pre ++ rest → ∃ n : Int,
    rW f_q27 [] at_q10 (S_q10 (l.map Strk.e) l.length pre.length) = some ([.i n], []) ∧ decide (n ≥ 0) = !rest.all strkB
  | [], pre, h => by
    refine ⟨-1, ?_, rfl⟩
    rw [w_q10]; simp only [el_end h, zcf]
  | x :: rest, pre, h => by
    obtain ⟨h1, h2, h3, h4, h5⟩ := el_step Strk.e h hl
    have hx := right2_c x
    rw [w_q10]
    unfold Strk.e at hx
    simp only [h1, h2, h3, h4, Strk.e, hx, List.all_cons, zcf]
    cases hf : strkB x with
    | false => exact ⟨_, rfl, by simp⟩
    | true => simpa [hf] using idxStrk_loop hl rest _ h5
theorem anyStrk_c {l : List Strk} (hl : l.length ≤ 2 ^ 40) : cW f_q60 [.l (l.map Strk.e), .f f_q174 0] [] = some ([.b (!l.all strkB)], []) := by
  obtain ⟨n, h1, h2⟩ := idxStrk_loop hl l [] rfl
  rw [w_q60, w_q27]
  simp only [zq7]
  rw [show (0 : Int) = ((([] : List Strk).length : Nat) : Int) from rfl, h1]
  simp only [zcf]
  rw [← h2]; rfl
def listsB (l : List Fill) (m : List Strk) : Bool := decide (((l.length : Nat) : Int) ≤ 15) && (decide (((m.length : Nat) : Int) ≤ 15) && (l.all fillB && m.all strkB))
theorem right_c {l : List Fill} {m : List Strk} (hl : l.length ≤ 2 ^ 40) (hm : m.length ≤ 2 ^ 40) (hs : Shorts l) : cW f_q198 [.l (l.map Fill.e), .l (m.map Strk.e)] [] = some ([.b (listsB l m)], []) := by
  rw [w_q198]
  simp only [anyFill_c hl hs, anyStrk_c hm, Bool.not_not, zcf]
  rfl
theorem qRight_loop2 {l : List Fill} {m : List Strk} (hm : m.length ≤ 2 ^ 40) : ∀ (rest pre : List Strk), m = pre ++ rest →
    rW f_q74 [] at_q85 (S_q85 (l.map Fill.e) (m.map Strk.e) pre.length) = some ([.b (decide (((l.length : Nat) : Int) ≤ 15) && (decide (((m.length : Nat) : Int) ≤ 15) && rest.all strkB))], [])
  | [], pre, h => by
    rw [w_q85]
    simp only [el_end h, zcf]
    rw [show decide (((l.length : Nat) : Int) < 16) = decide (((l.length : Nat) : Int) ≤ 15) by simp; omega, show decide (((m.length : Nat) : Int) < 16) = decide (((m.length : Nat) : Int) ≤ 15) by simp; omega]
    simp
  | x :: rest, pre, h => by
    obtain ⟨h1, h2, h3, h4, h5⟩ := el_step Strk.e h hm
    have hx := qStroke_c x
    rw [w_q85]
    unfold Strk.e at hx
    simp only [h1, h2, h3, h4, Strk.e, hx, List.all_cons, zcf]
    cases hf : strkB x with
    | false => simp
    | true => simpa [hf] using qRight_loop2 (l := l) hm rest _ h5
theorem qRight_loop {l : List Fill} {m : List Strk} (hl : l.length ≤ 2 ^ 40) (hm : m.length ≤ 2 ^ 40) (hs : Shorts l) : ∀ (rest pre : List Fill), l = pre ++ rest →
    rW f_q74 [] at_q84 (S_q84 (l.map Fill.e) (m.map Strk.e) pre.length) = some ([.b (decide (((l.length : Nat) : Int) ≤ 15) && (decide (((m.length : Nat) : Int) ≤ 15) && (rest.all fillB && m.all strkB)))], [])
  | [], pre, h => by
    rw [w_q84]; simp only [el_end h, zcf]
    exact qRight_loop2 (l := l) hm m [] rfl
  | x :: rest, pre, h => by
    obtain ⟨h1, h2, h3, h4, h5⟩ := el_step Fill.e h hl
    have hx := qFill_c x (hs x (by rw [h]; simp))
    rw [w_q84]
    unfold Fill.e at hx
    simp only [h1, h2, h3, h4, Fill.e, hx, List.all_cons, zcf]
    cases hf : fillB x with
    | false => simp
    | true => simpa [hf] using qRight_loop hl hm hs rest _ h5
theorem qRight_c {l : List Fill} {m : List Strk} (hl : l.length ≤ 2 ^ 40) (hm : m.length ≤ 2 ^ 40) (hs : Shorts l) : cW f_q74 [.l (l.map Fill.e), .l (m.map Strk.e)] [] = some ([.b (listsB l m)], []) := by
  rw [w_q74]
  exact qRight_loop hl hm hs l [] rfl

/-! ### lists are equal -/
theorem qStrks_loop {l m : List Strk} (hl : l.length ≤ 2 ^ 40) : ∀ (r r' p p' : List Strk), l = p ++ r → m = p' ++ r' → p.length = p'.length → r.length = r'.length →
    rW f_q55 [] at_q65 (S_q65 (l.map Strk.e) (m.map Strk.e) p.length) = some ([.b (decide (r = r'))], [])
  | [], [], p, p', h, h', hp, hr => by
    rw [w_q65]; simp only [el_end h, zcf]; rfl
  | [], y :: r', p, p', h, h', hp, hr => by simp at hr
  | x :: r, [], p, p', h, h', hp, hr => by simp at hr
  | x :: r, y :: r', p, p', h, h', hp, hr => by
    have hm : m.length ≤ 2 ^ 40 := by rw [h']; rw [h] at hl; simp at hl hr ⊢; omega
    obtain ⟨h1, h2, h3, h4, h5⟩ := el_step Strk.e h hl
    obtain ⟨_, k2, k3, _, k5⟩ := el_step Strk.e h' hm
    rw [← hp] at k2 k3
    rw [w_q65]
    simp only [h1, h2, h3, h4, k2, k3, Strk.e, zcf]
    rw [strk_eq, list_eq_step p]
    cases h : decide (x = y) with
    | false => simp only [zq17, zq5, zq11]
    | true =>
      rw [Bool.not_true, cond_false, Bool.true_and]
      exact qStrks_loop hl r r' _ _ h5 k5 (by simp [hp]) (by simpa using hr)
theorem list_eq_step' {α : Type} [DecidableEq α] (x y : α) (a b : List α) : decide (x :: a = y :: b) = (decide (x = y) && decide (a = b)) := list_eq_step ([] : List α) x y a b
theorem qFills_loop {l m : List Fill} (hl : l.length ≤ 2 ^ 40) (hs : Shorts l) {s t : List Strk} (hst : s.length = t.length) (hs2 : s.length ≤ 2 ^ 40) : ∀ (r r' p p' : List Fill), l = p ++ r → m = p' ++ r' → p.length = p'.length → r.length = r'.length →
    rW f_q55 [] at_q64 (S_q64 (l.map Fill.e) (m.map Fill.e) (s.map Strk.e) (t.map Strk.e) p.length) = some ([.b (decide (r = r') && decide (s = t))], [])
  | [], [], p, p', h, h', hp, hr => by
    rw [w_q64]; simp only [el_end h, zcf]
    exact qStrks_loop hs2 s t [] [] rfl rfl rfl hst
  | [], y :: r', p, p', h, h', hp, hr => by simp at hr
  | x :: r, [], p, p', h, h', hp, hr => by simp at hr
  | x :: r, y :: r', p, p', h, h', hp, hr => by
    have hm : m.length ≤ 2 ^ 40 := by rw [h']; rw [h] at hl; simp at hl hr ⊢; omega
    obtain ⟨h1, h2, h3, h4, h5⟩ := el_step Fill.e h hl
    obtain ⟨_, k2, k3, _, k5⟩ := el_step Fill.e h' hm
    rw [← hp] at k2 k3
    have hx := qSame_c x y (hs x (by rw [h]; simp))
    rw [w_q64]
    simp only [Fill.e, List.cons_append, List.nil_append] at hx
    simp only [h1, h2, h3, h4, k2, k3, Fill.e, hx, zcf]
    rw [list_eq_step']
    cases h : decide (x = y) with
    | false => simp only [zq17, zq5, zq11]
    | true =>
      rw [Bool.not_true, cond_false, Bool.true_and]
      exact qFills_loop hl hs hst hs2 r r' _ _ h5 k5 (by simp [hp]) (by simpa using hr)
theorem sameLists_c {l m : List Fill} (hl : l.length ≤ 2 ^ 40) (hs : Shorts l) {s t : List Strk} (hs2 : s.length ≤ 2 ^ 40) : cW f_q55 [.l (l.map Fill.e), .l (m.map Fill.e), .l (s.map Strk.e), .l (t.map Strk.e)] [] = some ([.b (decide (l = m) && decide (s = t))], []) := by
  rw [w_q55]
  simp only [zcf]
  by_cases h1 : l.length = m.length
  · by_cases h2 : s.length = t.length
    · rw [show ((((l.length : Nat) : Int) != ((m.length : Nat) : Int)) || (((s.length : Nat) : Int) != ((t.length : Nat) : Int))) = false by simp [h1, h2], cond_false]
      exact qFills_loop hl hs h2 hs2 l m [] [] rfl rfl rfl h1
    · rw [show ((((l.length : Nat) : Int) != ((m.length : Nat) : Int)) || (((s.length : Nat) : Int) != ((t.length : Nat) : Int))) = true by simp [h1]; omega, cond_true, decide_eq_false (p := s = t) (fun e => h2 (by rw [e])), Bool.and_false]
  · rw [show ((((l.length : Nat) : Int) != ((m.length : Nat) : Int)) || (((s.length : Nat) : Int) != ((t.length : Nat) : Int))) = true by simp; omega, cond_true, decide_eq_false (p := l = m) (fun e => h1 (by rw [e])), Bool.false_and]
theorem small_loop {l : List Fill} {m : List Strk} (hl : l.length ≤ 9223372036854775807) : ∀ (rest pre : List Fill), l = pre ++ rest →
    rW f_q113 [] at_q83 (S_q83 (l.map Fill.e) (m.map Strk.e) pre.length) = some ([.b (rest.all (fun f => decide (f.stops.length ≤ 20)) && (decide (l.length < 30) && decide (m.length < 30)))], [])
  | [], pre, h => by
    rw [w_q83]
    simp only [el_end h, zcf]
    rw [show decide (((l.length : Nat) : Int) < 30) = decide (l.length < 30) by simp; omega, show decide (((m.length : Nat) : Int) < 30) = decide (m.length < 30) by simp; omega]
    rfl
  | x :: rest, pre, h => by
    obtain ⟨h1, h2, h3, h4, h5⟩ := el_stepM Fill.e h hl
    rw [w_q83]
    simp only [h1, h2, h3, h4, Fill.e, List.all_cons, zcf]
    by_cases hx : x.stops.length ≤ 20
    · rw [decide_eq_false (p := ((x.stops.length : Nat) : Int) > 20) (by omega), decide_eq_true hx, cond_false, Bool.true_and]
      exact small_loop hl rest _ h5
    · rw [decide_eq_true (p := ((x.stops.length : Nat) : Int) > 20) (by omega), decide_eq_false hx, cond_true, Bool.false_and, Bool.false_and]
def smallB (l : List Fill) (m : List Strk) : Bool := l.all (fun f => decide (f.stops.length ≤ 20)) && (decide (l.length < 30) && decide (m.length < 30))
theorem small_c {l : List Fill} {m : List Strk} (hl : l.length ≤ 9223372036854775807) : cW f_q113 [.l (l.map Fill.e), .l (m.map Strk.e)] [] = some ([.b (smallB l m)], []) := by
  rw [w_q113]
  exact small_loop hl l [] rfl
theorem smallB_r {l : List Fill} {m : List Strk} (h : smallB l m = true) : (∀ f, f ∈ l → f.stops.length ≤ 20) ∧ l.length < 30 ∧ m.length < 30 := by
  unfold smallB at h
  simpa using h
end Go.AI
set_option linter.unusedVariables false
set_option linter.unusedSimpArgs false
set_option maxRecDepth 100000
namespace Go.AI
open Go Go.Proofs

def oneS (n : Int) : List UInt8 := [UInt8.ofNat (n % 256).toNat]
def twoS (n : Int) : List UInt8 := [UInt8.ofNat (Int.tmod n 256 % 256).toNat, UInt8.ofNat (IntKind.wrap .i64 (Int.tdiv n 256) % 256).toNat]
theorem toBytes_oneS (n : Int) : toBytes (List.set [[PV.i 0]] 0 [PV.i (IntKind.wrap .u8 n)]) = oneS n := by
  rw [wrapU8]; rfl
theorem one_c (n : Int) : cW f_q118 [.i n] [] = some ([.s (oneS n)], []) := by
  rw [w_q118, toBytes_oneS]
theorem two_c (n : Int) : cW f_q176 [.i n] [] = some ([.s (twoS n)], []) := by
  rw [w_q176, wrapU8, wrapU8]; rfl
theorem byteOf_c {s : List UInt8} (hs : s.length ≤ 500000000) (f n : Int) : cW f_q187 [.s s, .i f, .i n] [] = some ([.s (s ++ oneS n), .i 0], []) := by
  rw [w_q187, toBytes_oneS, (putBytes_ans (t := oneS n) (by show _ + 1 ≤ _; omega) f).c]
  rfl
theorem littleB_two {n : Int} (h0 : 0 ≤ n) (h1 : n < 65536) : littleB n.toNat 2 = twoS n := by
  obtain ⟨k, rfl⟩ := Int.eq_ofNat_of_zero_le h0
  have e1 : (k : Int).tmod 256 = ((k % 256 : Nat) : Int) := rfl
  have e2 : (k : Int).tdiv 256 = ((k / 256 : Nat) : Int) := rfl
  unfold twoS
  rw [e1, e2, wrap64 (by omega) (by omega)]
  show [UInt8.ofNat (k / 256 ^ 0 % 256), UInt8.ofNat (k / 256 ^ 1 % 256)] = _
  have a : ((k % 256 : Nat) : Int) % 256 = ((k % 256 : Nat) : Int) := by omega
  have b : ((k / 256 : Nat) : Int) % 256 = ((k / 256 % 256 : Nat) : Int) := by omega
  rw [a, b, Int.toNat_natCast, Int.toNat_natCast, Nat.pow_zero, Nat.div_one, Nat.pow_one]
theorem putLittle2_c {s : List UInt8} (hs : s.length ≤ 500000000) (f : Int) {n : Int} (h0 : 0 ≤ n) (h1 : n < 65536) : cW f_q102 [.s s, .i f, .i n, .i 2] [] = some ([.s (s ++ twoS n), .i 0, .i 0], []) := by
  rw [(putLittle_ans hs f n 2 (by omega)).c]
  unfold putLittleF encW
  rw [if_neg (by show ¬ (_ ∨ _); simp; omega)]
  simp only
  rw [show ((2 : Int).toNat) = 2 from rfl, littleB_two h0 h1]
def matS (m : Mat) : List UInt8 := (matW m.1 m.2.1 m.2.2.1 m.2.2.2.1 m.2.2.2.2.1 m.2.2.2.2.2 ([], 0)).1
theorem putMatF_ok {s : List UInt8} {m : Mat} (h : mB m = true) : putMatF s m.1 m.2.1 m.2.2.1 m.2.2.2.1 m.2.2.2.2.1 m.2.2.2.2.2 = (s ++ matS m, 0, 0) := by
  unfold putMatF
  unfold mB at h
  rw [if_pos h, mat_behind]; rfl
theorem putMat_c {s : List UInt8} (hs : s.length ≤ 450000000) (f : Int) {m : Mat} (h : mB m = true) : cW f_q145 [.s s, .i f, .i m.1, .i m.2.1, .i m.2.2.1, .i m.2.2.2.1, .i m.2.2.2.2.1, .i m.2.2.2.2.2] [] = some ([.s (s ++ matS m), .i 0, .i 0], []) := by
  rw [(putMat_ans hs f _ _ _ _ _ _).c, putMatF_ok h]; rfl
theorem qPutMat_c {s : List UInt8} (hs : s.length ≤ 450000000) {m : Mat} (h : mB m = true) : cW f_q56 [.s s, .i m.1, .i m.2.1, .i m.2.2.1, .i m.2.2.2.1, .i m.2.2.2.2.1, .i m.2.2.2.2.2] [] = some ([.s (s ++ matS m)], []) := by
  have h' := h
  unfold mB at h'
  rw [(qPutMat_ans hs h').c, putMatF_ok h]
theorem putK_c {s : List UInt8} (hs : s.length ≤ 450000000) (f : Int) {c : I4} (h : rgbaB c = true) : cW f_q135 [.s s, .i f, .i c.1, .i c.2.1, .i c.2.2.1, .i c.2.2.2] [] = some ([.s (s ++ rgbaS c), .i 0, .i 0], []) := by
  rw [(putK_ans hs f c).c]; unfold putKF; rw [if_pos h]; rfl
theorem qPutK_c {s : List UInt8} (hs : s.length ≤ 450000000) {c : I4} (h : rgbaB c = true) : cW f_q72 [.s s, .i c.1, .i c.2.1, .i c.2.2.1, .i c.2.2.2] [] = some ([.s (s ++ rgbaS c)], []) := by
  rw [(qPutK_ans hs h).c]; unfold putKF; rw [if_pos h]
theorem matS_len {m : Mat} (h : mB m = true) : (matS m).length ≤ 400 := by
  unfold mB at h
  obtain ⟨f1, f2, f3⟩ := matB_fits h
  have w1 := f1.wl; have w2 := f2.wl; have w3 := f3.wl
  unfold matS matW
  generalize (m.1 != 65536 || m.2.2.2.1 != 65536) = p
  generalize (m.2.1 != 0 || m.2.2.1 != 0) = q
  obtain ⟨o1, _, _, l1⟩ := flagW_ok p ([], 0) (ok_zero [])
  obtain ⟨o2, _, _, l2⟩ := optW_ok p [m.1, m.2.2.2.1] _ o1
  obtain ⟨o3, _, _, l3⟩ := flagW_ok q _ o2
  obtain ⟨o4, _, _, l4⟩ := optW_ok q [m.2.1, m.2.2.1] _ o3
  obtain ⟨o5, _, _, l5⟩ := nums_ok 5 [m.2.2.2.2.1, m.2.2.2.2.2] _ o4
  simp only [List.length_cons, List.length_nil] at l1 l2 l3 l4 l5
  show (nums 5 _ _).1.length ≤ _
  omega
def stopsS : List Stop → List UInt8
  | [] => []
  | s :: r => oneS s.ratio ++ (rgbaS s.color ++ stopsS r)
def fillS (f : Fill) : List UInt8 := oneS f.kind ++ (bif kindS f.kind then rgbaS f.color else bif kindP f.kind then twoS f.id ++ matS f.mat else matS f.mat ++ (oneS (64 * f.spread + f.stops.length) ++ stopsS f.stops))
def fillsS : List Fill → List UInt8
  | [] => []
  | f :: r => fillS f ++ fillsS r
def strkS (s : Strk) : List UInt8 := twoS s.width ++ rgbaS s.color
def strksS : List Strk → List UInt8
  | [] => []
  | f :: r => strkS f ++ strksS r
def listsS (l : List Fill) (m : List Strk) : List UInt8 := oneS l.length ++ (fillsS l ++ (oneS m.length ++ strksS m))
theorem stopsS_len : ∀ l : List Stop, (stopsS l).length = 5 * l.length
  | [] => rfl
  | s :: r => by simp only [stopsS, List.length_append, stopsS_len r, List.length_cons]; show 1 + (4 + _) = _; omega
theorem stopsB_cons {s : Stop} {r : List Stop} {last : Int} (h : stopsB last (s :: r) = true) : rgbaB s.color = true ∧ stopsB s.ratio r = true ∧ s.ratio ≥ last ∧ s.ratio ≤ 255 := by
  unfold stopsB stopB at h
  simp only [Bool.and_eq_true, decide_eq_true_eq] at h
  exact ⟨h.1.2.2, h.2, h.1.1, h.1.2.1⟩
/-- what is right of a kind -/
theorem fillB_solid {f : Fill} (h : fillB f = true) (k : kindS f.kind = true) : rgbaB f.color = true ∧ f = ⟨0, f.color, (0, 0, 0, 0, 0, 0), 0, [], 0⟩ := by
  unfold fillB at h; rw [k, cond_true] at h
  simpa using h
theorem fillB_pic {f : Fill} (h : fillB f = true) (k : kindS f.kind = false) (k' : kindP f.kind = true) : mB f.mat = true ∧ 0 ≤ f.id ∧ f.id < 65536 ∧ f = ⟨f.kind, (0, 0, 0, 0), f.mat, 0, [], f.id⟩ := by
  unfold fillB at h; rw [k, cond_false, k', cond_true] at h
  simpa using h
theorem fillB_grad {f : Fill} (h : fillB f = true) (k : kindS f.kind = false) (k' : kindP f.kind = false) : kindG f.kind = true ∧ f = ⟨f.kind, (0, 0, 0, 0), f.mat, f.spread, f.stops, 0⟩ ∧ stopsB 0 f.stops = true ∧ mB f.mat = true ∧ 0 ≤ f.spread ∧ f.spread ≤ 2 ∧ 1 ≤ f.stops.length ∧ f.stops.length ≤ 8 := by
  unfold fillB at h; rw [k, cond_false, k', cond_false] at h
  cases hg : (kindG f.kind && decide (f = ⟨f.kind, (0, 0, 0, 0), f.mat, f.spread, f.stops, 0⟩)) with
  | false => rw [hg] at h; cases h
  | true =>
    rw [hg, cond_true] at h
    simp only [Bool.and_eq_true, decide_eq_true_eq] at hg h
    obtain ⟨h1, h2⟩ := h
    unfold gradB at h2
    simp only [Bool.and_eq_true, decide_eq_true_eq] at h2
    exact ⟨hg.1, hg.2, h1, h2.1, h2.2.1, h2.2.2.1, by omega, by omega⟩
theorem fillS_len {f : Fill} (h : fillB f = true) : (fillS f).length ≤ 450 := by
  unfold fillS
  cases k : kindS f.kind with
  | true => simp only [zq5, List.length_append]; show 1 + 4 ≤ _; omega
  | false =>
    cases k' : kindP f.kind with
    | true =>
      have := matS_len (fillB_pic h k k').1
      simp only [zq5, zq6, List.length_append]; show 1 + (2 + _) ≤ _; omega
    | false =>
      obtain ⟨_, _, _, hm, _, _, _, h8⟩ := fillB_grad h k k'
      have := matS_len hm
      simp only [zq6, List.length_append, stopsS_len]; show 1 + (_ + (1 + _)) ≤ _; omega
theorem put_loop {l : List Stop} (hl : l.length ≤ 8) (o1 : List UInt8) (o2 : Int) : ∀ (rest pre : List Stop) (s : List UInt8) (last : Int), l = pre ++ rest → stopsB last rest = true → s.length + 5 * rest.length ≤ 440000000 →
    rW f_q204 [] at_q158 (S_q158 (l.map Stop.e) l.length pre.length s 0 o1 o2) = some ([.s (s ++ stopsS rest), .i 0], [])
  | [], pre, s, last, h, hb, hs => by
    rw [w_q158]
    simp only [el_end h, stopsS, List.append_nil, zcf]
  | x :: rest, pre, s, last, h, hb, hs => by
    obtain ⟨h1, h2, h3, h4, h5⟩ := el_step Stop.e h (Nat.le_trans hl (by decide))
    obtain ⟨hc, hr, _, _⟩ := stopsB_cons hb
    simp only [List.length_cons] at hs
    have e := putK_c (s := s ++ oneS x.ratio) (by simp [oneS]; omega) 0 hc
    rw [w_q158]
    simp only [h1, h2, h3, h4, Stop.e, byteOf_c (s := s) (by omega), e, zcf]
    have := put_loop hl o1 o2 rest _ (s ++ oneS x.ratio ++ rgbaS x.color) x.ratio h5 hr (by simp [oneS, rgbaS]; omega)
    simpa [stopsS] using this
theorem put_c {f : Fill} (h : fillB f = true) {s : List UInt8} (hs : s.length ≤ 430000000) (fr : Int) : cW f_q204 ([.s s, .i fr] ++ f.e) [] = some ([.s (s ++ fillS f), .i 0], []) := by
  simp only [Fill.e, List.cons_append, List.nil_append]
  rw [w_q204]
  have hs1 : (s ++ oneS f.kind).length ≤ 430000001 := by simp [oneS]; omega
  simp only [byteOf_c (s := s) (by omega), picture_c, zcf]
  unfold fillS
  show (bif kindS f.kind then _ else _) = _
  cases k : kindS f.kind with
  | true =>
    rw [cond_true, cond_true, putK_c (by omega) 0 (fillB_solid h k).1]
    simp [toS_s, toI_i]
  | false =>
    cases k' : kindP f.kind with
    | true =>
      obtain ⟨hm, h0, h1, _⟩ := fillB_pic h k k'
      have e := putMat_c (s := s ++ oneS f.kind ++ twoS f.id) (by simp [oneS, twoS]; omega) 0 hm
      simp only [putLittle2_c (s := s ++ oneS f.kind) (by omega) 0 h0 h1, e, zcf]
      simp
    | false =>
      obtain ⟨_, _, hb, hm, h0, h2, _, h8⟩ := fillB_grad h k k'
      have hml := matS_len hm
      have e := putMat_c (s := s ++ oneS f.kind) (by omega) 0 hm
      have e2 := byteOf_c (s := s ++ oneS f.kind ++ matS f.mat) (by simp [oneS]; omega) 0 (64 * f.spread + f.stops.length)
      have e3 := put_loop h8 [] 0 f.stops [] (s ++ oneS f.kind ++ matS f.mat ++ oneS (64 * f.spread + f.stops.length)) 0 rfl hb (by simp [oneS]; omega)
      rw [show IntKind.wrap .i64 ((IntKind.wrap .i64 (f.spread * 64)) + ((f.stops.length : Nat) : Int)) = 64 * f.spread + f.stops.length by rw [wrap64 (n := f.spread * 64) (by omega) (by omega), wrap64 (by omega) (by omega)]; omega]
      simp only [e, e2, zcf]
      rw [show (0 : Int) = ((([] : List Stop).length : Nat) : Int) from rfl]
      rw [show (0 : Int) = ((([] : List Stop).length : Nat) : Int) from rfl] at e3
      rw [e3]
      simp
end Go.AI
set_option linter.unusedVariables false
set_option linter.unusedSimpArgs false
set_option maxRecDepth 100000
namespace Go.AI
open Go Go.Proofs

def lit (σ : Rs) (n : Int) : Int × Rs := if σ.2.2 ≠ 0 then (0, σ) else littleF σ.1 σ.2.1 n
def col (σ : Rs) : I4 × Rs := if σ.2.2 ≠ 0 then ((0, 0, 0, 0), σ) else takeKF σ.1 σ.2.1
def mt (σ : Rs) : Mat × Rs := if σ.2.2 ≠ 0 then ((0, 0, 0, 0, 0, 0), σ) else takeMatF (beginP σ.1 σ.2.1)
def failR (σ : Rs) (e : Int) : Rs := if σ.2.2 = 0 then (σ.1, σ.2.1, e) else σ
theorem bytesF_keep (s : List UInt8) (a n : Int) : (bytesF s a n).2.1 = [] ∨ (bytesF s a n).2.1 = s := by
  rcases bytesF_cases s a n with e | e | ⟨_, _, _, _, _, _, e⟩ <;> rw [e] <;> simp
def Keeps (σ τ : Rs) : Prop := τ.1 = [] ∨ τ.1 = σ.1
theorem Keeps.refl (σ : Rs) : Keeps σ σ := .inr rfl
theorem Keeps.trans {σ τ ρ : Rs} (h : Keeps σ τ) (k : Keeps τ ρ) : Keeps σ ρ := by
  rcases k with k | k
  · exact .inl k
  · rcases h with h | h
    · exact .inl (k.trans h)
    · exact .inr (k.trans h)
theorem Keeps.len {σ τ : Rs} (k : Keeps σ τ) (h : LenOk σ) : LenOk τ := by
  unfold LenOk at *
  rcases k with k | k <;> rw [k]
  · exact Nat.zero_le _
  · exact h
theorem lit_keep (σ : Rs) (n : Int) : Keeps σ (lit σ n).2 := by
  unfold lit
  split
  · exact .refl _
  · unfold littleF
    split
    · exact .inl rfl
    · exact bytesF_keep _ _ _
theorem col_keep (σ : Rs) : Keeps σ (col σ).2 := by
  unfold col
  split
  · exact .refl _
  · unfold takeKF
    dsimp only
    split
    · exact .inl rfl
    · exact bytesF_keep _ _ _
theorem lit_len {σ : Rs} (h : LenOk σ) (n : Int) : LenOk (lit σ n).2 := (lit_keep σ n).len h
theorem col_len {σ : Rs} (h : LenOk σ) : LenOk (col σ).2 := (col_keep σ).len h
theorem fail_len {σ : Rs} (h : LenOk σ) (e : Int) : LenOk (failR σ e) := by unfold failR; split <;> exact h
theorem done_len {σ : Rs} (h : LenOk σ) (b : Bool) : LenOk (doneF σ b) := by
  unfold doneF LenOk at *
  split
  · exact Nat.zero_le _
  · split
    · exact Nat.zero_le _
    · exact h
theorem matF_len {σ : Rs} (h : LenOk σ) : LenOk (takeMatF σ).2 := by
  unfold takeMatF finM
  have a := opt2_len (pl_len h 1) 65536 65536
  have b := opt2_len (pl_len a 1) 0 0
  have d := done_len (two_len b)
  dsimp only
  split <;> exact d _
theorem mt_len {σ : Rs} (h : LenOk σ) : LenOk (mt σ).2 := by
  unfold mt
  split
  · exact h
  · exact matF_len (begin_len h _).1
theorem lit_c {σ : Rs} (h : LenOk σ) (n : Int) : cW f_q68 [.u, .i n] [(t_q12, [.s σ.1, .i σ.2.1, .i σ.2.2])] = some ([.i (lit σ n).1], [(t_q12, [.s (lit σ n).2.1, .i (lit σ n).2.2.1, .i (lit σ n).2.2.2])]) := by
  rw [w_q68]
  unfold lit
  by_cases he : σ.2.2 = 0
  · rw [show (σ.2.2 != 0) = false by simp [he], (little_ans h σ.2.1 n).c, if_neg (by simp [he])]
    rfl
  · rw [show (σ.2.2 != 0) = true by simp [he], if_pos he]; rfl
theorem col_c {σ : Rs} (h : LenOk σ) : cW f_q100 [.u] [(t_q12, [.s σ.1, .i σ.2.1, .i σ.2.2])] = some ([.i (col σ).1.1, .i (col σ).1.2.1, .i (col σ).1.2.2.1, .i (col σ).1.2.2.2], [(t_q12, [.s (col σ).2.1, .i (col σ).2.2.1, .i (col σ).2.2.2])]) := by
  rw [w_q100]
  unfold col
  by_cases he : σ.2.2 = 0
  · rw [show (σ.2.2 != 0) = false by simp [he], (takeK_ans h σ.2.1).c, if_neg (by simp [he])]
    rfl
  · rw [show (σ.2.2 != 0) = true by simp [he], if_pos he]; rfl
theorem mt_c {σ : Rs} (h : LenOk σ) : cW f_q130 [.u] [(t_q12, [.s σ.1, .i σ.2.1, .i σ.2.2])] = some ([.i (mt σ).1.1, .i (mt σ).1.2.1, .i (mt σ).1.2.2.1, .i (mt σ).1.2.2.2.1, .i (mt σ).1.2.2.2.2.1, .i (mt σ).1.2.2.2.2.2], [(t_q12, [.s (mt σ).2.1, .i (mt σ).2.2.1, .i (mt σ).2.2.2])]) := by
  rw [w_q130]
  unfold mt
  by_cases he : σ.2.2 = 0
  · rw [show (σ.2.2 != 0) = false by simp [he], (takeMat_ans h σ.2.1).c, if_neg (by simp [he])]
    rfl
  · rw [show (σ.2.2 != 0) = true by simp [he], if_pos he]; rfl
theorem fail_c (σ : Rs) (e : Int) : cW f_q105 [.u, .i e] [(t_q12, [.s σ.1, .i σ.2.1, .i σ.2.2])] = some ([], [(t_q12, [.s (failR σ e).1, .i (failR σ e).2.1, .i (failR σ e).2.2])]) := by
  rw [w_q105]
  unfold failR
  by_cases he : σ.2.2 = 0
  · rw [show (σ.2.2 == 0) = true by simp [he], if_pos he]; rfl
  · rw [show (σ.2.2 == 0) = false by simp [he], if_neg he]; rfl
theorem lit_pos (σ : Rs) (n : Int) : 0 ≤ (lit σ n).1 := by
  unfold lit littleF
  split
  · exact Int.le_refl _
  · split
    · exact Int.le_refl _
    · exact Int.natCast_nonneg _
theorem lit1_lt (σ : Rs) : (lit σ 1).1 < 256 := by
  unfold lit littleF
  split
  · show (0 : Int) < 256; decide
  · rw [if_neg (by decide)]
    have h := littleN_lt (bytesF σ.1 σ.2.1 1).1
    have hl : (bytesF σ.1 σ.2.1 1).1.length ≤ 1 := by
      rcases bytesF_cases σ.1 σ.2.1 1 with e | e | ⟨_, n', _, hn, _, _, e⟩ <;> rw [e]
      · exact Nat.zero_le _
      · exact Nat.zero_le _
      · simp; omega
    have : 256 ^ (bytesF σ.1 σ.2.1 1).1.length ≤ 256 ^ 1 := Nat.pow_le_pow_right (by decide) hl
    simp only
    have e1 : 256 ^ 1 = 256 := rfl
    omega
/-- a stop, stops, a fill -/
def stop1 (last : Int) (σ : Rs) : Stop × Rs :=
  let r := lit σ 1
  let c := col (bif (r.2.2.2 == 0) && decide (r.1 < last) then failR r.2 3 else r.2)
  (⟨r.1, c.1⟩, c.2)
def stopsP : Nat → Int → Rs → List Stop × Rs
  | 0, _, σ => ([], σ)
  | n + 1, last, σ => let a := stop1 last σ; let b := stopsP n a.1.ratio a.2; (a.1 :: b.1, b.2)
theorem stop1_len {last : Int} {σ : Rs} (h : LenOk σ) : LenOk (stop1 last σ).2 := by
  unfold stop1
  dsimp only
  apply col_len
  cases ((lit σ 1).2.2.2 == 0) && decide ((lit σ 1).1 < last)
  · exact lit_len h 1
  · exact fail_len (lit_len h 1) 3
theorem stopsP_len : ∀ (n : Nat) (last : Int) (σ : Rs), LenOk σ → LenOk (stopsP n last σ).2
  | 0, _, _, h => h
  | n + 1, last, σ, h => stopsP_len n _ _ (stop1_len h)
def badN (n : Int) : Bool := decide (n / 64 > 2) || (decide (n / 16 % 4 > 0) || (n % 16 == 0 || decide (n % 16 > 8)))
def gradS (σ : Rs) : Rs := bif ((lit σ 1).2.2.2 == 0) && badN (lit σ 1).1 then failR (lit σ 1).2 3 else (lit σ 1).2
def fillP (σ : Rs) : Fill × Rs :=
  let r := lit σ 1
  bif kindS r.1 then (⟨r.1, (col r.2).1, (0, 0, 0, 0, 0, 0), 0, [], 0⟩, (col r.2).2)
  else bif kindP r.1 then (⟨r.1, (0, 0, 0, 0), (mt (lit r.2 2).2).1, 0, [], (lit r.2 2).1⟩, (mt (lit r.2 2).2).2)
  else bif kindG r.1 then
    let m := mt r.2
    let n := (lit m.2 1).1
    let st := stopsP (n % 16).toNat 0 (gradS m.2)
    (⟨r.1, (0, 0, 0, 0), m.1, n / 64, st.1, 0⟩, st.2)
  else (⟨r.1, (0, 0, 0, 0), (0, 0, 0, 0, 0, 0), 0, [], 0⟩, failR r.2 3)
theorem gradS_len {σ : Rs} (h : LenOk σ) : LenOk (gradS σ) := by
  unfold gradS
  cases ((lit σ 1).2.2.2 == 0) && badN (lit σ 1).1
  · exact lit_len h 1
  · exact fail_len (lit_len h 1) 3
theorem fillP_len {σ : Rs} (h : LenOk σ) : LenOk (fillP σ).2 := by
  have h1 := lit_len h 1
  unfold fillP
  dsimp only
  cases kindS (lit σ 1).1
  · cases kindP (lit σ 1).1
    · cases kindG (lit σ 1).1
      · exact fail_len h1 3
      · exact stopsP_len _ _ _ (gradS_len (mt_len h1))
    · exact mt_len (lit_len h1 2)
  · exact col_len h1
theorem and15 {n : Int} (h0 : 0 ≤ n) (h1 : n < 256) : bitsOp .and .i64 n 15 = n % 16 := by
  have : ∀ k : Fin 256, bitsOp .and .i64 ((k.1 : Nat) : Int) 15 = ((k.1 : Nat) : Int) % 16 := by decide +kernel
  have := this ⟨n.toNat, by omega⟩
  rwa [show ((n.toNat : Nat) : Int) = n by omega] at this
theorem and48 {n : Int} (h0 : 0 ≤ n) (h1 : n < 256) : (bitsOp .and .i64 n 48 != 0) = decide (n / 16 % 4 > 0) := by
  have : ∀ k : Fin 256, (bitsOp .and .i64 ((k.1 : Nat) : Int) 48 != 0) = decide (((k.1 : Nat) : Int) / 16 % 4 > 0) := by decide +kernel
  have := this ⟨n.toNat, by omega⟩
  rwa [show ((n.toNat : Nat) : Int) = n by omega] at this
theorem div64 {n : Int} (h0 : 0 ≤ n) (h1 : n < 256) : IntKind.wrap .i64 (Int.tdiv n 64) = n / 64 := by
  rw [Int.tdiv_eq_ediv_of_nonneg h0, wrap64 (by omega) (by omega)]
theorem stops_row (l : List Stop) (s : Stop) : l.map Stop.e ++ List.set [[PV.i 0, PV.i 0, PV.i 0, PV.i 0, PV.i 0]] 0 [PV.i s.ratio, PV.i s.color.1, PV.i s.color.2.1, PV.i s.color.2.2.1, PV.i s.color.2.2.2] = (l ++ [s]).map Stop.e := by
  rw [List.map_append]; rfl
theorem step_i {i n : Nat} (h : i < n) (hn : n ≤ 1000000) : decide (((i : Nat) : Int) < ((n : Nat) : Int)) = true ∧ IntKind.wrap .i64 (((i : Nat) : Int) + 1) = (((i + 1 : Nat)) : Int) :=
  ⟨decide_eq_true (by omega), by rw [wrap64 (by omega) (by omega)]; omega⟩
theorem rdFill_loop {n : Nat} (hn : n ≤ 15) (z : List (List PV)) (a1 a2 a3 a4 a5 a6 a7 a8 a9 a10 a11 a12 a13 b1 b2 b3 b4 b5 b6 b7 b8 b9 b10 b11 b12 b13 : Int) : ∀ (j i : Nat) (pre : List Stop) (last : Int) (σ : Rs), i + j = n → pre.length = i → LenOk σ →
    rW f_q63 [t_q12] at_q23 (S_q23 last n i σ.1 σ.2.1 σ.2.2 z a1 a2 a3 a4 a5 a6 a7 a8 a9 a10 a11 a12 a13 (pre.map Stop.e) b1 b2 b3 b4 b5 b6 b7 b8 b9 b10 b11 b12 b13) =
      some ([.i b1, .i b2, .i b3, .i b4, .i b5, .i b6, .i b7, .i b8, .i b9, .i b10, .i b11, .i b12, .l ((pre ++ (stopsP j last σ).1).map Stop.e), .i b13], [(t_q12, [.s (stopsP j last σ).2.1, .i (stopsP j last σ).2.2.1, .i (stopsP j last σ).2.2.2])])
  | 0, i, pre, last, σ, hi, hp, hσ => by
    obtain rfl : i = n := hi
    rw [w_q23, decide_eq_false (by omega)]
    simp only [stopsP, List.append_nil, zbc, zcf]
  | j + 1, i, pre, last, σ, hi, hp, hσ => by
    obtain ⟨h1, h2⟩ := step_i (i := i) (n := n) (by omega) (by omega)
    have hl := lit_len hσ 1
    have ih := rdFill_loop hn z a1 a2 a3 a4 a5 a6 a7 a8 a9 a10 a11 a12 a13 b1 b2 b3 b4 b5 b6 b7 b8 b9 b10 b11 b12 b13 j (i + 1) (pre ++ [(stop1 last σ).1]) (stop1 last σ).1.ratio (stop1 last σ).2 (by omega) (by simp [hp]) (stop1_len hσ)
    rw [w_q23]
    have hd : ∀ s : Stop, decide ((((pre.map Stop.e).length + (List.length (List.set [[PV.i 0, PV.i 0, PV.i 0, PV.i 0, PV.i 0]] 0 s.e))) + 1000) * 41 ≤ 1099511627776) = true := fun s => decide_eq_true (by simp; omega)
    simp only [h1, h2, lit_c hσ, zbc, zcf]
    cases hc : ((lit σ 1).2.2.2 == 0) with
    | true =>
      cases hc2 : decide ((lit σ 1).1 < last) with
      | true =>
        have e : stop1 last σ = (⟨(lit σ 1).1, (col (failR (lit σ 1).2 3)).1⟩, (col (failR (lit σ 1).2 3)).2) := by unfold stop1; simp only [hc, hc2, Bool.and_self, zq5]
        rw [e] at ih
        have hd := hd ⟨(lit σ 1).1, (col (failR (lit σ 1).2 3)).1⟩
        simp only [Stop.e, zq7] at hd
        simp only [fail_c, col_c (fail_len hl 3), hd, zbc, zcf]
        rw [stops_row _ ⟨(lit σ 1).1, (col (failR (lit σ 1).2 3)).1⟩, ih]
        simp only [stopsP, e, List.append_assoc, List.cons_append, List.nil_append]
      | false =>
        have e : stop1 last σ = (⟨(lit σ 1).1, (col (lit σ 1).2).1⟩, (col (lit σ 1).2).2) := by unfold stop1; simp only [hc, hc2, zq10, zq6]
        rw [e] at ih
        have hd := hd ⟨(lit σ 1).1, (col (lit σ 1).2).1⟩
        simp only [Stop.e, zq7] at hd
        simp only [col_c hl, hd, zbc, zcf]
        rw [stops_row _ ⟨(lit σ 1).1, (col (lit σ 1).2).1⟩, ih]
        simp only [stopsP, e, List.append_assoc, List.cons_append, List.nil_append]
    | false =>
      have e : stop1 last σ = (⟨(lit σ 1).1, (col (lit σ 1).2).1⟩, (col (lit σ 1).2).2) := by unfold stop1; simp only [hc, zq11, zq6]
      rw [e] at ih
      have hd := hd ⟨(lit σ 1).1, (col (lit σ 1).2).1⟩
      simp only [Stop.e, zq7] at hd
      simp only [col_c hl, hd, zbc, zcf]
      rw [stops_row _ ⟨(lit σ 1).1, (col (lit σ 1).2).1⟩, ih]
      simp only [stopsP, e, List.append_assoc, List.cons_append, List.nil_append]
theorem pic_c (k : Int) : cW f_q189 [.i k] [] = some ([.b (kindP k)], []) := picture_c k
theorem fillP_c {σ : Rs} (h : LenOk σ) : cW f_q63 [.u] [(t_q12, [.s σ.1, .i σ.2.1, .i σ.2.2])] = some ((fillP σ).1.e, [(t_q12, [.s (fillP σ).2.1, .i (fillP σ).2.2.1, .i (fillP σ).2.2.2])]) := by
  have h1 := lit_len h 1
  rw [w_q63]
  unfold fillP
  simp only [lit_c h, zcf]
  show (bif kindS (lit σ 1).1 then _ else _) = _
  cases ks : kindS (lit σ 1).1 with
  | true => simp only [col_c h1, Fill.e, List.map_nil, zcf]
  | false =>
    simp only [pic_c, zcf]
    cases kp : kindP (lit σ 1).1 with
    | true => simp only [lit_c h1, mt_c (lit_len h1 2), Fill.e, List.map_nil, zcf]
    | false =>
      simp only [gradient_c, zcf]
      cases kg : kindG (lit σ 1).1 with
      | false => simp only [fail_c, Fill.e, List.map_nil, zcf]
      | true =>
        have h2 := mt_len h1
        have n0 := lit_pos (mt (lit σ 1).2).2 1
        have n1 := lit1_lt (mt (lit σ 1).2).2
        have hg := gradS_len h2
        have hn : ((((lit (mt (lit σ 1).2).2 1).1 % 16).toNat : Nat) : Int) = (lit (mt (lit σ 1).2).2 1).1 % 16 := by omega
        have key : ∀ b : Bool, b = (((lit (mt (lit σ 1).2).2 1).2.2.2 == 0) && badN (lit (mt (lit σ 1).2).2 1).1) → (bif b then failR (lit (mt (lit σ 1).2).2 1).2 3 else (lit (mt (lit σ 1).2).2 1).2) = gradS (mt (lit σ 1).2).2 := by rintro b rfl; rfl
        have e := rdFill_loop (n := ((lit (mt (lit σ 1).2).2 1).1 % 16).toNat) (by omega) [] 0 0 0 0 0 0 0 0 0 0 0 0 0 (lit σ 1).1 0 0 0 0 (mt (lit σ 1).2).1.1 (mt (lit σ 1).2).1.2.1 (mt (lit σ 1).2).1.2.2.1 (mt (lit σ 1).2).1.2.2.2.1 (mt (lit σ 1).2).1.2.2.2.2.1 (mt (lit σ 1).2).1.2.2.2.2.2 ((lit (mt (lit σ 1).2).2 1).1 / 64) 0 ((lit (mt (lit σ 1).2).2 1).1 % 16).toNat 0 [] 0 (gradS (mt (lit σ 1).2).2) (by omega) rfl hg
        rw [hn] at e
        simp only [mt_c h1, lit_c h2, and15 n0 n1, and48 n0 n1, div64 n0 n1, zcf]
        cases hc : ((lit (mt (lit σ 1).2).2 1).2.2.2 == 0) with
        | false =>
          have e2 := key false (by rw [hc]; rfl)
          rw [cond_false] at e2
          rw [← e2] at e ⊢
          simpa [Fill.e, toB_b] using e
        | true =>
          cases hb : badN (lit (mt (lit σ 1).2).2 1).1 with
          | false =>
            have e2 := key false (by rw [hc, hb]; rfl)
            rw [cond_false] at e2
            rw [← e2] at e ⊢
            unfold badN at hb
            simp only [hb, zcf]
            simpa [Fill.e, toB_b] using e
          | true =>
            have e2 := key true (by rw [hc, hb]; rfl)
            rw [cond_true] at e2
            rw [← e2] at e ⊢
            unfold badN at hb
            simp only [hb, fail_c, zcf]
            simpa [Fill.e, toB_b] using e
end Go.AI
set_option linter.unusedVariables false
set_option linter.unusedSimpArgs false
set_option maxRecDepth 100000
namespace Go.AI
open Go Go.Proofs

def manyP (σ : Rs) : Int × Rs := bif decide ((lit σ 1).1 > 15) then (0, failR (lit σ 1).2 7) else lit σ 1
def fillsP : Nat → Rs → List Fill × Rs
  | 0, σ => ([], σ)
  | n + 1, σ => ((fillP σ).1 :: (fillsP n (fillP σ).2).1, (fillsP n (fillP σ).2).2)
def strkP (σ : Rs) : Strk × Rs := (⟨(lit σ 2).1, (col (lit σ 2).2).1⟩, (col (lit σ 2).2).2)
def strksP : Nat → Rs → List Strk × Rs
  | 0, σ => ([], σ)
  | n + 1, σ => ((strkP σ).1 :: (strksP n (strkP σ).2).1, (strksP n (strkP σ).2).2)
def listsP (σ : Rs) : List Fill × List Strk × Rs :=
  let m := manyP σ
  let a := fillsP m.1.toNat m.2
  let k := manyP a.2
  let b := strksP k.1.toNat k.2
  (a.1, b.1, b.2)
def finT (r : List Fill × List Strk × Rs) : List Fill × List Strk × Rs := if r.2.2.2.2 ≠ 0 then ([], [], ([], 0, r.2.2.2.2)) else r
theorem many_len {σ : Rs} (h : LenOk σ) : LenOk (manyP σ).2 := by
  unfold manyP
  cases decide ((lit σ 1).1 > 15)
  · exact lit_len h 1
  · exact fail_len (lit_len h 1) 7
theorem many_bound (σ : Rs) : 0 ≤ (manyP σ).1 ∧ (manyP σ).1 ≤ 15 := by
  unfold manyP
  cases h : decide ((lit σ 1).1 > 15)
  · simp only [decide_eq_false_iff_not] at h
    exact ⟨lit_pos σ 1, by show (lit σ 1).1 ≤ 15; omega⟩
  · exact ⟨Int.le_refl _, by show (0 : Int) ≤ 15; omega⟩
theorem fillsP_len : ∀ (n : Nat) (σ : Rs), LenOk σ → LenOk (fillsP n σ).2
  | 0, σ, h => h
  | n + 1, σ, h => fillsP_len n _ (fillP_len h)
theorem strkP_len {σ : Rs} (h : LenOk σ) : LenOk (strkP σ).2 := col_len (lit_len h 2)
theorem strksP_len : ∀ (n : Nat) (σ : Rs), LenOk σ → LenOk (strksP n σ).2
  | 0, σ, h => h
  | n + 1, σ, h => strksP_len n _ (strkP_len h)
theorem many_c {σ : Rs} (h : LenOk σ) : cW f_q138 [.u] [(t_q12, [.s σ.1, .i σ.2.1, .i σ.2.2])] = some ([.i (manyP σ).1], [(t_q12, [.s (manyP σ).2.1, .i (manyP σ).2.2.1, .i (manyP σ).2.2.2])]) := by
  rw [w_q138]
  unfold manyP
  simp only [lit_c h, zcf]
  cases decide ((lit σ 1).1 > 15)
  · rfl
  · simp only [fail_c, zcf]
theorem strk_row (l : List Strk) (s : Strk) : l.map Strk.e ++ List.set [[PV.i 0, PV.i 0, PV.i 0, PV.i 0, PV.i 0]] 0 [PV.i s.width, PV.i s.color.1, PV.i s.color.2.1, PV.i s.color.2.2.1, PV.i s.color.2.2.2] = (l ++ [s]).map Strk.e := by
  rw [List.map_append]; rfl
theorem fill_row (l : List Fill) (f : Fill) : l.map Fill.e ++ List.set [[PV.i 0, PV.i 0, PV.i 0, PV.i 0, PV.i 0, PV.i 0, PV.i 0, PV.i 0, PV.i 0, PV.i 0, PV.i 0, PV.i 0, PV.l [], PV.i 0]] 0 [PV.i f.kind, PV.i f.color.1, PV.i f.color.2.1, PV.i f.color.2.2.1, PV.i f.color.2.2.2, PV.i f.mat.1, PV.i f.mat.2.1, PV.i f.mat.2.2.1, PV.i f.mat.2.2.2.1, PV.i f.mat.2.2.2.2.1, PV.i f.mat.2.2.2.2.2, PV.i f.spread, PV.l (f.stops.map Stop.e), PV.i f.id] = (l ++ [f]).map Fill.e := by
  rw [List.map_append]; rfl
def encT (r : List Fill × List Strk × Rs) : Res := ([.l (r.1.map Fill.e), .l (r.2.1.map Strk.e), .s r.2.2.1, .i r.2.2.2.1, .i r.2.2.2.2], [])
theorem take_loop2 {n : Nat} (hn : n ≤ 15) (L : List Fill) (o1 : List UInt8) (o2 : Int) : ∀ (j i : Nat) (pre : List Strk) (σ : Rs), i + j = n → pre.length = i → LenOk σ →
    rW f_q172 [] at_q150 (S_q150 n i (L.map Fill.e) (pre.map Strk.e) o1 o2 σ.1 σ.2.1 σ.2.2) = some (encT (finT (L, pre ++ (strksP j σ).1, (strksP j σ).2)))
  | 0, i, pre, σ, hi, hp, hσ => by
    obtain rfl : i = n := hi
    rw [w_q150, decide_eq_false (by omega)]
    unfold finT encT
    by_cases h : σ.2.2 = 0
    · rw [show (σ.2.2 != 0) = false by simp [h], if_neg (by simp [strksP, h])]
      simp [strksP, h]
    · rw [show (σ.2.2 != 0) = true by simp [h], if_pos (by simp [strksP, h])]; rfl
  | j + 1, i, pre, σ, hi, hp, hσ => by
    obtain ⟨h1, h2⟩ := step_i (i := i) (n := n) (by omega) (by omega)
    have ih := take_loop2 hn L o1 o2 j (i + 1) (pre ++ [(strkP σ).1]) (strkP σ).2 (by omega) (by simp [hp]) (strkP_len hσ)
    rw [w_q150]
    simp only [h1, h2, lit_c hσ, col_c (lit_len hσ 2), zcf]
    rw [room1 _ _ (by omega), cond_true, strk_row _ ⟨(lit σ 2).1, (col (lit σ 2).2).1⟩]
    refine ih.trans ?_
    rw [List.append_assoc]; rfl
theorem take_loop {n : Nat} (hn : n ≤ 15) (o1 : List UInt8) (o2 : Int) : ∀ (j i : Nat) (pre : List Fill) (σ : Rs), i + j = n → pre.length = i → LenOk σ →
    rW f_q172 [] at_q149 (S_q149 n i (pre.map Fill.e) [] o1 o2 σ.1 σ.2.1 σ.2.2) =
      some (encT (finT (pre ++ (fillsP j σ).1, (strksP (manyP (fillsP j σ).2).1.toNat (manyP (fillsP j σ).2).2).1, (strksP (manyP (fillsP j σ).2).1.toNat (manyP (fillsP j σ).2).2).2)))
  | 0, i, pre, σ, hi, hp, hσ => by
    obtain rfl : i = n := hi
    obtain ⟨m0, m1⟩ := many_bound σ
    have e := take_loop2 (n := (manyP σ).1.toNat) (by omega) pre o1 o2 (manyP σ).1.toNat 0 [] (manyP σ).2 (by omega) rfl (many_len hσ)
    rw [w_q149, decide_eq_false (by omega)]
    rw [show (((manyP σ).1.toNat : Nat) : Int) = (manyP σ).1 by omega] at e
    simp only [many_c hσ, fillsP, List.append_nil, zcf]
    exact e
  | j + 1, i, pre, σ, hi, hp, hσ => by
    obtain ⟨h1, h2⟩ := step_i (i := i) (n := n) (by omega) (by omega)
    have ih := take_loop hn o1 o2 j (i + 1) (pre ++ [(fillP σ).1]) (fillP σ).2 (by omega) (by simp [hp]) (fillP_len hσ)
    rw [w_q149]
    simp only [h1, h2, fillP_c hσ, Fill.e, zcf]
    rw [room1 _ _ (by omega), cond_true, fill_row]
    refine ih.trans ?_
    rw [List.append_assoc]; rfl
def takeF (s : List UInt8) (a : Int) : List Fill × List Strk × Rs := finT (listsP (s, a, 0))
theorem Take_c {s : List UInt8} (h : s.length ≤ 2 ^ 40) (a : Int) : cW f_q172 [.s s, .i a] [] = some (encT (takeF s a)) := by
  have hσ : LenOk (s, a, 0) := h
  obtain ⟨m0, m1⟩ := many_bound (s, a, 0)
  have e1 := many_c hσ
  have e := take_loop (n := (manyP (s, a, 0)).1.toNat) (by omega) [] 0 (manyP (s, a, 0)).1.toNat 0 [] (manyP (s, a, 0)).2 (by omega) rfl (many_len hσ)
  rw [show (((manyP (s, a, 0)).1.toNat : Nat) : Int) = (manyP (s, a, 0)).1 by omega] at e
  rw [w_q172]
  simp only at e1
  simp only [e1, zcf]
  exact e
end Go.AI
set_option linter.unusedVariables false
set_option linter.unusedSimpArgs false
set_option maxRecDepth 100000
namespace Go.AI
open Go Go.Proofs

theorem lit_err {σ : Rs} (h : σ.2.2 ≠ 0) (n : Int) : lit σ n = (0, σ) := by unfold lit; rw [if_pos h]
theorem col_err {σ : Rs} (h : σ.2.2 ≠ 0) : col σ = ((0, 0, 0, 0), σ) := by unfold col; rw [if_pos h]
theorem mt_err {σ : Rs} (h : σ.2.2 ≠ 0) : mt σ = ((0, 0, 0, 0, 0, 0), σ) := by unfold mt; rw [if_pos h]
theorem stop1_err {last : Int} {σ : Rs} (h : σ.2.2 ≠ 0) : (stop1 last σ).2 = σ := by
  unfold stop1
  rw [lit_err h]
  have : (σ.2.2 == 0) = false := by simpa using h
  simp only [this, zq11, zq6, col_err h]
theorem stopsP_err : ∀ (n : Nat) {last : Int} {σ : Rs}, σ.2.2 ≠ 0 → (stopsP n last σ).2 = σ
  | 0, _, _, _ => rfl
  | n + 1, last, σ, h => by
    show (stopsP n _ (stop1 last σ).2).2 = σ
    rw [stop1_err h]; exact stopsP_err n h
theorem fillP_err {σ : Rs} (h : σ.2.2 ≠ 0) : (fillP σ).2 = σ := by
  unfold fillP
  rw [lit_err h]
  dsimp only
  rw [show kindS 0 = true from rfl, cond_true, col_err h]
end Go.AI
set_option linter.unusedVariables false
set_option linter.unusedSimpArgs false
set_option maxRecDepth 100000
namespace Go.AI
open Go Go.Proofs

/-! ### it is the program's -/
theorem fillsP_err : ∀ (n : Nat) {σ : Rs}, σ.2.2 ≠ 0 → (fillsP n σ).2 = σ
  | 0, _, _ => rfl
  | n + 1, σ, h => by
    show (fillsP n (fillP σ).2).2 = σ
    rw [fillP_err h]; exact fillsP_err n h
theorem strkP_err {σ : Rs} (h : σ.2.2 ≠ 0) : (strkP σ).2 = σ := by unfold strkP; rw [lit_err h, col_err h]
theorem strksP_err : ∀ (n : Nat) {σ : Rs}, σ.2.2 ≠ 0 → (strksP n σ).2 = σ
  | 0, _, _ => rfl
  | n + 1, σ, h => by
    show (strksP n (strkP σ).2).2 = σ
    rw [strkP_err h]; exact strksP_err n h
end Go.AI
set_option linter.unusedVariables false
set_option linter.unusedSimpArgs false
set_option maxRecDepth 100000
namespace Go.AI
open Go Go.Proofs

end Go.AI
set_option linter.unusedVariables false
set_option linter.unusedSimpArgs false
set_option maxRecDepth 100000
namespace Go.AI
open Go Go.Proofs

theorem stopsP_n : ∀ (n : Nat) (last : Int) (σ : Rs), (stopsP n last σ).1.length = n
  | 0, _, _ => rfl
  | n + 1, last, σ => by show (stopsP n _ _).1.length + 1 = n + 1; rw [stopsP_n n]
theorem fillP_n (σ : Rs) : (fillP σ).1.stops.length ≤ 15 := by
  unfold fillP
  dsimp only
  cases kindS (lit σ 1).1
  · cases kindP (lit σ 1).1
    · cases kindG (lit σ 1).1
      · exact Nat.zero_le _
      · show (stopsP _ _ _).1.length ≤ 15
        rw [stopsP_n]; omega
    · exact Nat.zero_le _
  · exact Nat.zero_le _
theorem fillsP_n : ∀ (n : Nat) (σ : Rs), (fillsP n σ).1.length = n ∧ ∀ f, f ∈ (fillsP n σ).1 → f.stops.length ≤ 15
  | 0, σ => ⟨rfl, fun f hf => by cases hf⟩
  | n + 1, σ => by
    obtain ⟨a, b⟩ := fillsP_n n (fillP σ).2
    refine ⟨by show (fillsP n _).1.length + 1 = n + 1; rw [a], fun f hf => ?_⟩
    rcases List.mem_cons.1 hf with rfl | hf
    · exact fillP_n σ
    · exact b f hf
theorem strksP_n : ∀ (n : Nat) (σ : Rs), (strksP n σ).1.length = n
  | 0, σ => rfl
  | n + 1, σ => by show (strksP n _).1.length + 1 = n + 1; rw [strksP_n n]
end Go.AI
set_option linter.unusedVariables false
set_option linter.unusedSimpArgs false
set_option maxRecDepth 100000
namespace Go.AI
open Go Go.Proofs

theorem fillsS_len : ∀ {l : List Fill}, (∀ f, f ∈ l → fillB f = true) → (fillsS l).length ≤ 450 * l.length
  | [], _ => Nat.le_refl _
  | f :: r, h => by
    have a := fillS_len (h f (by simp))
    have b := fillsS_len (l := r) (fun g hg => h g (by simp [hg]))
    simp only [fillsS, List.length_append, List.length_cons]; omega
theorem strksS_len : ∀ l : List Strk, (strksS l).length = 6 * l.length
  | [] => rfl
  | f :: r => by simp only [strksS, strkS, List.length_append, strksS_len r, List.length_cons]; show 2 + 4 + _ = _; omega
theorem strkB_r {s : Strk} (h : strkB s = true) : 0 ≤ s.width ∧ s.width < 65536 ∧ rgbaB s.color = true := by
  unfold strkB at h; simpa using h
theorem Put_loop2 {m : List Strk} (hm : m.length ≤ 15) (o1 : List UInt8) (o2 : Int) : ∀ (rest pre : List Strk) (s : List UInt8), m = pre ++ rest → (∀ x, x ∈ m → strkB x = true) → s.length + 6 * rest.length ≤ 440000000 →
    rW f_q178 [] at_q160 (S_q160 (m.map Strk.e) m.length pre.length s 0 o1 o2) = some ([.s (s ++ strksS rest), .i 0, .i 0], [])
  | [], pre, s, h, hb, hs => by
    rw [w_q160]
    simp only [el_end h, strksS, List.append_nil, zcf]
  | x :: rest, pre, s, h, hb, hs => by
    obtain ⟨h1, h2, h3, h4, h5⟩ := el_step Strk.e h (Nat.le_trans hm (by decide))
    obtain ⟨w0, w1, hc⟩ := strkB_r (hb x (by rw [h]; simp))
    simp only [List.length_cons] at hs
    have e := putK_c (s := s ++ twoS x.width) (by simp [twoS]; omega) 0 hc
    rw [w_q160]
    simp only [h1, h2, h3, h4, Strk.e, putLittle2_c (s := s) (by omega) 0 w0 w1, e, zcf]
    have := Put_loop2 hm o1 o2 rest _ (s ++ twoS x.width ++ rgbaS x.color) h5 hb (by simp [twoS, rgbaS]; omega)
    simpa [strksS, strkS] using this
theorem Put_loop {l : List Fill} {m : List Strk} (hl : l.length ≤ 15) (hm : m.length ≤ 15) (hf : ∀ x, x ∈ l → fillB x = true) (hb : ∀ x, x ∈ m → strkB x = true) (o1 : List UInt8) (o2 : Int) : ∀ (rest pre : List Fill) (s : List UInt8), l = pre ++ rest → s.length + 450 * rest.length ≤ 420000000 →
    rW f_q178 [] at_q159 (S_q159 (m.map Strk.e) (l.map Fill.e) l.length pre.length s 0 o1 o2) = some ([.s (s ++ (fillsS rest ++ (oneS m.length ++ strksS m))), .i 0, .i 0], [])
  | [], pre, s, h, hs => by
    have e := Put_loop2 hm o1 o2 m [] (s ++ oneS m.length) rfl hb (by simp [oneS]; omega)
    rw [w_q159]
    simp only [el_end h, byteOf_c (s := s) (by simp at hs; omega), zcf]
    simpa [fillsS] using e
  | x :: rest, pre, s, h, hs => by
    obtain ⟨h1, h2, h3, h4, h5⟩ := el_step Fill.e h (Nat.le_trans hl (by decide))
    have hx := hf x (by rw [h]; simp)
    have hxl := fillS_len hx
    simp only [List.length_cons] at hs
    have e := put_c hx (s := s) (by omega) 0
    rw [w_q159]
    simp only [Fill.e, List.cons_append, List.nil_append] at e
    simp only [h1, h2, h3, h4, Fill.e, e, zcf]
    have := Put_loop hl hm hf hb o1 o2 rest _ (s ++ fillS x) h5 (by simp; omega)
    simpa [fillsS] using this
theorem listsB_r {l : List Fill} {m : List Strk} (h : listsB l m = true) : l.length ≤ 15 ∧ m.length ≤ 15 ∧ (∀ x, x ∈ l → fillB x = true) ∧ (∀ x, x ∈ m → strkB x = true) := by
  unfold listsB at h
  simp only [Bool.and_eq_true, decide_eq_true_eq, List.all_eq_true] at h
  exact ⟨by omega, by omega, h.2.2.1, h.2.2.2⟩
def putListsF (s : List UInt8) (l : List Fill) (m : List Strk) : Res := bif listsB l m then ([.s (s ++ listsS l m), .i 0, .i 0], []) else ([.s [], .i 0, .i 1], [])
theorem Put_c {l : List Fill} {m : List Strk} (hl : l.length ≤ 2 ^ 40) (hm : m.length ≤ 2 ^ 40) (hs : Shorts l) {s : List UInt8} (hb : s.length ≤ 400000000) (fr : Int) : cW f_q178 [.s s, .i fr, .l (l.map Fill.e), .l (m.map Strk.e)] [] = some (putListsF s l m) := by
  rw [w_q178]
  simp only [right_c hl hm hs, byteOf_c (s := s) (by omega), zcf]
  unfold putListsF
  cases h : listsB l m with
  | false => rfl
  | true =>
    obtain ⟨h1, h2, h3, h4⟩ := listsB_r h
    have e := Put_loop h1 h2 h3 h4 [] 0 l [] (s ++ oneS l.length) rfl (by simp [oneS]; omega)
    simp only [zq16, zq6, zq5]
    simpa [listsS] using e
/-! ### the document's -/
theorem le40 {a b : Nat} (h : a + b ≤ 1099511627776) : decide ((a + b) ≤ 1099511627776) = true := decide_eq_true h
theorem qPut_loop4 {m : List Strk} (hm : m.length ≤ 15) : ∀ (rest pre : List Strk) (s : List UInt8), m = pre ++ rest → (∀ x, x ∈ m → strkB x = true) → s.length + 6 * rest.length ≤ 440000000 →
    rW f_q34 [] at_q98 (S_q98 s (m.map Strk.e) pre.length) = some ([.s (s ++ strksS rest)], [])
  | [], pre, s, h, hb, hs => by
    rw [w_q98]
    simp only [el_end h, strksS, List.append_nil, zcf]
  | x :: rest, pre, s, h, hb, hs => by
    obtain ⟨h1, h2, h3, h4, h5⟩ := el_step Strk.e h (Nat.le_trans hm (by decide))
    obtain ⟨w0, w1, hc⟩ := strkB_r (hb x (by rw [h]; simp))
    simp only [List.length_cons] at hs
    have e := qPutK_c (s := s ++ twoS x.width) (by simp [twoS]; omega) hc
    have k : decide (s.length + (twoS x.width).length ≤ 1099511627776) = true := le40 (by simp [twoS]; omega)
    rw [w_q98]
    simp only [h1, h2, h3, h4, Strk.e, two_c, e, k, zcf]
    have := qPut_loop4 hm rest _ (s ++ twoS x.width ++ rgbaS x.color) h5 hb (by simp [twoS, rgbaS]; omega)
    simpa [strksS, strkS] using this
theorem qPut_loop2 {L : List Fill} {m : List Strk} (i : Int) (f : Fill) (hl : f.stops.length ≤ 8) (r : Res) : ∀ (rest pre : List Stop) (s : List UInt8) (last : Int), f.stops = pre ++ rest → stopsB last rest = true → s.length + 5 * rest.length ≤ 440000000 →
    rW f_q34 [] at_q32 (S_q32 (s ++ stopsS rest) (L.map Fill.e) (m.map Strk.e) (IntKind.wrap .i64 (i + 1))) = some r →
    rW f_q34 [] at_q50 (S_q50 s (L.map Fill.e) (m.map Strk.e) i pre.length f.kind f.color.1 f.color.2.1 f.color.2.2.1 f.color.2.2.2 f.mat.1 f.mat.2.1 f.mat.2.2.1 f.mat.2.2.2.1 f.mat.2.2.2.2.1 f.mat.2.2.2.2.2 f.spread (f.stops.map Stop.e) f.id) = some r
  | [], pre, s, last, h, hb, hs, hr => by
    rw [w_q50]
    simp only [el_end h, zcf]
    simpa [stopsS] using hr
  | x :: rest, pre, s, last, h, hb, hs, hr => by
    obtain ⟨h1, h2, h3, h4, h5⟩ := el_step Stop.e h (Nat.le_trans hl (by decide))
    obtain ⟨hc, hb', _, _⟩ := stopsB_cons hb
    simp only [List.length_cons] at hs
    have e := qPutK_c (s := s ++ oneS x.ratio) (by simp [oneS]; omega) hc
    have k : decide (s.length + (oneS x.ratio).length ≤ 1099511627776) = true := le40 (by simp [oneS]; omega)
    rw [w_q50]
    simp only [h1, h2, h3, h4, Stop.e, one_c, e, k, zcf]
    exact qPut_loop2 i f hl r rest _ (s ++ oneS x.ratio ++ rgbaS x.color) x.ratio h5 hb' (by simp [oneS, rgbaS]; omega) (by simpa [stopsS] using hr)
theorem qPut_loop {l : List Fill} {m : List Strk} (hl : l.length ≤ 15) (hm : m.length ≤ 15) (hf : ∀ x, x ∈ l → fillB x = true) (hb : ∀ x, x ∈ m → strkB x = true) : ∀ (rest pre : List Fill) (s : List UInt8), l = pre ++ rest → s.length + 450 * rest.length ≤ 420000000 →
    rW f_q34 [] at_q32 (S_q32 s (l.map Fill.e) (m.map Strk.e) pre.length) = some ([.s (s ++ (fillsS rest ++ (oneS m.length ++ strksS m)))], [])
  | [], pre, s, h, hs => by
    have e := qPut_loop4 hm m [] (s ++ oneS m.length) rfl hb (by simp [oneS]; omega)
    have k : decide (s.length + (oneS m.length).length ≤ 1099511627776) = true := le40 (by simp [oneS]; omega)
    rw [w_q32]
    simp only [el_end h, one_c, k, zcf]
    simpa [fillsS] using e
  | x :: rest, pre, s, h, hs => by
    obtain ⟨h1, h2, h3, h4, h5⟩ := el_step Fill.e h (Nat.le_trans hl (by decide))
    have hx := hf x (by rw [h]; simp)
    have hxl := fillS_len hx
    simp only [List.length_cons] at hs
    have ih := qPut_loop hl hm hf hb rest _ (s ++ fillS x) h5 (by simp; omega)
    have k : decide (s.length + (oneS x.kind).length ≤ 1099511627776) = true := le40 (by simp [oneS]; omega)
    rw [w_q32]
    simp only [h1, h2, h3, h4, Fill.e, one_c, k, zcf]
    cases ks : kindS x.kind with
    | true =>
      have k0 : x.kind = 0 := by unfold kindS at ks; simpa using ks
      have ek := qPutK_c (s := s ++ oneS x.kind) (by simp [oneS]; omega) (fillB_solid hx ks).1
      have g1 : (x.kind == 0) = true := ks
      have g2 : decide (x.kind > 63) = false := by rw [k0]; rfl
      have g3 : (x.kind == 16) = false := by rw [k0]; rfl
      have g4 : (x.kind == 18) = false := by rw [k0]; rfl
      simp only [g1, g2, g3, g4, ek, Bool.or_self, zcf]
      have : s ++ oneS x.kind ++ rgbaS x.color = s ++ fillS x := by unfold fillS; rw [ks]; simp
      rw [this, ih]; simp [fillsS]
    | false =>
      have g1 : (x.kind == 0) = false := ks
      cases kp : kindP x.kind with
      | true =>
        obtain ⟨hm', h0, h6, _⟩ := fillB_pic hx ks kp
        have k0 : x.kind = 64 ∨ x.kind = 65 := by unfold kindP at kp; simpa using kp
        have g2 : decide (x.kind > 63) = true := by simp; omega
        have g3 : (x.kind == 16) = false := by simp; omega
        have g4 : (x.kind == 18) = false := by simp; omega
        have em := qPutMat_c (s := s ++ oneS x.kind ++ twoS x.id) (by simp [oneS, twoS]; omega) hm'
        have k2 : decide ((s ++ oneS x.kind).length + (twoS x.id).length ≤ 1099511627776) = true := le40 (by simp [oneS, twoS]; omega)
        simp only [g1, g2, g3, g4, two_c, em, k2, Bool.or_self, zcf]
        have : s ++ oneS x.kind ++ twoS x.id ++ matS x.mat = s ++ fillS x := by unfold fillS; rw [ks, kp]; simp
        rw [this, ih]; simp [fillsS]
      | false =>
        obtain ⟨kg, _, hsb, hm', h0, h6, _, h8⟩ := fillB_grad hx ks kp
        have k0 : x.kind = 16 ∨ x.kind = 18 := by unfold kindG at kg; simpa using kg
        have g2 : decide (x.kind > 63) = false := by simp; omega
        have g3 : ((x.kind == 16) || (x.kind == 18)) = true := kg
        have hml := matS_len hm'
        have em := qPutMat_c (s := s ++ oneS x.kind) (by simp [oneS]; omega) hm'
        have k2 : decide ((s ++ oneS x.kind ++ matS x.mat).length + (oneS (64 * x.spread + x.stops.length)).length ≤ 1099511627776) = true := le40 (by simp [oneS]; omega)
        have hw : IntKind.wrap .i64 ((IntKind.wrap .i64 (64 * x.spread)) + ((x.stops.length : Nat) : Int)) = 64 * x.spread + x.stops.length := by rw [wrap64 (n := 64 * x.spread) (by omega) (by omega), wrap64 (by omega) (by omega)]
        simp only [g1, g2, g3, em, hw, k2, zcf]
        have e := qPut_loop2 (L := l) (m := m) pre.length x h8 _ x.stops [] (s ++ oneS x.kind ++ matS x.mat ++ oneS (64 * x.spread + x.stops.length)) 0 rfl hsb (by simp [oneS]; omega) (by
          rw [h4]
          have : s ++ oneS x.kind ++ matS x.mat ++ oneS (64 * x.spread + x.stops.length) ++ stopsS x.stops = s ++ fillS x := by unfold fillS; rw [ks, kp]; simp
          rw [this]; exact ih)
        simpa [fillsS] using e
theorem qPut_c {l : List Fill} {m : List Strk} (hb : listsB l m = true) {s : List UInt8} (hs : s.length ≤ 400000000) : cW f_q34 [.s s, .l (l.map Fill.e), .l (m.map Strk.e)] [] = some ([.s (s ++ listsS l m)], []) := by
  obtain ⟨h1, h2, h3, h4⟩ := listsB_r hb
  have k : decide (s.length + (oneS l.length).length ≤ 1099511627776) = true := le40 (by simp [oneS]; omega)
  have e := qPut_loop h1 h2 h3 h4 l [] (s ++ oneS l.length) rfl (by simp [oneS]; omega)
  rw [w_q34]
  simp only [one_c, k, zcf]
  simpa [listsS] using e
end Go.AI
set_option linter.unusedVariables false
set_option linter.unusedSimpArgs false
set_option maxRecDepth 100000
namespace Go.AI
open Go Go.Proofs

/-- a reader between what stands ahead of it, and behind -/
def rdAt (s t : List UInt8) : Rs := (s ++ t, ((8 * s.length : Nat) : Int), 0)
theorem rdAt_assoc (s t u : List UInt8) : ((s ++ (t ++ u), ((8 * (s ++ t).length : Nat) : Int), 0) : Rs) = rdAt (s ++ t) u := by unfold rdAt; rw [List.append_assoc]
theorem right_at (s t : List UInt8) : rightB (s ++ t) ((8 * s.length : Nat) : Int) = true := rightB_iff.2 ⟨by omega, by simp; omega⟩
theorem bytes_back (s t u : List UInt8) : bytesF (s ++ (t ++ u)) ((8 * s.length : Nat) : Int) t.length = (t, rdAt (s ++ t) u) := by
  unfold bytesF
  rw [if_neg (ng2 (right_at s (t ++ u)) (by omega)), if_neg (by simp; omega)]
  have e1 : ((((8 * s.length : Nat) : Int) + 7) / 8).toNat = s.length := by omega
  rw [e1, List.drop_left, Int.toNat_natCast, List.take_left]
  rw [← rdAt_assoc]
  congr 3
  simp; omega
theorem lit1_back {n : Int} (h0 : 0 ≤ n) (h1 : n < 256) (s t : List UInt8) : lit (rdAt s (oneS n ++ t)) 1 = (n, rdAt (s ++ oneS n) t) := by
  have e := bytes_back s (oneS n) t
  unfold lit rdAt
  rw [if_neg (by simp)]
  unfold littleF
  rw [if_neg (by decide)]
  rw [show (1 : Int) = (((oneS n).length : Nat) : Int) from rfl, e]
  refine Prod.ext ?_ rfl
  show (((UInt8.ofNat (n % 256).toNat).toNat + 256 * 0 : Nat) : Int) = n
  rw [byte_nat _ (by omega)]; omega
theorem lit2_back {n : Int} (h0 : 0 ≤ n) (h1 : n < 65536) (s t : List UInt8) : lit (rdAt s (twoS n ++ t)) 2 = (n, rdAt (s ++ twoS n) t) := by
  have e := bytes_back s (twoS n) t
  unfold lit rdAt
  rw [if_neg (by simp)]
  unfold littleF
  rw [if_neg (by decide)]
  rw [show (2 : Int) = (((twoS n).length : Nat) : Int) from rfl, e]
  refine Prod.ext ?_ rfl
  have e1 : Int.tmod n 256 = n % 256 := Int.tmod_eq_emod_of_nonneg h0
  have e2 : IntKind.wrap .i64 (Int.tdiv n 256) = n / 256 := by rw [Int.tdiv_eq_ediv_of_nonneg h0, wrap64 (by omega) (by omega)]
  show (((UInt8.ofNat (Int.tmod n 256 % 256).toNat).toNat + 256 * ((UInt8.ofNat (IntKind.wrap .i64 (Int.tdiv n 256) % 256).toNat).toNat + 256 * 0) : Nat) : Int) = n
  rw [e1, e2, byte_nat _ (by omega), byte_nat _ (by omega)]; omega
theorem col_back {c : I4} (h : rgbaB c = true) (s t : List UInt8) : col (rdAt s (rgbaS c ++ t)) = (c, rdAt (s ++ rgbaS c) t) := by
  unfold col rdAt
  rw [if_neg (by simp)]
  have := k_back (s := s) (t := t) h
  rw [List.append_assoc] at this
  dsimp only
  rw [this, List.append_assoc]
theorem mt_back {m : Mat} (h : mB m = true) (s t : List UInt8) : mt (rdAt s (matS m ++ t)) = (m, rdAt (s ++ matS m) t) := by
  unfold mt rdAt
  rw [if_neg (by simp)]
  have hm : (matW m.1 m.2.1 m.2.2.1 m.2.2.2.1 m.2.2.2.2.1 m.2.2.2.2.2 (s, 0)).1 = s ++ matS m := mat_behind s _ _ _ _ _ _
  have he : WExt (matW m.1 m.2.1 m.2.2.1 m.2.2.2.1 m.2.2.2.2.1 m.2.2.2.2.2 (s, 0)) (s ++ (matS m ++ t), 0) := by
    have := append_ext (s ++ matS m) t (matW m.1 m.2.1 m.2.2.1 m.2.2.2.1 m.2.2.2.2.1 m.2.2.2.2.2 (s, 0)).2
    rw [List.append_assoc, ← hm] at this
    exact this
  have hb := begin_back (W := (s ++ (matS m ++ t), 0)) (s := s) (append_ext s (matS m ++ t) 0)
  dsimp only at hb ⊢
  rw [hb, mat_back (ok_zero s) h he, hm, List.append_assoc]
theorem stops_back : ∀ (l : List Stop) (last : Int), 0 ≤ last → stopsB last l = true → ∀ s t : List UInt8, stopsP l.length last (rdAt s (stopsS l ++ t)) = (l, rdAt (s ++ stopsS l) t)
  | [], last, _, _, s, t => by simp [stopsP, stopsS]
  | x :: l, last, h0, h, s, t => by
    obtain ⟨hc, hr, h1, h2⟩ := stopsB_cons h
    have e1 := lit1_back (n := x.ratio) (by omega) (by omega) s (rgbaS x.color ++ (stopsS l ++ t))
    have e2 := col_back hc (s ++ oneS x.ratio) (stopsS l ++ t)
    have e3 := stops_back l x.ratio (by omega) hr (s ++ oneS x.ratio ++ rgbaS x.color) t
    have e : stop1 last (rdAt s (stopsS (x :: l) ++ t)) = (x, rdAt (s ++ oneS x.ratio ++ rgbaS x.color) (stopsS l ++ t)) := by
      unfold stop1
      simp only [stopsS, List.append_assoc] at e1 e2 ⊢
      rw [e1]
      simp only [decide_eq_false (p := x.ratio < last) (by omega), zq10, zq6]
      rw [e2]
    unfold stopsP
    simp only [List.length_cons]
    rw [e]
    dsimp only
    rw [e3]
    simp [stopsS]
theorem fill_back {f : Fill} (h : fillB f = true) (s t : List UInt8) : fillP (rdAt s (fillS f ++ t)) = (f, rdAt (s ++ fillS f) t) := by
  have k0 : 0 ≤ f.kind ∧ f.kind < 256 := by
    cases k : kindS f.kind with
    | true => unfold kindS at k; simp only [beq_iff_eq] at k; omega
    | false =>
      cases k' : kindP f.kind with
      | true => unfold kindP at k'; simp only [Bool.or_eq_true, beq_iff_eq] at k'; omega
      | false => have := (fillB_grad h k k').1; unfold kindG at this; simp only [Bool.or_eq_true, beq_iff_eq] at this; omega
  unfold fillP
  cases k : kindS f.kind with
  | true =>
    obtain ⟨hc, hf⟩ := fillB_solid h k
    have e0 : fillS f = oneS f.kind ++ rgbaS f.color := by unfold fillS; rw [k]; rfl
    have e1 := lit1_back k0.1 k0.2 s (rgbaS f.color ++ t)
    have e2 := col_back hc (s ++ oneS f.kind) t
    rw [e0, List.append_assoc, e1]
    dsimp only
    rw [k, cond_true, e2, List.append_assoc]
    have : (⟨f.kind, f.color, (0, 0, 0, 0, 0, 0), 0, [], 0⟩ : Fill) = f := by rw [show f.kind = 0 by rw [hf]]; exact hf.symm
    simp only [this]
  | false =>
    cases k' : kindP f.kind with
    | true =>
      obtain ⟨hm, h1, h2, hf⟩ := fillB_pic h k k'
      have e0 : fillS f = oneS f.kind ++ (twoS f.id ++ matS f.mat) := by unfold fillS; rw [k, k']; rfl
      have e1 := lit1_back k0.1 k0.2 s (twoS f.id ++ (matS f.mat ++ t))
      have e2 := lit2_back h1 h2 (s ++ oneS f.kind) (matS f.mat ++ t)
      have e3 := mt_back hm (s ++ oneS f.kind ++ twoS f.id) t
      rw [e0]
      simp only [List.append_assoc] at e1 e2 e3 ⊢
      rw [e1]
      dsimp only
      rw [k, cond_false, k', cond_true, e2]
      dsimp only
      rw [e3]
      have : (⟨f.kind, (0, 0, 0, 0), f.mat, 0, [], f.id⟩ : Fill) = f := hf.symm
      simp only [this]
    | false =>
      obtain ⟨kg, hf, hs, hm, h1, h2, h3, h4⟩ := fillB_grad h k k'
      have e0 : fillS f = oneS f.kind ++ (matS f.mat ++ (oneS (64 * f.spread + f.stops.length) ++ stopsS f.stops)) := by unfold fillS; rw [k, k']; rfl
      have e1 := lit1_back k0.1 k0.2 s (matS f.mat ++ (oneS (64 * f.spread + f.stops.length) ++ (stopsS f.stops ++ t)))
      have e2 := mt_back hm (s ++ oneS f.kind) (oneS (64 * f.spread + f.stops.length) ++ (stopsS f.stops ++ t))
      have e3 := lit1_back (n := 64 * f.spread + f.stops.length) (by omega) (by omega) (s ++ oneS f.kind ++ matS f.mat) (stopsS f.stops ++ t)
      have e4 := stops_back f.stops 0 (by omega) hs (s ++ oneS f.kind ++ matS f.mat ++ oneS (64 * f.spread + f.stops.length)) t
      have hb : badN (64 * f.spread + f.stops.length) = false := by
        unfold badN
        simp only [Bool.or_eq_false_iff, decide_eq_false_iff_not, beq_eq_false_iff_ne]
        omega
      rw [e0]
      simp only [List.append_assoc] at e1 e2 e3 e4 ⊢
      rw [e1]
      dsimp only
      rw [k, cond_false, k', cond_false, kg, cond_true, e2]
      dsimp only
      unfold gradS
      rw [e3]
      dsimp only
      rw [hb, Bool.and_false, cond_false, show ((64 * f.spread + (f.stops.length : Int)) % 16).toNat = f.stops.length by omega, show (64 * f.spread + (f.stops.length : Int)) / 64 = f.spread by omega, e4]
      have : (⟨f.kind, (0, 0, 0, 0), f.mat, f.spread, f.stops, 0⟩ : Fill) = f := hf.symm
      simp only [this]
theorem fills_back : ∀ (l : List Fill), (∀ f, f ∈ l → fillB f = true) → ∀ s t : List UInt8, fillsP l.length (rdAt s (fillsS l ++ t)) = (l, rdAt (s ++ fillsS l) t)
  | [], _, s, t => by simp [fillsP, fillsS]
  | f :: l, h, s, t => by
    have e1 := fill_back (h f (by simp)) s (fillsS l ++ t)
    have e2 := fills_back l (fun g hg => h g (by simp [hg])) (s ++ fillS f) t
    simp only [fillsS, List.length_cons, fillsP, List.append_assoc] at e1 e2 ⊢
    rw [e1]
    dsimp only
    rw [e2]
theorem strks_back : ∀ (l : List Strk), (∀ f, f ∈ l → strkB f = true) → ∀ s t : List UInt8, strksP l.length (rdAt s (strksS l ++ t)) = (l, rdAt (s ++ strksS l) t)
  | [], _, s, t => by simp [strksP, strksS]
  | f :: l, h, s, t => by
    obtain ⟨w0, w1, hc⟩ := strkB_r (h f (by simp))
    have e0 := lit2_back w0 w1 s (rgbaS f.color ++ (strksS l ++ t))
    have e1 := col_back hc (s ++ twoS f.width) (strksS l ++ t)
    have e2 := strks_back l (fun g hg => h g (by simp [hg])) (s ++ twoS f.width ++ rgbaS f.color) t
    simp only [strksS, strkS, List.length_cons, strksP, strkP, List.append_assoc] at e0 e1 e2 ⊢
    rw [e0]
    dsimp only
    rw [e1]
    dsimp only
    rw [e2]
theorem many_back {n : Nat} (h : n ≤ 15) (s t : List UInt8) : manyP (rdAt s (oneS n ++ t)) = ((n : Int), rdAt (s ++ oneS n) t) := by
  unfold manyP
  rw [lit1_back (n := (n : Int)) (by omega) (by omega)]
  rw [decide_eq_false (by show ¬ ((n : Int) > 15); omega)]; rfl
theorem lists_back {l : List Fill} {m : List Strk} (h : listsB l m = true) (s t : List UInt8) : listsP (rdAt s (listsS l m ++ t)) = (l, m, rdAt (s ++ listsS l m) t) := by
  obtain ⟨h1, h2, h3, h4⟩ := listsB_r h
  have e1 := many_back h1 s (fillsS l ++ (oneS m.length ++ (strksS m ++ t)))
  have e2 := fills_back l h3 (s ++ oneS l.length) (oneS m.length ++ (strksS m ++ t))
  have e3 := many_back h2 (s ++ oneS l.length ++ fillsS l) (strksS m ++ t)
  have e4 := strks_back m h4 (s ++ oneS l.length ++ fillsS l ++ oneS m.length) t
  unfold listsP
  simp only [listsS, List.append_assoc] at e1 e2 e3 e4 ⊢
  rw [e1]
  dsimp only
  rw [Int.toNat_natCast, e2]
  dsimp only
  rw [e3]
  dsimp only
  rw [Int.toNat_natCast, e4]
theorem takeF_back {l : List Fill} {m : List Strk} (h : listsB l m = true) (s t : List UInt8) : takeF (s ++ (listsS l m ++ t)) ((8 * s.length : Nat) : Int) = (l, m, rdAt (s ++ listsS l m) t) := by
  have e := lists_back h s t
  unfold takeF
  rw [show ((s ++ (listsS l m ++ t), ((8 * s.length : Nat) : Int), 0) : Rs) = rdAt s (listsS l m ++ t) from rfl, e]
  unfold finT
  rw [if_neg (by unfold rdAt; simp)]
end Go.AI
set_option linter.unusedVariables false
set_option linter.unusedSimpArgs false
set_option maxRecDepth 100000
namespace Go.AI
open Go Go.Proofs

/-- a reader that went on, over so many bytes at least -/
def Val (σ τ : Rs) (k : Nat) : Prop := σ.2.2 = 0 ∧ ∃ p q : Nat, σ.2.1 = p ∧ τ = (σ.1, (q : Int), 0) ∧ 8 * k + p ≤ q
theorem Val.trans {σ τ ρ : Rs} {k j : Nat} (h : Val σ τ k) (h' : Val τ ρ j) : Val σ ρ (k + j) := by
  obtain ⟨e, p, q, hp, rfl, hk⟩ := h
  obtain ⟨e', p', q', hp', rfl, hj⟩ := h'
  have : ((q : Nat) : Int) = ((p' : Nat) : Int) := hp'
  exact ⟨e, p, q', hp, rfl, by omega⟩
theorem Val.ok {σ τ : Rs} {k : Nat} (h : Val σ τ k) : τ.2.2 = 0 := by obtain ⟨_, _, _, _, rfl, _⟩ := h; rfl
theorem Val.ok0 {σ τ : Rs} {k : Nat} (h : Val σ τ k) : σ.2.2 = 0 := h.1
theorem lit_valn {σ : Rs} {n : Nat} (h : (lit σ n).2.2.2 = 0) : Val σ (lit σ n).2 n := by
  have he : σ.2.2 = 0 := by
    by_cases he : σ.2.2 = 0
    · exact he
    · rw [lit_err he] at h; exact absurd h he
  unfold lit at *
  rw [if_neg (by simp [he])] at *
  unfold littleF at *
  split at h
  · cases h
  · rename_i hn
    rw [if_neg hn]
    rcases bytesF_cases σ.1 σ.2.1 n with e | e | ⟨a', n', ha, hn', _, _, e⟩ <;> rw [e] at h ⊢
    · cases h
    · cases h
    · have : n = n' := by omega
      subst this
      exact ⟨he, a', _, ha, rfl, by omega⟩
theorem byte_rng (b : UInt8) : inB2 0 255 ((b.toNat : Nat) : Int) = true := by
  have : b.toNat < 256 := UInt8.toNat_lt _
  unfold inB2; simp; omega
theorem col_valn {σ : Rs} (h : (col σ).2.2.2 = 0) : Val σ (col σ).2 4 ∧ rgbaB (col σ).1 = true := by
  have he : σ.2.2 = 0 := by
    by_cases he : σ.2.2 = 0
    · exact he
    · rw [col_err he] at h; exact absurd h he
  unfold col at *
  rw [if_neg (by simp [he])] at *
  unfold takeKF at *
  rcases bytesF_cases σ.1 σ.2.1 4 with e | e | ⟨a', n', ha, hn', _, _, e⟩ <;> rw [e] at h ⊢
  · cases h
  · cases h
  · dsimp only at h ⊢
    rw [if_neg (by simp)]
    refine ⟨⟨he, a', _, ha, rfl, by omega⟩, ?_⟩
    unfold rgbaB I4.l
    simp only [List.all_cons, List.all_nil, byte_rng, Bool.and_self]
theorem mt_valn {σ : Rs} (h : (mt σ).2.2.2 = 0) : Val σ (mt σ).2 (matS (mt σ).1).length ∧ mB (mt σ).1 = true := by
  have he : σ.2.2 = 0 := by
    by_cases he : σ.2.2 = 0
    · exact he
    · rw [mt_err he] at h; exact absurd h he
  unfold mt at *
  rw [if_neg (by simp [he])] at *
  by_cases hr : rightB σ.1 σ.2.1 = true
  · obtain ⟨a, b, c, d, x, y, P, e1, e2, e3, e4, e5⟩ := mat_val h
    rw [e1, e5]
    obtain ⟨r0, r1⟩ := rightB_iff.1 hr
    have hb : (beginP σ.1 σ.2.1).2.1 = (σ.2.1 + 7) / 8 * 8 := by unfold beginP alignF; rw [if_pos hr]
    have hb1 : (beginP σ.1 σ.2.1).1 = σ.1 := rfl
    rw [hb] at e3
    rw [hb1] at e4 ⊢
    have hal : alignF σ.1 P = (P + 7) / 8 * 8 := by unfold alignF; rw [if_pos (rightB_iff.2 ⟨by omega, e4⟩)]
    obtain ⟨l1, l2⟩ := (matW_ok a b c d x y ([], 0) (ok_zero [])).1.len
    refine ⟨⟨he, σ.2.1.toNat, ((P + 7) / 8 * 8).toNat, by omega, by rw [hal, Int.toNat_of_nonneg (by omega)], ?_⟩, e2⟩
    show 8 * (matW a b c d x y ([], 0)).1.length + _ ≤ _
    omega
  · have hbe : (beginP σ.1 σ.2.1).2.2 ≠ 0 := by rw [beginP_err hr]; decide
    rw [mat_err hbe] at h
    exact absurd h hbe
theorem failR_ne {σ : Rs} {e : Int} (he : e ≠ 0) : (failR σ e).2.2 ≠ 0 := by
  unfold failR
  split
  · exact he
  · assumption
theorem stop1_valn {last : Int} {σ : Rs} (h : (stop1 last σ).2.2.2 = 0) : Val σ (stop1 last σ).2 5 ∧ stopB (stop1 last σ).1 last = true := by
  unfold stop1 at *
  dsimp only at *
  cases hc : ((lit σ 1).2.2.2 == 0) && decide ((lit σ 1).1 < last) with
  | true =>
    rw [hc, cond_true, col_err (failR_ne (by decide))] at h
    exact absurd h (failR_ne (by decide))
  | false =>
    rw [hc, cond_false] at h
    simp only [zq6]
    obtain ⟨v, hk⟩ := col_valn h
    have v1 := lit_valn (n := 1) v.ok0
    refine ⟨v1.trans v, ?_⟩
    have z := v.ok0
    rw [show ((lit σ 1).2.2.2 == 0) = true by simpa using z, Bool.true_and, decide_eq_false_iff_not] at hc
    have := lit1_lt σ
    unfold stopB
    simp only [hk, zq8, Bool.and_eq_true, decide_eq_true_eq]
    exact ⟨by omega, by omega⟩
theorem stopsP_valn : ∀ (n : Nat) (last : Int) (σ : Rs) (p : Nat), σ.2.1 = p → (stopsP n last σ).2.2.2 = 0 → Val σ (stopsP n last σ).2 (stopsS (stopsP n last σ).1).length ∧ stopsB last (stopsP n last σ).1 = true
  | 0, last, σ, p, hp, h => ⟨⟨h, p, p, hp, by rw [← hp, ← h]; rfl, by show 8 * 0 + p ≤ p; omega⟩, rfl⟩
  | n + 1, last, σ, p, hp, h => by
    have h : (stopsP n (stop1 last σ).1.ratio (stop1 last σ).2).2.2.2 = 0 := h
    have h1 : (stop1 last σ).2.2.2 = 0 := by
      by_cases h1 : (stop1 last σ).2.2.2 = 0
      · exact h1
      · rw [stopsP_err n h1] at h; exact h
    obtain ⟨v, hb⟩ := stop1_valn h1
    obtain ⟨_, _, q, _, e, _⟩ := id v
    obtain ⟨v2, hb2⟩ := stopsP_valn n (stop1 last σ).1.ratio (stop1 last σ).2 q (by rw [e]) h
    refine ⟨?_, ?_⟩
    · have := v.trans v2
      show Val σ _ (stopsS ((stop1 last σ).1 :: _)).length
      rw [stopsS_len] at this ⊢
      rwa [List.length_cons, show 5 * ((stopsP n (stop1 last σ).1.ratio (stop1 last σ).2).1.length + 1) = 5 + 5 * (stopsP n (stop1 last σ).1.ratio (stop1 last σ).2).1.length by omega]
    · show stopsB last ((stop1 last σ).1 :: _) = true
      unfold stopsB
      rw [hb, hb2]; rfl
theorem gradS_valn {σ : Rs} (h : (gradS σ).2.2 = 0) : Val σ (gradS σ) 1 ∧ badN (lit σ 1).1 = false ∧ gradS σ = (lit σ 1).2 := by
  unfold gradS at *
  cases hc : ((lit σ 1).2.2.2 == 0) && badN (lit σ 1).1 with
  | true =>
    rw [hc, cond_true] at h
    exact absurd h (failR_ne (by decide))
  | false =>
    rw [hc, cond_false] at h
    simp only [zq6]
    rw [show ((lit σ 1).2.2.2 == 0) = true by simpa using h, Bool.true_and] at hc
    exact ⟨lit_valn (n := 1) h, hc, trivial⟩
theorem Val.pos {σ τ : Rs} {k : Nat} (h : Val σ τ k) : ∃ q : Nat, τ.2.1 = q := by obtain ⟨_, _, q, _, rfl, _⟩ := h; exact ⟨q, rfl⟩
theorem lit2_lt (σ : Rs) : (lit σ 2).1 < 65536 := by
  unfold lit littleF
  split
  · show (0 : Int) < 65536; decide
  · rw [if_neg (by decide)]
    have h := littleN_lt (bytesF σ.1 σ.2.1 2).1
    have hl : (bytesF σ.1 σ.2.1 2).1.length ≤ 2 := by
      rcases bytesF_cases σ.1 σ.2.1 2 with e | e | ⟨_, n', _, hn, _, _, e⟩ <;> rw [e]
      · exact Nat.zero_le _
      · exact Nat.zero_le _
      · simp; omega
    have : 256 ^ (bytesF σ.1 σ.2.1 2).1.length ≤ 256 ^ 2 := Nat.pow_le_pow_right (by decide) hl
    have e1 : 256 ^ 2 = 65536 := rfl
    simp only
    omega
theorem fillP_valn {σ : Rs} (h : (fillP σ).2.2.2 = 0) : Val σ (fillP σ).2 (fillS (fillP σ).1).length ∧ fillB (fillP σ).1 = true := by
  unfold fillP at *
  dsimp only at *
  cases ks : kindS (lit σ 1).1 with
  | true =>
    rw [ks, cond_true] at h
    simp only [zq5]
    obtain ⟨v, hc⟩ := col_valn h
    have v1 := lit_valn (n := 1) v.ok0
    have k0 : (lit σ 1).1 = 0 := by unfold kindS at ks; simpa using ks
    refine ⟨?_, ?_⟩
    · have := v1.trans v
      unfold fillS
      simp only [ks, zq5]
      exact this
    · unfold fillB
      simp only [k0]
      rw [show kindS 0 = true from rfl, cond_true, hc]; simp
  | false =>
    rw [ks, cond_false] at h
    simp only [zq6]
    cases kp : kindP (lit σ 1).1 with
    | true =>
      rw [kp, cond_true] at h
      simp only [zq5]
      obtain ⟨v, hm⟩ := mt_valn h
      have v2 := lit_valn (n := 2) v.ok0
      have v1 := lit_valn (n := 1) v2.ok0
      refine ⟨?_, ?_⟩
      · have := (v1.trans v2).trans v
        unfold fillS
        simp only [ks, kp, zq5, zq6]
        rw [List.length_append, List.length_append]
        rwa [show (oneS (lit σ 1).1).length + ((twoS (lit (lit σ 1).2 2).1).length + (matS (mt (lit (lit σ 1).2 2).2).1).length) = 1 + 2 + (matS (mt (lit (lit σ 1).2 2).2).1).length by show 1 + (2 + _) = _; omega]
      · have n0 := lit_pos (lit σ 1).2 2
        have n1 := lit2_lt (lit σ 1).2
        unfold fillB
        simp only [ks, kp, zq5, zq6, hm, decide_true, zq8, zq9, Bool.and_eq_true, decide_eq_true_eq]
        exact ⟨n0, n1⟩
    | false =>
      rw [kp, cond_false] at h
      simp only [zq6]
      cases kg : kindG (lit σ 1).1 with
      | false =>
        rw [kg, cond_false] at h
        exact absurd h (failR_ne (by decide))
      | true =>
        rw [kg, cond_true] at h
        simp only [zq5]
        have hg : (gradS (mt (lit σ 1).2).2).2.2 = 0 := by
          by_cases hg : (gradS (mt (lit σ 1).2).2).2.2 = 0
          · exact hg
          · rw [stopsP_err _ hg] at h; exact h
        obtain ⟨v3, hb, _⟩ := gradS_valn hg
        obtain ⟨q, hq⟩ := v3.pos
        obtain ⟨v4, hs⟩ := stopsP_valn _ 0 _ q hq h
        obtain ⟨v2, hm⟩ := mt_valn v3.ok0
        have v1 := lit_valn (n := 1) v2.ok0
        have n0 := lit_pos (mt (lit σ 1).2).2 1
        have n1 := lit1_lt (mt (lit σ 1).2).2
        have hn := stopsP_n ((lit (mt (lit σ 1).2).2 1).1 % 16).toNat 0 (gradS (mt (lit σ 1).2).2)
        refine ⟨?_, ?_⟩
        · have := ((v1.trans v2).trans v3).trans v4
          unfold fillS
          simp only [ks, kp, zq6]
          rw [List.length_append, List.length_append, List.length_append]
          generalize (stopsS (stopsP ((lit (mt (lit σ 1).2).2 1).1 % 16).toNat 0 (gradS (mt (lit σ 1).2).2)).1).length = B at this ⊢
          rwa [show ∀ a : Int, (oneS (lit σ 1).1).length + ((matS (mt (lit σ 1).2).1).length + ((oneS a).length + B)) = 1 + (matS (mt (lit σ 1).2).1).length + 1 + B by intro a; show 1 + (_ + (1 + _)) = _; omega]
        · unfold badN at hb
          simp only [Bool.or_eq_false_iff, decide_eq_false_iff_not, beq_eq_false_iff_ne] at hb
          unfold fillB gradB
          simp only [ks, kp, kg, zq6, zq5, decide_true, zq8, hs, hm, hn, zq9, Bool.and_eq_true, decide_eq_true_eq]
          exact ⟨by omega, by omega, by omega, by omega⟩
theorem fillsP_valn : ∀ (n : Nat) (σ : Rs) (p : Nat), σ.2.1 = p → (fillsP n σ).2.2.2 = 0 → Val σ (fillsP n σ).2 (fillsS (fillsP n σ).1).length ∧ (fillsP n σ).1.all fillB = true
  | 0, σ, p, hp, h => ⟨⟨h, p, p, hp, by rw [← hp, ← h]; rfl, by show 8 * 0 + p ≤ p; omega⟩, rfl⟩
  | n + 1, σ, p, hp, h => by
    have h : (fillsP n (fillP σ).2).2.2.2 = 0 := h
    have h1 : (fillP σ).2.2.2 = 0 := by
      by_cases h1 : (fillP σ).2.2.2 = 0
      · exact h1
      · rw [fillsP_err n h1] at h; exact h
    obtain ⟨v, hb⟩ := fillP_valn h1
    obtain ⟨q, hq⟩ := v.pos
    obtain ⟨v2, hb2⟩ := fillsP_valn n (fillP σ).2 q hq h
    refine ⟨?_, ?_⟩
    · have := v.trans v2
      show Val σ _ (fillsS ((fillP σ).1 :: _)).length
      unfold fillsS
      rw [List.length_append]; exact this
    · show List.all ((fillP σ).1 :: _) fillB = true
      rw [List.all_cons, hb, hb2]; rfl
theorem strkP_valn {σ : Rs} (h : (strkP σ).2.2.2 = 0) : Val σ (strkP σ).2 6 ∧ strkB (strkP σ).1 = true := by
  obtain ⟨v, hc⟩ := col_valn h
  have v1 := lit_valn (n := 2) v.ok0
  refine ⟨v1.trans v, ?_⟩
  have n0 := lit_pos σ 2
  have n1 := lit2_lt σ
  unfold strkB strkP
  simp only [hc, zq8, Bool.and_eq_true, decide_eq_true_eq]
  exact ⟨n0, n1⟩
theorem strksP_valn : ∀ (n : Nat) (σ : Rs) (p : Nat), σ.2.1 = p → (strksP n σ).2.2.2 = 0 → Val σ (strksP n σ).2 (strksS (strksP n σ).1).length ∧ (strksP n σ).1.all strkB = true
  | 0, σ, p, hp, h => ⟨⟨h, p, p, hp, by rw [← hp, ← h]; rfl, by show 8 * 0 + p ≤ p; omega⟩, rfl⟩
  | n + 1, σ, p, hp, h => by
    have h : (strksP n (strkP σ).2).2.2.2 = 0 := h
    have h1 : (strkP σ).2.2.2 = 0 := by
      by_cases h1 : (strkP σ).2.2.2 = 0
      · exact h1
      · rw [strksP_err n h1] at h; exact h
    obtain ⟨v, hb⟩ := strkP_valn h1
    obtain ⟨q, hq⟩ := v.pos
    obtain ⟨v2, hb2⟩ := strksP_valn n (strkP σ).2 q hq h
    refine ⟨?_, ?_⟩
    · have := v.trans v2
      show Val σ _ (strksS ((strkP σ).1 :: _)).length
      unfold strksS
      rw [List.length_append]; exact this
    · show List.all ((strkP σ).1 :: _) strkB = true
      rw [List.all_cons, hb, hb2]; rfl
theorem manyP_valn {σ : Rs} (h : (manyP σ).2.2.2 = 0) : Val σ (manyP σ).2 1 := by
  unfold manyP at *
  cases hc : decide ((lit σ 1).1 > 15) with
  | true => rw [hc, cond_true] at h; exact absurd h (failR_ne (by decide))
  | false =>
    rw [hc, cond_false] at h
    simp only [zq6]
    exact lit_valn (n := 1) h
/-- THE STAGE'S THEOREM, without the document: lists that are taken are right, and stand in bytes enough -/
theorem lists_val {σ : Rs} (h : (listsP σ).2.2.2.2 = 0) : Val σ (listsP σ).2.2 (listsS (listsP σ).1 (listsP σ).2.1).length ∧ listsB (listsP σ).1 (listsP σ).2.1 = true := by
  unfold listsP at *
  dsimp only at *
  have a3 : (manyP (fillsP (manyP σ).1.toNat (manyP σ).2).2).2.2.2 = 0 := by
    by_cases a : (manyP (fillsP (manyP σ).1.toNat (manyP σ).2).2).2.2.2 = 0
    · exact a
    · rw [strksP_err _ a] at h; exact h
  have v3 := manyP_valn a3
  have a1 : (manyP σ).2.2.2 = 0 := by
    by_cases a : (manyP σ).2.2.2 = 0
    · exact a
    · have := v3.ok0; rw [fillsP_err _ a] at this; exact this
  have v1 := manyP_valn a1
  obtain ⟨q, hq⟩ := v1.pos
  obtain ⟨v2, b2⟩ := fillsP_valn _ _ q hq v3.ok0
  obtain ⟨r, hr⟩ := v3.pos
  obtain ⟨v4, b4⟩ := strksP_valn _ _ r hr h
  obtain ⟨m0, m1⟩ := many_bound σ
  obtain ⟨k0, k1⟩ := many_bound (fillsP (manyP σ).1.toNat (manyP σ).2).2
  have n1 := (fillsP_n (manyP σ).1.toNat (manyP σ).2).1
  have n2 := strksP_n (manyP (fillsP (manyP σ).1.toNat (manyP σ).2).2).1.toNat (manyP (fillsP (manyP σ).1.toNat (manyP σ).2).2).2
  refine ⟨?_, ?_⟩
  · have := ((v1.trans v2).trans v3).trans v4
    unfold listsS
    rw [List.length_append, List.length_append, List.length_append]
    refine cast ?_ this
    congr 1
    show 1 + _ + 1 + _ = 1 + (_ + (1 + _))
    omega
  · unfold listsB
    rw [b2, b4, n1, n2]
    simp; omega
end Go.AI
set_option linter.unusedVariables false
set_option linter.unusedSimpArgs false
set_option maxRecDepth 100000
namespace Go.AI
open Go Go.Proofs

theorem mem_shorts {l : List Fill} (h : ∀ f, f ∈ l → f.stops.length ≤ 20) : Shorts l := fun f hf => Nat.le_trans (h f hf) (by decide)
end Go.AI
