/- Fills and lines: what is the same, what is right. -/
import Derived.Test.YtkclfiliefadlaaGreatU08
import Derived.Test.YtkclfiliefadlaaGreatW
import Derived.Test.YtkclfiliefadlaaGreatP07
import Derived.Test.YtkclfiliefadlaaGreatAiL
import Derived.Test.YtkclfiliefadlaaGreatP02
set_option linter.unusedVariables false
set_option linter.unusedSimpArgs false
set_option maxRecDepth 100000
namespace Go.AI
open Go Go.Proofs

structure Stop where
  ratio : Int
  color : I4
  deriving DecidableEq
structure Fill where
  kind : Int
  color : I4
  mat : Mat
  spread : Int
  stops : List Stop
  id : Int
  deriving DecidableEq
structure Strk where
  width : Int
  color : I4
  deriving DecidableEq
def Stop.e (s : Stop) : List PV := [.i s.ratio, .i s.color.1, .i s.color.2.1, .i s.color.2.2.1, .i s.color.2.2.2]
def Strk.e (s : Strk) : List PV := [.i s.width, .i s.color.1, .i s.color.2.1, .i s.color.2.2.1, .i s.color.2.2.2]
def Fill.e (f : Fill) : List PV := [.i f.kind, .i f.color.1, .i f.color.2.1, .i f.color.2.2.1, .i f.color.2.2.2, .i f.mat.1, .i f.mat.2.1, .i f.mat.2.2.1, .i f.mat.2.2.2.1, .i f.mat.2.2.2.2.1, .i f.mat.2.2.2.2.2, .i f.spread, .l (f.stops.map Stop.e), .i f.id]

theorem qRGBA_c (c : I4) : cW f_celluloidref07_RGBA [.i c.1, .i c.2.1, .i c.2.2.1, .i c.2.2.2] [] = some ([.b (rgbaB c)], []) := (qRGBA_ans c).c
theorem qMatrix_c (a b c d x y : Int) : cW f_celluloidref07_Matrix [.i a, .i b, .i c, .i d, .i x, .i y] [] = some ([.b (matB a b c d x y)], []) := (qMatrix_ans a b c d x y).c

theorem i4_eq (a b : I4) : ((a.1 == b.1) && ((a.2.1 == b.2.1) && ((a.2.2.1 == b.2.2.1) && (a.2.2.2 == b.2.2.2)))) = decide (a = b) := by
  obtain ⟨a1, a2, a3, a4⟩ := a; obtain ⟨b1, b2, b3, b4⟩ := b
  rw [Bool.eq_iff_iff]; simp
theorem mat_eq (a b : Mat) : ((a.1 == b.1) && ((a.2.1 == b.2.1) && ((a.2.2.1 == b.2.2.1) && ((a.2.2.2.1 == b.2.2.2.1) && ((a.2.2.2.2.1 == b.2.2.2.2.1) && (a.2.2.2.2.2 == b.2.2.2.2.2)))))) = decide (a = b) := by
  obtain ⟨a1, a2, a3, a4, a5, a6⟩ := a; obtain ⟨b1, b2, b3, b4, b5, b6⟩ := b
  rw [Bool.eq_iff_iff]; simp
theorem stop_eq (a b : Stop) : ((a.ratio == b.ratio) && ((a.color.1 == b.color.1) && ((a.color.2.1 == b.color.2.1) && ((a.color.2.2.1 == b.color.2.2.1) && (a.color.2.2.2 == b.color.2.2.2))))) = decide (a = b) := by
  rw [i4_eq]; obtain ⟨a1, a2⟩ := a; obtain ⟨b1, b2⟩ := b
  rw [Bool.eq_iff_iff]; simp
theorem strk_eq (a b : Strk) : ((a.width == b.width) && ((a.color.1 == b.color.1) && ((a.color.2.1 == b.color.2.1) && ((a.color.2.2.1 == b.color.2.2.1) && (a.color.2.2.2 == b.color.2.2.2))))) = decide (a = b) := by
  rw [i4_eq]; obtain ⟨a1, a2⟩ := a; obtain ⟨b1, b2⟩ := b
  rw [Bool.eq_iff_iff]; simp
theorem fill_eq (a b : Fill) : ((a.kind == b.kind) && (decide (a.color = b.color) && (decide (a.mat = b.mat) && ((a.spread == b.spread) && ((a.id == b.id) && decide (a.stops = b.stops)))))) = decide (a = b) := by
  obtain ⟨a1, a2, a3, a4, a5, a6⟩ := a; obtain ⟨b1, b2, b3, b4, b5, b6⟩ := b
  rw [Bool.eq_iff_iff]; simp
  intros; exact and_comm

theorem list_eq_step {α : Type} [DecidableEq α] (pre : List α) (x y : α) (a b : List α) : decide (x :: a = y :: b) = (decide (x = y) && decide (a = b)) := by
  rw [Bool.eq_iff_iff]; simp

/-- the document's -/
theorem qSame_loop {l m : List Stop} (hl : l.length ≤ 2 ^ 40) (x2 x3 x4 x5 x6 x7 x8 x9 x10 x11 x12 x13 x15 x16 x17 x18 x19 x20 x21 x22 x23 x24 x25 x26 x27 x29 : Int) : ∀ (r r' p p' : List Stop), l = p ++ r → m = p' ++ r' → p.length = p'.length → r.length = r'.length →
    rW f_celluloidref08_Same [] at_celluloidref08_Same_L0 (S_celluloidref08_Same_L0 p.length x2 x3 x4 x5 x6 x7 x8 x9 x10 x11 x12 x13 (l.map Stop.e) x15 x16 x17 x18 x19 x20 x21 x22 x23 x24 x25 x26 x27 (m.map Stop.e) x29) = some ([.b (decide (r = r'))], [])
  | [], [], p, p', h, h', hp, hr => by
    rw [w_celluloidref08_Same_L0]; simp only [el_end h, Option.bind_some, Option.bind_none, andB, orB, orB2, List.getD_cons_zero, List.getD_cons_succ, toB_b, toI_i, toS_s, toL_l, cond_true, cond_false, List.length_map]; rfl
  | x :: r, y :: r', p, p', h, h', hp, hr => by
    have hm : m.length ≤ 2 ^ 40 := by rw [h']; rw [h] at hl; simp at hl hr ⊢; omega
    obtain ⟨h1, h2, h3, h4, h5⟩ := el_step Stop.e h hl
    obtain ⟨_, k2, k3, _, k5⟩ := el_step Stop.e h' hm
    rw [← hp] at k2 k3
    rw [w_celluloidref08_Same_L0]
    simp only [h1, h2, h3, h4, k2, k3, Stop.e, Option.bind_some, Option.bind_none, andB, orB, orB2, List.getD_cons_zero, List.getD_cons_succ, toB_b, toI_i, toS_s, toL_l, cond_true, cond_false, List.length_map]
    rw [stop_eq, list_eq_step p]
    cases h : decide (x = y) with
    | false => simp only [Bool.not_false, cond_true, Bool.false_and]
    | true =>
      rw [Bool.not_true, cond_false, Bool.true_and]
      exact qSame_loop hl _ _ _ _ _ _ _ _ _ _ _ _ _ _ _ _ _ _ _ _ _ _ _ _ _ _ r r' _ _ h5 k5 (by simp [hp]) (by simpa using hr)
theorem bne_not {α : Type} [BEq α] (a b : α) : (a != b) = !(a == b) := rfl
theorem qSame_c (a b : Fill) (hl : a.stops.length ≤ 2 ^ 40) : cW f_celluloidref08_Same (a.e ++ b.e) [] = some ([.b (decide (a = b))], []) := by
  simp only [Fill.e, List.cons_append, List.nil_append]
  rw [w_celluloidref08_Same]
  simp only [Option.bind_some, Option.bind_none, andB, orB, orB2, List.getD_cons_zero, List.getD_cons_succ, toB_b, toI_i, toS_s, toL_l, cond_true, cond_false, List.length_map]
  rw [i4_eq, mat_eq, ← fill_eq]
  simp only [bne_not]
  cases h1 : (a.kind == b.kind) with
  | false => rfl
  | true =>
    cases h2 : decide (a.color = b.color) with
    | false => rfl
    | true =>
      cases h3 : decide (a.mat = b.mat) with
      | false => rfl
      | true =>
        cases h4 : (a.spread == b.spread) with
        | false => rfl
        | true =>
          cases h5 : (a.id == b.id) with
          | false => rfl
          | true =>
            by_cases h6 : a.stops.length = b.stops.length
            · rw [show (((a.stops.length : Nat) : Int) == ((b.stops.length : Nat) : Int)) = true by simp [h6]]
              exact qSame_loop hl _ _ _ _ _ _ _ _ _ _ _ _ _ _ _ _ _ _ _ _ _ _ _ _ _ _ a.stops b.stops [] [] rfl rfl rfl h6
            · rw [show (((a.stops.length : Nat) : Int) == ((b.stops.length : Nat) : Int)) = false by simp [h6]; omega]
              rw [decide_eq_false (p := a.stops = b.stops) (fun e => h6 (by rw [e]))]; rfl
def mB (m : Mat) : Bool := matB m.1 m.2.1 m.2.2.1 m.2.2.2.1 m.2.2.2.2.1 m.2.2.2.2.2
def stopB (s : Stop) (last : Int) : Bool := decide (s.ratio ≥ last) && (decide (s.ratio ≤ 255) && rgbaB s.color)
def stopsB : Int → List Stop → Bool
  | _, [] => true
  | last, s :: r => stopB s last && stopsB s.ratio r
def gradB (f : Fill) : Bool := mB f.mat && (decide (f.spread ≥ 0) && (decide (f.spread ≤ 2) && (decide (((f.stops.length : Nat) : Int) ≥ 1) && decide (((f.stops.length : Nat) : Int) ≤ 8))))
def kindS (k : Int) : Bool := k == 0
def kindP (k : Int) : Bool := k == 64 || k == 65
def kindG (k : Int) : Bool := k == 16 || k == 18
def fillB (f : Fill) : Bool :=
  bif kindS f.kind then rgbaB f.color && decide (f = ⟨0, f.color, (0, 0, 0, 0, 0, 0), 0, [], 0⟩)
  else bif kindP f.kind then mB f.mat && (decide (f.id ≥ 0) && (decide (f.id < 65536) && decide (f = ⟨f.kind, (0, 0, 0, 0), f.mat, 0, [], f.id⟩)))
  else bif kindG f.kind && decide (f = ⟨f.kind, (0, 0, 0, 0), f.mat, f.spread, f.stops, 0⟩) then stopsB 0 f.stops && gradB f
  else false
theorem picture_c (k : Int) : cW f_style_picture [.i k] [] = some ([.b (kindP k)], []) := by
  rw [w_style_picture]; simp only [Option.bind_some, Option.bind_none, andB, orB, orB2, List.getD_cons_zero, List.getD_cons_succ, toB_b, toI_i, toS_s, toL_l, cond_true, cond_false, List.length_map]; rfl
theorem gradient_c (k : Int) : cW f_style_gradient [.i k] [] = some ([.b (kindG k)], []) := by
  rw [w_style_gradient]; simp only [Option.bind_some, Option.bind_none, andB, orB, orB2, List.getD_cons_zero, List.getD_cons_succ, toB_b, toI_i, toS_s, toL_l, cond_true, cond_false, List.length_map]; rfl
theorem qFill_loop (f : Fill) (hl : f.stops.length ≤ 2 ^ 40) : ∀ (rest pre : List Stop) (last : Int), f.stops = pre ++ rest → 0 ≤ last → (pre = [] → last = 0) → (∀ p x, pre = p ++ [x] → last = x.ratio) →
    rW f_celluloidref08_Fill [] at_celluloidref08_Fill_L1 (S_celluloidref08_Fill_L1 pre.length f.kind f.color.1 f.color.2.1 f.color.2.2.1 f.color.2.2.2 f.mat.1 f.mat.2.1 f.mat.2.2.1 f.mat.2.2.2.1 f.mat.2.2.2.2.1 f.mat.2.2.2.2.2 f.spread (f.stops.map Stop.e) f.id) = some ([.b (stopsB last rest && (decide (f.color = (0, 0, 0, 0)) && ((f.id == 0) && gradB f)))], [])
  | [], pre, last, h, h0, hn, hp => by
    rw [w_celluloidref08_Fill_L1]
    simp only [el_end h, qMatrix_c, Option.bind_some, Option.bind_none, andB, orB, orB2, List.getD_cons_zero, List.getD_cons_succ, toB_b, toI_i, toS_s, toL_l, cond_true, cond_false, List.length_map]
    rw [i4_eq f.color (0, 0, 0, 0)]
    unfold stopsB gradB mB
    rw [show decide (((f.stops.length : Nat) : Int) > 0) = decide (((f.stops.length : Nat) : Int) ≥ 1) by simp; omega, show decide (((f.stops.length : Nat) : Int) < 9) = decide (((f.stops.length : Nat) : Int) ≤ 8) by simp; omega,
      show decide (f.spread < 3) = decide (f.spread ≤ 2) by simp; omega]
    congr 4
    cases decide (f.color = (0, 0, 0, 0)) <;> cases (f.id == 0) <;> cases decide (f.spread ≥ 0) <;> cases decide (f.spread ≤ 2) <;> cases decide (((f.stops.length : Nat) : Int) ≥ 1) <;> cases decide (((f.stops.length : Nat) : Int) ≤ 8) <;> cases matB f.mat.1 f.mat.2.1 f.mat.2.2.1 f.mat.2.2.2.1 f.mat.2.2.2.2.1 f.mat.2.2.2.2.2 <;> rfl
  | x :: rest, pre, last, h, h0, hn, hp => by
    obtain ⟨h1, h2, h3, h4, h5⟩ := el_step Stop.e h hl
    have key : ∀ r : Option (List PV), (r = some [PV.b (!stopB x last)]) → (r.bind fun r9 => (bif ((r9.getD 0 PV.u)).toB then some ([(PV.b false)], []) else rW f_celluloidref08_Fill [] at_celluloidref08_Fill_L1 (S_celluloidref08_Fill_L1 (pre ++ [x]).length f.kind f.color.1 f.color.2.1 f.color.2.2.1 f.color.2.2.2 f.mat.1 f.mat.2.1 f.mat.2.2.1 f.mat.2.2.2.1 f.mat.2.2.2.2.1 f.mat.2.2.2.2.2 f.spread (f.stops.map Stop.e) f.id))) = some ([.b (stopsB last (x :: rest) && (decide (f.color = (0, 0, 0, 0)) && ((f.id == 0) && gradB f)))], []) := by
      rintro r rfl
      unfold stopsB
      rw [Option.bind_some]
      cases hs : stopB x last with
      | false => rfl
      | true =>
        have h0' : 0 ≤ x.ratio := by
          unfold stopB at hs
          simp only [Bool.and_eq_true, decide_eq_true_eq] at hs
          omega
        rw [Bool.true_and]
        exact qFill_loop f hl rest _ _ h5 h0' (fun e => by simp at e) (fun p y e => by have := List.append_inj_right' e rfl; simp at this; rw [this])
    rw [w_celluloidref08_Fill_L1]
    simp only [h1, h2, h3, h4, Stop.e, qRGBA_c, Option.bind_some, Option.bind_none, andB, orB, orB2, List.getD_cons_zero, List.getD_cons_succ, toB_b, toI_i, toS_s, toL_l, cond_true, cond_false, List.length_map]
    refine key _ ?_
    unfold stopB
    rcases List.eq_nil_or_concat pre with rfl | ⟨p, y, rfl⟩
    · obtain rfl := hn rfl
      rw [show decide (((([] : List Stop).length : Nat) : Int) > 0) = false by simp]
      simp only [cond_false]
      by_cases a1 : x.ratio < 0
      · rw [decide_eq_true a1, decide_eq_false (p := x.ratio ≥ 0) (by omega)]; rfl
      · rw [decide_eq_false a1, decide_eq_true (p := x.ratio ≥ 0) (by omega)]
        by_cases a2 : x.ratio > 255
        · rw [decide_eq_true a2, decide_eq_false (p := x.ratio ≤ 255) (by omega)]; rfl
        · rw [decide_eq_false a2, decide_eq_true (p := x.ratio ≤ 255) (by omega)]; rfl
    · obtain rfl := hp p y (by simp)
      rw [List.concat_eq_append] at *
      have hw : IntKind.wrap .i64 ((((p ++ [y]).length : Nat) : Int) - 1) = ((p.length : Nat) : Int) := by
        rw [h] at hl
        simp only [List.length_append, List.length_cons, List.length_nil] at hl ⊢
        have : (2 : Nat) ^ 40 = 1099511627776 := rfl
        rw [wrap64 (by omega) (by omega)]; omega
      have h' : f.stops = p ++ y :: (x :: rest) := by rw [h]; simp
      obtain ⟨_, k2, k3, _, _⟩ := el_step Stop.e h' hl
      rw [hw, k2, k3, show decide ((((p ++ [y]).length : Nat) : Int) > 0) = true by simp]
      simp only [cond_true, Stop.e, Option.bind_some, Option.bind_none, andB, orB, orB2, List.getD_cons_zero, List.getD_cons_succ, toB_b, toI_i, toS_s, toL_l, cond_true, cond_false, List.length_map]
      by_cases a1 : x.ratio < 0
      · rw [decide_eq_true a1, decide_eq_false (p := x.ratio ≥ y.ratio) (by omega)]; rfl
      · rw [decide_eq_false a1]
        by_cases a2 : x.ratio > 255
        · rw [decide_eq_true a2, decide_eq_false (p := x.ratio ≤ 255) (by omega)]
          cases decide (x.ratio ≥ y.ratio) <;> rfl
        · rw [decide_eq_false a2, decide_eq_true (p := x.ratio ≤ 255) (by omega)]
          by_cases a3 : x.ratio < y.ratio
          · rw [decide_eq_true a3, decide_eq_false (p := x.ratio ≥ y.ratio) (by omega)]; rfl
          · rw [decide_eq_false a3, decide_eq_true (p := x.ratio ≥ y.ratio) (by omega)]; rfl
theorem dec_fill {f : Fill} {k : Int} {c : I4} {m : Mat} {sp : Int} {st : List Stop} {i : Int} : decide (f = ⟨k, c, m, sp, st, i⟩) = ((f.kind == k) && (decide (f.color = c) && (decide (f.mat = m) && ((f.spread == sp) && ((f.id == i) && decide (f.stops = st)))))) := (fill_eq f ⟨k, c, m, sp, st, i⟩).symm
theorem no_stops (f : Fill) : (((f.stops.length : Nat) : Int) == 0) = decide (f.stops = []) := by
  cases f.stops with
  | nil => rfl
  | cons a l => simp; omega
theorem qFill_c (f : Fill) (hl : f.stops.length ≤ 2 ^ 40) : cW f_celluloidref08_Fill f.e [] = some ([.b (fillB f)], []) := by
  have el := qFill_loop f hl f.stops [] 0 rfl (by omega) (fun _ => rfl) (fun p x e => by simp at e)
  simp only [Fill.e, List.cons_append, List.nil_append, List.map_nil] at ⊢
  rw [w_celluloidref08_Fill]
  simp only [qRGBA_c, qMatrix_c, Option.bind_some, Option.bind_none, andB, orB, orB2, List.getD_cons_zero, List.getD_cons_succ, toB_b, toI_i, toS_s, toL_l, cond_true, cond_false, List.length_map]
  rw [mat_eq f.mat (0, 0, 0, 0, 0, 0), i4_eq f.color (0, 0, 0, 0), no_stops]
  unfold fillB
  rw [dec_fill, dec_fill, dec_fill, beq_self_eq_true, decide_eq_true (p := f.color = f.color) rfl, decide_eq_true (p := f.mat = f.mat) rfl, beq_self_eq_true, beq_self_eq_true, decide_eq_true (p := f.stops = f.stops) rfl]
  unfold kindS kindP kindG
  by_cases k0 : f.kind = 0
  · rw [k0]
    simp only [show ((0 : Int) == 0) = true from rfl, cond_true, Bool.true_and]
    cases rgbaB f.color <;> cases decide (f.mat = (0, 0, 0, 0, 0, 0)) <;> cases (f.spread == 0) <;> cases (f.id == 0) <;> cases decide (f.stops = []) <;> rfl
  rw [show (f.kind == 0) = false by simpa using k0]
  simp only [cond_false, Bool.true_and, Bool.and_true]
  by_cases k1 : f.kind = 64
  · rw [k1]
    simp only [show ((64 : Int) == 64) = true from rfl, cond_true, Bool.true_or]
    show some ([PV.b (_ && (_ && (_ && (_ && (_ && mB f.mat)))))], []) = _
    cases decide (f.color = (0, 0, 0, 0)) <;> cases (f.spread == 0) <;> cases decide (f.id ≥ 0) <;> cases decide (f.id < 65536) <;> cases decide (f.stops = []) <;> cases mB f.mat <;> rfl
  rw [show (f.kind == 64) = false by simpa using k1]
  by_cases k2 : f.kind = 65
  · rw [k2]
    simp only [show ((65 : Int) == 65) = true from rfl, cond_true, cond_false, Bool.false_or]
    show some ([PV.b (_ && (_ && (_ && (_ && (_ && mB f.mat)))))], []) = _
    cases decide (f.color = (0, 0, 0, 0)) <;> cases (f.spread == 0) <;> cases decide (f.id ≥ 0) <;> cases decide (f.id < 65536) <;> cases decide (f.stops = []) <;> cases mB f.mat <;> rfl
  rw [show (f.kind == 65) = false by simpa using k2]
  simp only [cond_false, Bool.false_or]
  have fin : ∀ c d e : Bool, (c && (d && (e && gradB f))) = (bif (d && e) then c && gradB f else false) := by intro c d e; cases c <;> cases d <;> cases e <;> rfl
  by_cases k3 : f.kind = 16
  · rw [k3] at el ⊢
    simp only [show ((16 : Int) == 16) = true from rfl, cond_true, Bool.true_or, Bool.true_and]
    rw [← fin]; exact el
  rw [show (f.kind == 16) = false by simpa using k3]
  by_cases k4 : f.kind = 18
  · rw [k4] at el ⊢
    simp only [show ((18 : Int) == 18) = true from rfl, cond_true, cond_false, Bool.false_or, Bool.true_and]
    rw [← fin]; exact el
  rw [show (f.kind == 18) = false by simpa using k4]
  rfl
def strkB (s : Strk) : Bool := decide (s.width ≥ 0) && (decide (s.width < 65536) && rgbaB s.color)
theorem qStroke_c (s : Strk) : cW f_celluloidref08_Stroke s.e [] = some ([.b (strkB s)], []) := by
  unfold Strk.e
  rw [w_celluloidref08_Stroke]
  simp only [qRGBA_c, Option.bind_some, Option.bind_none, andB, orB, orB2, List.getD_cons_zero, List.getD_cons_succ, toB_b, toI_i, toS_s, toL_l, cond_true, cond_false, List.length_map]; rfl
end Go.AI
set_option linter.unusedVariables false
set_option linter.unusedSimpArgs false
set_option maxRecDepth 100000
namespace Go.AI
open Go Go.Proofs

theorem PWL.split {P : Program} {us : List LTy} : ∀ {ts : List LTy} {ps : List PV}, PWL P (ts ++ us) ps → ∃ a b, ps = a ++ b ∧ PWL P ts a ∧ PWL P us b
  | [], ps, h => ⟨[], ps, rfl, ⟨rfl, fun j hj => by simp at hj⟩, h⟩
  | t :: ts, ps, h => by
    obtain ⟨p, q, rfl, hp, hq⟩ := h.cons
    obtain ⟨a, b, rfl, ha, hb⟩ := PWL.split (ts := ts) hq
    refine ⟨p :: a, b, rfl, ?_, hb⟩
    refine ⟨by simp [ha.1], fun j hj => ?_⟩
    cases j with
    | zero => exact hp
    | succ j => simpa using ha.2 j (by simpa using hj)
theorem int_cons {P : Program} {ts : List LTy} {x : List PV} (h : PWL P (.int .i64 :: ts) x) : ∃ (n : Int) (q : List PV), x = .i n :: q ∧ I64 n ∧ PWL P ts q := by
  obtain ⟨p1, q1, rfl, h1, r1⟩ := h.cons
  obtain ⟨x1, rfl, w1⟩ := h1.i64_of
  exact ⟨x1, q1, rfl, w1, r1⟩
theorem str_cons {P : Program} {ts : List LTy} {x : List PV} (h : PWL P (.str :: ts) x) : ∃ (n : List UInt8) (q : List PV), x = .s n :: q ∧ n.length ≤ maxLen ∧ PWL P ts q := by
  obtain ⟨p1, q1, rfl, h1, r1⟩ := h.cons
  obtain ⟨x1, rfl, w1⟩ := h1.str_of
  exact ⟨x1, q1, rfl, w1, r1⟩
end Go.AI
set_option linter.unusedVariables false
set_option linter.unusedSimpArgs false
set_option maxRecDepth 100000
namespace Go.AI
open Go Go.Proofs

def Shorts (l : List Fill) : Prop := ∀ f, f ∈ l → f.stops.length ≤ 2 ^ 40
def listsB (l : List Fill) (m : List Strk) : Bool := decide (((l.length : Nat) : Int) ≤ 15) && (decide (((m.length : Nat) : Int) ≤ 15) && (l.all fillB && m.all strkB))
theorem qRight_loop2 {l : List Fill} {m : List Strk} (hm : m.length ≤ 2 ^ 40) : ∀ (rest pre : List Strk), m = pre ++ rest →
    rW f_celluloidref08_Right [] at_celluloidref08_Right_L2 (S_celluloidref08_Right_L2 (l.map Fill.e) (m.map Strk.e) pre.length) = some ([.b (decide (((l.length : Nat) : Int) ≤ 15) && (decide (((m.length : Nat) : Int) ≤ 15) && rest.all strkB))], [])
  | [], pre, h => by
    rw [w_celluloidref08_Right_L2]
    simp only [el_end h, Option.bind_some, Option.bind_none, andB, orB, orB2, List.getD_cons_zero, List.getD_cons_succ, toB_b, toI_i, toS_s, toL_l, cond_true, cond_false, List.length_map]
    rw [show decide (((l.length : Nat) : Int) < 16) = decide (((l.length : Nat) : Int) ≤ 15) by simp; omega, show decide (((m.length : Nat) : Int) < 16) = decide (((m.length : Nat) : Int) ≤ 15) by simp; omega]
    simp
  | x :: rest, pre, h => by
    obtain ⟨h1, h2, h3, h4, h5⟩ := el_step Strk.e h hm
    have hx := qStroke_c x
    rw [w_celluloidref08_Right_L2]
    unfold Strk.e at hx
    simp only [h1, h2, h3, h4, Strk.e, hx, List.all_cons, Option.bind_some, Option.bind_none, andB, orB, orB2, List.getD_cons_zero, List.getD_cons_succ, toB_b, toI_i, toS_s, toL_l, cond_true, cond_false, List.length_map]
    cases hf : strkB x with
    | false => simp
    | true => simpa [hf] using qRight_loop2 (l := l) hm rest _ h5
theorem qRight_loop {l : List Fill} {m : List Strk} (hl : l.length ≤ 2 ^ 40) (hm : m.length ≤ 2 ^ 40) (hs : Shorts l) : ∀ (rest pre : List Fill), l = pre ++ rest →
    rW f_celluloidref08_Right [] at_celluloidref08_Right_L0 (S_celluloidref08_Right_L0 (l.map Fill.e) (m.map Strk.e) pre.length) = some ([.b (decide (((l.length : Nat) : Int) ≤ 15) && (decide (((m.length : Nat) : Int) ≤ 15) && (rest.all fillB && m.all strkB)))], [])
  | [], pre, h => by
    rw [w_celluloidref08_Right_L0]; simp only [el_end h, Option.bind_some, Option.bind_none, andB, orB, orB2, List.getD_cons_zero, List.getD_cons_succ, toB_b, toI_i, toS_s, toL_l, cond_true, cond_false, List.length_map]
    exact qRight_loop2 (l := l) hm m [] rfl
  | x :: rest, pre, h => by
    obtain ⟨h1, h2, h3, h4, h5⟩ := el_step Fill.e h hl
    have hx := qFill_c x (hs x (by rw [h]; simp))
    rw [w_celluloidref08_Right_L0]
    unfold Fill.e at hx
    simp only [h1, h2, h3, h4, Fill.e, hx, List.all_cons, Option.bind_some, Option.bind_none, andB, orB, orB2, List.getD_cons_zero, List.getD_cons_succ, toB_b, toI_i, toS_s, toL_l, cond_true, cond_false, List.length_map]
    cases hf : fillB x with
    | false => simp
    | true => simpa [hf] using qRight_loop hl hm hs rest _ h5
theorem qRight_c {l : List Fill} {m : List Strk} (hl : l.length ≤ 2 ^ 40) (hm : m.length ≤ 2 ^ 40) (hs : Shorts l) : cW f_celluloidref08_Right [.l (l.map Fill.e), .l (m.map Strk.e)] [] = some ([.b (listsB l m)], []) := by
  rw [w_celluloidref08_Right]
  exact qRight_loop hl hm hs l [] rfl

/-! ### lists are equal -/
theorem qStrks_loop {l m : List Strk} (hl : l.length ≤ 2 ^ 40) : ∀ (r r' p p' : List Strk), l = p ++ r → m = p' ++ r' → p.length = p'.length → r.length = r'.length →
    rW f_celluloidref08_SameLists [] at_celluloidref08_SameLists_L2 (S_celluloidref08_SameLists_L2 (l.map Strk.e) (m.map Strk.e) p.length) = some ([.b (decide (r = r'))], [])
  | [], [], p, p', h, h', hp, hr => by
    rw [w_celluloidref08_SameLists_L2]; simp only [el_end h, Option.bind_some, Option.bind_none, andB, orB, orB2, List.getD_cons_zero, List.getD_cons_succ, toB_b, toI_i, toS_s, toL_l, cond_true, cond_false, List.length_map]; rfl
  | [], y :: r', p, p', h, h', hp, hr => by simp at hr
  | x :: r, [], p, p', h, h', hp, hr => by simp at hr
  | x :: r, y :: r', p, p', h, h', hp, hr => by
    have hm : m.length ≤ 2 ^ 40 := by rw [h']; rw [h] at hl; simp at hl hr ⊢; omega
    obtain ⟨h1, h2, h3, h4, h5⟩ := el_step Strk.e h hl
    obtain ⟨_, k2, k3, _, k5⟩ := el_step Strk.e h' hm
    rw [← hp] at k2 k3
    rw [w_celluloidref08_SameLists_L2]
    simp only [h1, h2, h3, h4, k2, k3, Strk.e, Option.bind_some, Option.bind_none, andB, orB, orB2, List.getD_cons_zero, List.getD_cons_succ, toB_b, toI_i, toS_s, toL_l, cond_true, cond_false, List.length_map]
    rw [strk_eq, list_eq_step p]
    cases h : decide (x = y) with
    | false => simp only [Bool.not_false, cond_true, Bool.false_and]
    | true =>
      rw [Bool.not_true, cond_false, Bool.true_and]
      exact qStrks_loop hl r r' _ _ h5 k5 (by simp [hp]) (by simpa using hr)
theorem list_eq_step' {α : Type} [DecidableEq α] (x y : α) (a b : List α) : decide (x :: a = y :: b) = (decide (x = y) && decide (a = b)) := list_eq_step ([] : List α) x y a b
theorem qFills_loop {l m : List Fill} (hl : l.length ≤ 2 ^ 40) (hs : Shorts l) {s t : List Strk} (hst : s.length = t.length) (hs2 : s.length ≤ 2 ^ 40) : ∀ (r r' p p' : List Fill), l = p ++ r → m = p' ++ r' → p.length = p'.length → r.length = r'.length →
    rW f_celluloidref08_SameLists [] at_celluloidref08_SameLists_L0 (S_celluloidref08_SameLists_L0 (l.map Fill.e) (m.map Fill.e) (s.map Strk.e) (t.map Strk.e) p.length) = some ([.b (decide (r = r') && decide (s = t))], [])
  | [], [], p, p', h, h', hp, hr => by
    rw [w_celluloidref08_SameLists_L0]; simp only [el_end h, Option.bind_some, Option.bind_none, andB, orB, orB2, List.getD_cons_zero, List.getD_cons_succ, toB_b, toI_i, toS_s, toL_l, cond_true, cond_false, List.length_map]
    exact qStrks_loop hs2 s t [] [] rfl rfl rfl hst
  | [], y :: r', p, p', h, h', hp, hr => by simp at hr
  | x :: r, [], p, p', h, h', hp, hr => by simp at hr
  | x :: r, y :: r', p, p', h, h', hp, hr => by
    have hm : m.length ≤ 2 ^ 40 := by rw [h']; rw [h] at hl; simp at hl hr ⊢; omega
    obtain ⟨h1, h2, h3, h4, h5⟩ := el_step Fill.e h hl
    obtain ⟨_, k2, k3, _, k5⟩ := el_step Fill.e h' hm
    rw [← hp] at k2 k3
    have hx := qSame_c x y (hs x (by rw [h]; simp))
    rw [w_celluloidref08_SameLists_L0]
    simp only [Fill.e, List.cons_append, List.nil_append] at hx
    simp only [h1, h2, h3, h4, k2, k3, Fill.e, hx, Option.bind_some, Option.bind_none, andB, orB, orB2, List.getD_cons_zero, List.getD_cons_succ, toB_b, toI_i, toS_s, toL_l, cond_true, cond_false, List.length_map]
    rw [list_eq_step']
    cases h : decide (x = y) with
    | false => simp only [Bool.not_false, cond_true, Bool.false_and]
    | true =>
      rw [Bool.not_true, cond_false, Bool.true_and]
      exact qFills_loop hl hs hst hs2 r r' _ _ h5 k5 (by simp [hp]) (by simpa using hr)
theorem sameLists_c {l m : List Fill} (hl : l.length ≤ 2 ^ 40) (hs : Shorts l) {s t : List Strk} (hs2 : s.length ≤ 2 ^ 40) : cW f_celluloidref08_SameLists [.l (l.map Fill.e), .l (m.map Fill.e), .l (s.map Strk.e), .l (t.map Strk.e)] [] = some ([.b (decide (l = m) && decide (s = t))], []) := by
  rw [w_celluloidref08_SameLists]
  simp only [Option.bind_some, Option.bind_none, andB, orB, orB2, List.getD_cons_zero, List.getD_cons_succ, toB_b, toI_i, toS_s, toL_l, cond_true, cond_false, List.length_map]
  by_cases h1 : l.length = m.length
  · by_cases h2 : s.length = t.length
    · rw [show ((((l.length : Nat) : Int) != ((m.length : Nat) : Int)) || (((s.length : Nat) : Int) != ((t.length : Nat) : Int))) = false by simp [h1, h2], cond_false]
      exact qFills_loop hl hs h2 hs2 l m [] [] rfl rfl rfl h1
    · rw [show ((((l.length : Nat) : Int) != ((m.length : Nat) : Int)) || (((s.length : Nat) : Int) != ((t.length : Nat) : Int))) = true by simp [h1]; omega, cond_true, decide_eq_false (p := s = t) (fun e => h2 (by rw [e])), Bool.and_false]
  · rw [show ((((l.length : Nat) : Int) != ((m.length : Nat) : Int)) || (((s.length : Nat) : Int) != ((t.length : Nat) : Int))) = true by simp; omega, cond_true, decide_eq_false (p := l = m) (fun e => h1 (by rw [e])), Bool.false_and]
end Go.AI
set_option linter.unusedVariables false
set_option linter.unusedSimpArgs false
set_option maxRecDepth 100000
namespace Go.AI
open Go Go.Proofs

def oneS (n : Int) : List UInt8 := [UInt8.ofNat (n % 256).toNat]
def twoS (n : Int) : List UInt8 := [UInt8.ofNat (Int.tmod n 256 % 256).toNat, UInt8.ofNat (IntKind.wrap .i64 (Int.tdiv n 256) % 256).toNat]
def matS (m : Mat) : List UInt8 := (matW m.1 m.2.1 m.2.2.1 m.2.2.2.1 m.2.2.2.2.1 m.2.2.2.2.2 ([], 0)).1
def stopsS : List Stop → List UInt8
  | [] => []
  | s :: r => oneS s.ratio ++ (rgbaS s.color ++ stopsS r)
def fillS (f : Fill) : List UInt8 := oneS f.kind ++ (bif kindS f.kind then rgbaS f.color else bif kindP f.kind then twoS f.id ++ matS f.mat else matS f.mat ++ (oneS (64 * f.spread + f.stops.length) ++ stopsS f.stops))
def fillsS : List Fill → List UInt8
  | [] => []
  | f :: r => fillS f ++ fillsS r
def strkS (s : Strk) : List UInt8 := twoS s.width ++ rgbaS s.color
def strksS : List Strk → List UInt8
  | [] => []
  | f :: r => strkS f ++ strksS r
def listsS (l : List Fill) (m : List Strk) : List UInt8 := oneS l.length ++ (fillsS l ++ (oneS m.length ++ strksS m))
theorem stopsS_len : ∀ l : List Stop, (stopsS l).length = 5 * l.length
  | [] => rfl
  | s :: r => by simp only [stopsS, List.length_append, stopsS_len r, List.length_cons]; show 1 + (4 + _) = _; omega
end Go.AI
set_option linter.unusedVariables false
set_option linter.unusedSimpArgs false
set_option maxRecDepth 100000
namespace Go.AI
open Go Go.Proofs

def lit (σ : Rs) (n : Int) : Int × Rs := if σ.2.2 ≠ 0 then (0, σ) else littleF σ.1 σ.2.1 n
def col (σ : Rs) : I4 × Rs := if σ.2.2 ≠ 0 then ((0, 0, 0, 0), σ) else takeKF σ.1 σ.2.1
def mt (σ : Rs) : Mat × Rs := if σ.2.2 ≠ 0 then ((0, 0, 0, 0, 0, 0), σ) else takeMatF (beginP σ.1 σ.2.1)
def failR (σ : Rs) (e : Int) : Rs := if σ.2.2 = 0 then (σ.1, σ.2.1, e) else σ
theorem bytesF_keep (s : List UInt8) (a n : Int) : (bytesF s a n).2.1 = [] ∨ (bytesF s a n).2.1 = s := by
  rcases bytesF_cases s a n with e | e | ⟨_, _, _, _, _, _, e⟩ <;> rw [e] <;> simp
def Keeps (σ τ : Rs) : Prop := τ.1 = [] ∨ τ.1 = σ.1
theorem Keeps.refl (σ : Rs) : Keeps σ σ := .inr rfl
theorem Keeps.trans {σ τ ρ : Rs} (h : Keeps σ τ) (k : Keeps τ ρ) : Keeps σ ρ := by
  rcases k with k | k
  · exact .inl k
  · rcases h with h | h
    · exact .inl (k.trans h)
    · exact .inr (k.trans h)
theorem Keeps.len {σ τ : Rs} (k : Keeps σ τ) (h : LenOk σ) : LenOk τ := by
  unfold LenOk at *
  rcases k with k | k <;> rw [k]
  · exact Nat.zero_le _
  · exact h
theorem lit_keep (σ : Rs) (n : Int) : Keeps σ (lit σ n).2 := by
  unfold lit
  split
  · exact .refl _
  · unfold littleF
    split
    · exact .inl rfl
    · exact bytesF_keep _ _ _
theorem col_keep (σ : Rs) : Keeps σ (col σ).2 := by
  unfold col
  split
  · exact .refl _
  · unfold takeKF
    dsimp only
    split
    · exact .inl rfl
    · exact bytesF_keep _ _ _
theorem lit_len {σ : Rs} (h : LenOk σ) (n : Int) : LenOk (lit σ n).2 := (lit_keep σ n).len h
theorem col_len {σ : Rs} (h : LenOk σ) : LenOk (col σ).2 := (col_keep σ).len h
theorem fail_len {σ : Rs} (h : LenOk σ) (e : Int) : LenOk (failR σ e) := by unfold failR; split <;> exact h
theorem done_len {σ : Rs} (h : LenOk σ) (b : Bool) : LenOk (doneF σ b) := by
  unfold doneF LenOk at *
  split
  · exact Nat.zero_le _
  · split
    · exact Nat.zero_le _
    · exact h
theorem matF_len {σ : Rs} (h : LenOk σ) : LenOk (takeMatF σ).2 := by
  unfold takeMatF finM
  have a := opt2_len (pl_len h 1) 65536 65536
  have b := opt2_len (pl_len a 1) 0 0
  have d := done_len (two_len b)
  dsimp only
  split <;> exact d _
theorem mt_len {σ : Rs} (h : LenOk σ) : LenOk (mt σ).2 := by
  unfold mt
  split
  · exact h
  · exact matF_len (begin_len h _).1
theorem lit_c {σ : Rs} (h : LenOk σ) (n : Int) : cW f___celluloid_style_reader__little [.u, .i n] [(t_style_reader, [.s σ.1, .i σ.2.1, .i σ.2.2])] = some ([.i (lit σ n).1], [(t_style_reader, [.s (lit σ n).2.1, .i (lit σ n).2.2.1, .i (lit σ n).2.2.2])]) := by
  rw [w___celluloid_style_reader__little]
  unfold lit
  by_cases he : σ.2.2 = 0
  · rw [show (σ.2.2 != 0) = false by simp [he], (little_ans h σ.2.1 n).c, if_neg (by simp [he])]
    rfl
  · rw [show (σ.2.2 != 0) = true by simp [he], if_pos he]; rfl
theorem col_c {σ : Rs} (h : LenOk σ) : cW f___celluloid_style_reader__color [.u] [(t_style_reader, [.s σ.1, .i σ.2.1, .i σ.2.2])] = some ([.i (col σ).1.1, .i (col σ).1.2.1, .i (col σ).1.2.2.1, .i (col σ).1.2.2.2], [(t_style_reader, [.s (col σ).2.1, .i (col σ).2.2.1, .i (col σ).2.2.2])]) := by
  rw [w___celluloid_style_reader__color]
  unfold col
  by_cases he : σ.2.2 = 0
  · rw [show (σ.2.2 != 0) = false by simp [he], (takeK_ans h σ.2.1).c, if_neg (by simp [he])]
    rfl
  · rw [show (σ.2.2 != 0) = true by simp [he], if_pos he]; rfl
theorem mt_c {σ : Rs} (h : LenOk σ) : cW f___celluloid_style_reader__matrix [.u] [(t_style_reader, [.s σ.1, .i σ.2.1, .i σ.2.2])] = some ([.i (mt σ).1.1, .i (mt σ).1.2.1, .i (mt σ).1.2.2.1, .i (mt σ).1.2.2.2.1, .i (mt σ).1.2.2.2.2.1, .i (mt σ).1.2.2.2.2.2], [(t_style_reader, [.s (mt σ).2.1, .i (mt σ).2.2.1, .i (mt σ).2.2.2])]) := by
  rw [w___celluloid_style_reader__matrix]
  unfold mt
  by_cases he : σ.2.2 = 0
  · rw [show (σ.2.2 != 0) = false by simp [he], (takeMat_ans h σ.2.1).c, if_neg (by simp [he])]
    rfl
  · rw [show (σ.2.2 != 0) = true by simp [he], if_pos he]; rfl
theorem fail_c (σ : Rs) (e : Int) : cW f___celluloid_style_reader__fail [.u, .i e] [(t_style_reader, [.s σ.1, .i σ.2.1, .i σ.2.2])] = some ([], [(t_style_reader, [.s (failR σ e).1, .i (failR σ e).2.1, .i (failR σ e).2.2])]) := by
  rw [w___celluloid_style_reader__fail]
  unfold failR
  by_cases he : σ.2.2 = 0
  · rw [show (σ.2.2 == 0) = true by simp [he], if_pos he]; rfl
  · rw [show (σ.2.2 == 0) = false by simp [he], if_neg he]; rfl
theorem lit_pos (σ : Rs) (n : Int) : 0 ≤ (lit σ n).1 := by
  unfold lit littleF
  split
  · exact Int.le_refl _
  · split
    · exact Int.le_refl _
    · exact Int.natCast_nonneg _
theorem lit1_lt (σ : Rs) : (lit σ 1).1 < 256 := by
  unfold lit littleF
  split
  · show (0 : Int) < 256; decide
  · rw [if_neg (by decide)]
    have h := littleN_lt (bytesF σ.1 σ.2.1 1).1
    have hl : (bytesF σ.1 σ.2.1 1).1.length ≤ 1 := by
      rcases bytesF_cases σ.1 σ.2.1 1 with e | e | ⟨_, n', _, hn, _, _, e⟩ <;> rw [e]
      · exact Nat.zero_le _
      · exact Nat.zero_le _
      · simp; omega
    have : 256 ^ (bytesF σ.1 σ.2.1 1).1.length ≤ 256 ^ 1 := Nat.pow_le_pow_right (by decide) hl
    simp only
    have e1 : 256 ^ 1 = 256 := rfl
    omega
/-- a stop, stops, a fill -/
def stop1 (last : Int) (σ : Rs) : Stop × Rs :=
  let r := lit σ 1
  let c := col (bif (r.2.2.2 == 0) && decide (r.1 < last) then failR r.2 3 else r.2)
  (⟨r.1, c.1⟩, c.2)
def stopsP : Nat → Int → Rs → List Stop × Rs
  | 0, _, σ => ([], σ)
  | n + 1, last, σ => let a := stop1 last σ; let b := stopsP n a.1.ratio a.2; (a.1 :: b.1, b.2)
theorem stop1_len {last : Int} {σ : Rs} (h : LenOk σ) : LenOk (stop1 last σ).2 := by
  unfold stop1
  dsimp only
  apply col_len
  cases ((lit σ 1).2.2.2 == 0) && decide ((lit σ 1).1 < last)
  · exact lit_len h 1
  · exact fail_len (lit_len h 1) 3
theorem stopsP_len : ∀ (n : Nat) (last : Int) (σ : Rs), LenOk σ → LenOk (stopsP n last σ).2
  | 0, _, _, h => h
  | n + 1, last, σ, h => stopsP_len n _ _ (stop1_len h)
def badN (n : Int) : Bool := decide (n / 64 > 2) || (decide (n / 16 % 4 > 0) || (n % 16 == 0 || decide (n % 16 > 8)))
def gradS (σ : Rs) : Rs := bif ((lit σ 1).2.2.2 == 0) && badN (lit σ 1).1 then failR (lit σ 1).2 3 else (lit σ 1).2
def fillP (σ : Rs) : Fill × Rs :=
  let r := lit σ 1
  bif kindS r.1 then (⟨r.1, (col r.2).1, (0, 0, 0, 0, 0, 0), 0, [], 0⟩, (col r.2).2)
  else bif kindP r.1 then (⟨r.1, (0, 0, 0, 0), (mt (lit r.2 2).2).1, 0, [], (lit r.2 2).1⟩, (mt (lit r.2 2).2).2)
  else bif kindG r.1 then
    let m := mt r.2
    let n := (lit m.2 1).1
    let st := stopsP (n % 16).toNat 0 (gradS m.2)
    (⟨r.1, (0, 0, 0, 0), m.1, n / 64, st.1, 0⟩, st.2)
  else (⟨r.1, (0, 0, 0, 0), (0, 0, 0, 0, 0, 0), 0, [], 0⟩, failR r.2 3)
theorem gradS_len {σ : Rs} (h : LenOk σ) : LenOk (gradS σ) := by
  unfold gradS
  cases ((lit σ 1).2.2.2 == 0) && badN (lit σ 1).1
  · exact lit_len h 1
  · exact fail_len (lit_len h 1) 3
theorem fillP_len {σ : Rs} (h : LenOk σ) : LenOk (fillP σ).2 := by
  have h1 := lit_len h 1
  unfold fillP
  dsimp only
  cases kindS (lit σ 1).1
  · cases kindP (lit σ 1).1
    · cases kindG (lit σ 1).1
      · exact fail_len h1 3
      · exact stopsP_len _ _ _ (gradS_len (mt_len h1))
    · exact mt_len (lit_len h1 2)
  · exact col_len h1
theorem and15 {n : Int} (h0 : 0 ≤ n) (h1 : n < 256) : bitsOp .and .i64 n 15 = n % 16 := by
  have : ∀ k : Fin 256, bitsOp .and .i64 ((k.1 : Nat) : Int) 15 = ((k.1 : Nat) : Int) % 16 := by decide +kernel
  have := this ⟨n.toNat, by omega⟩
  rwa [show ((n.toNat : Nat) : Int) = n by omega] at this
theorem and48 {n : Int} (h0 : 0 ≤ n) (h1 : n < 256) : (bitsOp .and .i64 n 48 != 0) = decide (n / 16 % 4 > 0) := by
  have : ∀ k : Fin 256, (bitsOp .and .i64 ((k.1 : Nat) : Int) 48 != 0) = decide (((k.1 : Nat) : Int) / 16 % 4 > 0) := by decide +kernel
  have := this ⟨n.toNat, by omega⟩
  rwa [show ((n.toNat : Nat) : Int) = n by omega] at this
theorem div64 {n : Int} (h0 : 0 ≤ n) (h1 : n < 256) : IntKind.wrap .i64 (Int.tdiv n 64) = n / 64 := by
  rw [Int.tdiv_eq_ediv_of_nonneg h0, wrap64 (by omega) (by omega)]
theorem stops_row (l : List Stop) (s : Stop) : l.map Stop.e ++ List.set [[PV.i 0, PV.i 0, PV.i 0, PV.i 0, PV.i 0]] 0 [PV.i s.ratio, PV.i s.color.1, PV.i s.color.2.1, PV.i s.color.2.2.1, PV.i s.color.2.2.2] = (l ++ [s]).map Stop.e := by
  rw [List.map_append]; rfl
theorem step_i {i n : Nat} (h : i < n) (hn : n ≤ 1000000) : decide (((i : Nat) : Int) < ((n : Nat) : Int)) = true ∧ IntKind.wrap .i64 (((i : Nat) : Int) + 1) = (((i + 1 : Nat)) : Int) :=
  ⟨decide_eq_true (by omega), by rw [wrap64 (by omega) (by omega)]; omega⟩
theorem rdFill_loop {n : Nat} (hn : n ≤ 15) (z : List (List PV)) (a1 a2 a3 a4 a5 a6 a7 a8 a9 a10 a11 a12 a13 b1 b2 b3 b4 b5 b6 b7 b8 b9 b10 b11 b12 b13 : Int) : ∀ (j i : Nat) (pre : List Stop) (last : Int) (σ : Rs), i + j = n → pre.length = i → LenOk σ →
    rW f___celluloid_style_reader__fill [t_style_reader] at___celluloid_style_reader__fill_L1 (S___celluloid_style_reader__fill_L1 last n i σ.1 σ.2.1 σ.2.2 z a1 a2 a3 a4 a5 a6 a7 a8 a9 a10 a11 a12 a13 (pre.map Stop.e) b1 b2 b3 b4 b5 b6 b7 b8 b9 b10 b11 b12 b13) =
      some ([.i b1, .i b2, .i b3, .i b4, .i b5, .i b6, .i b7, .i b8, .i b9, .i b10, .i b11, .i b12, .l ((pre ++ (stopsP j last σ).1).map Stop.e), .i b13], [(t_style_reader, [.s (stopsP j last σ).2.1, .i (stopsP j last σ).2.2.1, .i (stopsP j last σ).2.2.2])])
  | 0, i, pre, last, σ, hi, hp, hσ => by
    obtain rfl : i = n := hi
    rw [w___celluloid_style_reader__fill_L1, decide_eq_false (by omega)]
    simp only [stopsP, List.append_nil, Bool.and_true, Bool.true_and, Bool.and_false, Bool.false_and, Bool.or_true, Bool.true_or, Bool.or_false, Bool.false_or, Bool.not_true, Bool.not_false, Option.bind_some, Option.bind_none, andB, orB, orB2, List.getD_cons_zero, List.getD_cons_succ, toB_b, toI_i, toS_s, toL_l, cond_true, cond_false, List.length_map]
  | j + 1, i, pre, last, σ, hi, hp, hσ => by
    obtain ⟨h1, h2⟩ := step_i (i := i) (n := n) (by omega) (by omega)
    have hl := lit_len hσ 1
    have ih := rdFill_loop hn z a1 a2 a3 a4 a5 a6 a7 a8 a9 a10 a11 a12 a13 b1 b2 b3 b4 b5 b6 b7 b8 b9 b10 b11 b12 b13 j (i + 1) (pre ++ [(stop1 last σ).1]) (stop1 last σ).1.ratio (stop1 last σ).2 (by omega) (by simp [hp]) (stop1_len hσ)
    rw [w___celluloid_style_reader__fill_L1]
    have hd : ∀ s : Stop, decide ((((pre.map Stop.e).length + (List.length (List.set [[PV.i 0, PV.i 0, PV.i 0, PV.i 0, PV.i 0]] 0 s.e))) + 1000) * 41 ≤ 1099511627776) = true := fun s => decide_eq_true (by simp; omega)
    simp only [h1, h2, lit_c hσ, Bool.and_true, Bool.true_and, Bool.and_false, Bool.false_and, Bool.or_true, Bool.true_or, Bool.or_false, Bool.false_or, Bool.not_true, Bool.not_false, Option.bind_some, Option.bind_none, andB, orB, orB2, List.getD_cons_zero, List.getD_cons_succ, toB_b, toI_i, toS_s, toL_l, cond_true, cond_false, List.length_map]
    cases hc : ((lit σ 1).2.2.2 == 0) with
    | true =>
      cases hc2 : decide ((lit σ 1).1 < last) with
      | true =>
        have e : stop1 last σ = (⟨(lit σ 1).1, (col (failR (lit σ 1).2 3)).1⟩, (col (failR (lit σ 1).2 3)).2) := by unfold stop1; simp only [hc, hc2, Bool.and_self, cond_true]
        rw [e] at ih
        have hd := hd ⟨(lit σ 1).1, (col (failR (lit σ 1).2 3)).1⟩
        simp only [Stop.e, List.length_map] at hd
        simp only [fail_c, col_c (fail_len hl 3), hd, Bool.and_true, Bool.true_and, Bool.and_false, Bool.false_and, Bool.or_true, Bool.true_or, Bool.or_false, Bool.false_or, Bool.not_true, Bool.not_false, Option.bind_some, Option.bind_none, andB, orB, orB2, List.getD_cons_zero, List.getD_cons_succ, toB_b, toI_i, toS_s, toL_l, cond_true, cond_false, List.length_map]
        rw [stops_row _ ⟨(lit σ 1).1, (col (failR (lit σ 1).2 3)).1⟩, ih]
        simp only [stopsP, e, List.append_assoc, List.cons_append, List.nil_append]
      | false =>
        have e : stop1 last σ = (⟨(lit σ 1).1, (col (lit σ 1).2).1⟩, (col (lit σ 1).2).2) := by unfold stop1; simp only [hc, hc2, Bool.and_false, cond_false]
        rw [e] at ih
        have hd := hd ⟨(lit σ 1).1, (col (lit σ 1).2).1⟩
        simp only [Stop.e, List.length_map] at hd
        simp only [col_c hl, hd, Bool.and_true, Bool.true_and, Bool.and_false, Bool.false_and, Bool.or_true, Bool.true_or, Bool.or_false, Bool.false_or, Bool.not_true, Bool.not_false, Option.bind_some, Option.bind_none, andB, orB, orB2, List.getD_cons_zero, List.getD_cons_succ, toB_b, toI_i, toS_s, toL_l, cond_true, cond_false, List.length_map]
        rw [stops_row _ ⟨(lit σ 1).1, (col (lit σ 1).2).1⟩, ih]
        simp only [stopsP, e, List.append_assoc, List.cons_append, List.nil_append]
    | false =>
      have e : stop1 last σ = (⟨(lit σ 1).1, (col (lit σ 1).2).1⟩, (col (lit σ 1).2).2) := by unfold stop1; simp only [hc, Bool.false_and, cond_false]
      rw [e] at ih
      have hd := hd ⟨(lit σ 1).1, (col (lit σ 1).2).1⟩
      simp only [Stop.e, List.length_map] at hd
      simp only [col_c hl, hd, Bool.and_true, Bool.true_and, Bool.and_false, Bool.false_and, Bool.or_true, Bool.true_or, Bool.or_false, Bool.false_or, Bool.not_true, Bool.not_false, Option.bind_some, Option.bind_none, andB, orB, orB2, List.getD_cons_zero, List.getD_cons_succ, toB_b, toI_i, toS_s, toL_l, cond_true, cond_false, List.length_map]
      rw [stops_row _ ⟨(lit σ 1).1, (col (lit σ 1).2).1⟩, ih]
      simp only [stopsP, e, List.append_assoc, List.cons_append, List.nil_append]
theorem pic_c (k : Int) : cW f_style_picture [.i k] [] = some ([.b (kindP k)], []) := picture_c k
theorem fillP_c {σ : Rs} (h : LenOk σ) : cW f___celluloid_style_reader__fill [.u] [(t_style_reader, [.s σ.1, .i σ.2.1, .i σ.2.2])] = some ((fillP σ).1.e, [(t_style_reader, [.s (fillP σ).2.1, .i (fillP σ).2.2.1, .i (fillP σ).2.2.2])]) := by
  have h1 := lit_len h 1
  rw [w___celluloid_style_reader__fill]
  unfold fillP
  simp only [lit_c h, Option.bind_some, Option.bind_none, andB, orB, orB2, List.getD_cons_zero, List.getD_cons_succ, toB_b, toI_i, toS_s, toL_l, cond_true, cond_false, List.length_map]
  show (bif kindS (lit σ 1).1 then _ else _) = _
  cases ks : kindS (lit σ 1).1 with
  | true => simp only [col_c h1, Fill.e, List.map_nil, Option.bind_some, Option.bind_none, andB, orB, orB2, List.getD_cons_zero, List.getD_cons_succ, toB_b, toI_i, toS_s, toL_l, cond_true, cond_false, List.length_map]
  | false =>
    simp only [pic_c, Option.bind_some, Option.bind_none, andB, orB, orB2, List.getD_cons_zero, List.getD_cons_succ, toB_b, toI_i, toS_s, toL_l, cond_true, cond_false, List.length_map]
    cases kp : kindP (lit σ 1).1 with
    | true => simp only [lit_c h1, mt_c (lit_len h1 2), Fill.e, List.map_nil, Option.bind_some, Option.bind_none, andB, orB, orB2, List.getD_cons_zero, List.getD_cons_succ, toB_b, toI_i, toS_s, toL_l, cond_true, cond_false, List.length_map]
    | false =>
      simp only [gradient_c, Option.bind_some, Option.bind_none, andB, orB, orB2, List.getD_cons_zero, List.getD_cons_succ, toB_b, toI_i, toS_s, toL_l, cond_true, cond_false, List.length_map]
      cases kg : kindG (lit σ 1).1 with
      | false => simp only [fail_c, Fill.e, List.map_nil, Option.bind_some, Option.bind_none, andB, orB, orB2, List.getD_cons_zero, List.getD_cons_succ, toB_b, toI_i, toS_s, toL_l, cond_true, cond_false, List.length_map]
      | true =>
        have h2 := mt_len h1
        have n0 := lit_pos (mt (lit σ 1).2).2 1
        have n1 := lit1_lt (mt (lit σ 1).2).2
        have hg := gradS_len h2
        have hn : ((((lit (mt (lit σ 1).2).2 1).1 % 16).toNat : Nat) : Int) = (lit (mt (lit σ 1).2).2 1).1 % 16 := by omega
        have key : ∀ b : Bool, b = (((lit (mt (lit σ 1).2).2 1).2.2.2 == 0) && badN (lit (mt (lit σ 1).2).2 1).1) → (bif b then failR (lit (mt (lit σ 1).2).2 1).2 3 else (lit (mt (lit σ 1).2).2 1).2) = gradS (mt (lit σ 1).2).2 := by rintro b rfl; rfl
        have e := rdFill_loop (n := ((lit (mt (lit σ 1).2).2 1).1 % 16).toNat) (by omega) [] 0 0 0 0 0 0 0 0 0 0 0 0 0 (lit σ 1).1 0 0 0 0 (mt (lit σ 1).2).1.1 (mt (lit σ 1).2).1.2.1 (mt (lit σ 1).2).1.2.2.1 (mt (lit σ 1).2).1.2.2.2.1 (mt (lit σ 1).2).1.2.2.2.2.1 (mt (lit σ 1).2).1.2.2.2.2.2 ((lit (mt (lit σ 1).2).2 1).1 / 64) 0 ((lit (mt (lit σ 1).2).2 1).1 % 16).toNat 0 [] 0 (gradS (mt (lit σ 1).2).2) (by omega) rfl hg
        rw [hn] at e
        simp only [mt_c h1, lit_c h2, and15 n0 n1, and48 n0 n1, div64 n0 n1, Option.bind_some, Option.bind_none, andB, orB, orB2, List.getD_cons_zero, List.getD_cons_succ, toB_b, toI_i, toS_s, toL_l, cond_true, cond_false, List.length_map]
        cases hc : ((lit (mt (lit σ 1).2).2 1).2.2.2 == 0) with
        | false =>
          have e2 := key false (by rw [hc]; rfl)
          rw [cond_false] at e2
          rw [← e2] at e ⊢
          simpa [Fill.e, toB_b] using e
        | true =>
          cases hb : badN (lit (mt (lit σ 1).2).2 1).1 with
          | false =>
            have e2 := key false (by rw [hc, hb]; rfl)
            rw [cond_false] at e2
            rw [← e2] at e ⊢
            unfold badN at hb
            simp only [hb, Option.bind_some, Option.bind_none, andB, orB, orB2, List.getD_cons_zero, List.getD_cons_succ, toB_b, toI_i, toS_s, toL_l, cond_true, cond_false, List.length_map]
            simpa [Fill.e, toB_b] using e
          | true =>
            have e2 := key true (by rw [hc, hb]; rfl)
            rw [cond_true] at e2
            rw [← e2] at e ⊢
            unfold badN at hb
            simp only [hb, fail_c, Option.bind_some, Option.bind_none, andB, orB, orB2, List.getD_cons_zero, List.getD_cons_succ, toB_b, toI_i, toS_s, toL_l, cond_true, cond_false, List.length_map]
            simpa [Fill.e, toB_b] using e
end Go.AI
set_option linter.unusedVariables false
set_option linter.unusedSimpArgs false
set_option maxRecDepth 100000
namespace Go.AI
open Go Go.Proofs

def manyP (σ : Rs) : Int × Rs := bif decide ((lit σ 1).1 > 15) then (0, failR (lit σ 1).2 7) else lit σ 1
def fillsP : Nat → Rs → List Fill × Rs
  | 0, σ => ([], σ)
  | n + 1, σ => ((fillP σ).1 :: (fillsP n (fillP σ).2).1, (fillsP n (fillP σ).2).2)
def strkP (σ : Rs) : Strk × Rs := (⟨(lit σ 2).1, (col (lit σ 2).2).1⟩, (col (lit σ 2).2).2)
def strksP : Nat → Rs → List Strk × Rs
  | 0, σ => ([], σ)
  | n + 1, σ => ((strkP σ).1 :: (strksP n (strkP σ).2).1, (strksP n (strkP σ).2).2)
def listsP (σ : Rs) : List Fill × List Strk × Rs :=
  let m := manyP σ
  let a := fillsP m.1.toNat m.2
  let k := manyP a.2
  let b := strksP k.1.toNat k.2
  (a.1, b.1, b.2)
def finT (r : List Fill × List Strk × Rs) : List Fill × List Strk × Rs := if r.2.2.2.2 ≠ 0 then ([], [], ([], 0, r.2.2.2.2)) else r
theorem many_len {σ : Rs} (h : LenOk σ) : LenOk (manyP σ).2 := by
  unfold manyP
  cases decide ((lit σ 1).1 > 15)
  · exact lit_len h 1
  · exact fail_len (lit_len h 1) 7
theorem many_bound (σ : Rs) : 0 ≤ (manyP σ).1 ∧ (manyP σ).1 ≤ 15 := by
  unfold manyP
  cases h : decide ((lit σ 1).1 > 15)
  · simp only [decide_eq_false_iff_not] at h
    exact ⟨lit_pos σ 1, by show (lit σ 1).1 ≤ 15; omega⟩
  · exact ⟨Int.le_refl _, by show (0 : Int) ≤ 15; omega⟩
theorem fillsP_len : ∀ (n : Nat) (σ : Rs), LenOk σ → LenOk (fillsP n σ).2
  | 0, σ, h => h
  | n + 1, σ, h => fillsP_len n _ (fillP_len h)
theorem strkP_len {σ : Rs} (h : LenOk σ) : LenOk (strkP σ).2 := col_len (lit_len h 2)
theorem strksP_len : ∀ (n : Nat) (σ : Rs), LenOk σ → LenOk (strksP n σ).2
  | 0, σ, h => h
  | n + 1, σ, h => strksP_len n _ (strkP_len h)
theorem many_c {σ : Rs} (h : LenOk σ) : cW f___celluloid_style_reader__many [.u] [(t_style_reader, [.s σ.1, .i σ.2.1, .i σ.2.2])] = some ([.i (manyP σ).1], [(t_style_reader, [.s (manyP σ).2.1, .i (manyP σ).2.2.1, .i (manyP σ).2.2.2])]) := by
  rw [w___celluloid_style_reader__many]
  unfold manyP
  simp only [lit_c h, Option.bind_some, Option.bind_none, andB, orB, orB2, List.getD_cons_zero, List.getD_cons_succ, toB_b, toI_i, toS_s, toL_l, cond_true, cond_false, List.length_map]
  cases decide ((lit σ 1).1 > 15)
  · rfl
  · simp only [fail_c, Option.bind_some, Option.bind_none, andB, orB, orB2, List.getD_cons_zero, List.getD_cons_succ, toB_b, toI_i, toS_s, toL_l, cond_true, cond_false, List.length_map]
theorem strk_row (l : List Strk) (s : Strk) : l.map Strk.e ++ List.set [[PV.i 0, PV.i 0, PV.i 0, PV.i 0, PV.i 0]] 0 [PV.i s.width, PV.i s.color.1, PV.i s.color.2.1, PV.i s.color.2.2.1, PV.i s.color.2.2.2] = (l ++ [s]).map Strk.e := by
  rw [List.map_append]; rfl
theorem fill_row (l : List Fill) (f : Fill) : l.map Fill.e ++ List.set [[PV.i 0, PV.i 0, PV.i 0, PV.i 0, PV.i 0, PV.i 0, PV.i 0, PV.i 0, PV.i 0, PV.i 0, PV.i 0, PV.i 0, PV.l [], PV.i 0]] 0 [PV.i f.kind, PV.i f.color.1, PV.i f.color.2.1, PV.i f.color.2.2.1, PV.i f.color.2.2.2, PV.i f.mat.1, PV.i f.mat.2.1, PV.i f.mat.2.2.1, PV.i f.mat.2.2.2.1, PV.i f.mat.2.2.2.2.1, PV.i f.mat.2.2.2.2.2, PV.i f.spread, PV.l (f.stops.map Stop.e), PV.i f.id] = (l ++ [f]).map Fill.e := by
  rw [List.map_append]; rfl
def encT (r : List Fill × List Strk × Rs) : Res := ([.l (r.1.map Fill.e), .l (r.2.1.map Strk.e), .s r.2.2.1, .i r.2.2.2.1, .i r.2.2.2.2], [])
theorem take_loop2 {n : Nat} (hn : n ≤ 15) (L : List Fill) (o1 : List UInt8) (o2 : Int) : ∀ (j i : Nat) (pre : List Strk) (σ : Rs), i + j = n → pre.length = i → LenOk σ →
    rW f_style_Take [] at_style_Take_L2 (S_style_Take_L2 n i (L.map Fill.e) (pre.map Strk.e) o1 o2 σ.1 σ.2.1 σ.2.2) = some (encT (finT (L, pre ++ (strksP j σ).1, (strksP j σ).2)))
  | 0, i, pre, σ, hi, hp, hσ => by
    obtain rfl : i = n := hi
    rw [w_style_Take_L2, decide_eq_false (by omega)]
    unfold finT encT
    by_cases h : σ.2.2 = 0
    · rw [show (σ.2.2 != 0) = false by simp [h], if_neg (by simp [strksP, h])]
      simp [strksP, h]
    · rw [show (σ.2.2 != 0) = true by simp [h], if_pos (by simp [strksP, h])]; rfl
  | j + 1, i, pre, σ, hi, hp, hσ => by
    obtain ⟨h1, h2⟩ := step_i (i := i) (n := n) (by omega) (by omega)
    have ih := take_loop2 hn L o1 o2 j (i + 1) (pre ++ [(strkP σ).1]) (strkP σ).2 (by omega) (by simp [hp]) (strkP_len hσ)
    rw [w_style_Take_L2]
    simp only [h1, h2, lit_c hσ, col_c (lit_len hσ 2), Option.bind_some, Option.bind_none, andB, orB, orB2, List.getD_cons_zero, List.getD_cons_succ, toB_b, toI_i, toS_s, toL_l, cond_true, cond_false, List.length_map]
    rw [room1 _ _ (by omega), cond_true, strk_row _ ⟨(lit σ 2).1, (col (lit σ 2).2).1⟩]
    refine ih.trans ?_
    rw [List.append_assoc]; rfl
theorem take_loop {n : Nat} (hn : n ≤ 15) (o1 : List UInt8) (o2 : Int) : ∀ (j i : Nat) (pre : List Fill) (σ : Rs), i + j = n → pre.length = i → LenOk σ →
    rW f_style_Take [] at_style_Take_L0 (S_style_Take_L0 n i (pre.map Fill.e) [] o1 o2 σ.1 σ.2.1 σ.2.2) =
      some (encT (finT (pre ++ (fillsP j σ).1, (strksP (manyP (fillsP j σ).2).1.toNat (manyP (fillsP j σ).2).2).1, (strksP (manyP (fillsP j σ).2).1.toNat (manyP (fillsP j σ).2).2).2)))
  | 0, i, pre, σ, hi, hp, hσ => by
    obtain rfl : i = n := hi
    obtain ⟨m0, m1⟩ := many_bound σ
    have e := take_loop2 (n := (manyP σ).1.toNat) (by omega) pre o1 o2 (manyP σ).1.toNat 0 [] (manyP σ).2 (by omega) rfl (many_len hσ)
    rw [w_style_Take_L0, decide_eq_false (by omega)]
    rw [show (((manyP σ).1.toNat : Nat) : Int) = (manyP σ).1 by omega] at e
    simp only [many_c hσ, fillsP, List.append_nil, Option.bind_some, Option.bind_none, andB, orB, orB2, List.getD_cons_zero, List.getD_cons_succ, toB_b, toI_i, toS_s, toL_l, cond_true, cond_false, List.length_map]
    exact e
  | j + 1, i, pre, σ, hi, hp, hσ => by
    obtain ⟨h1, h2⟩ := step_i (i := i) (n := n) (by omega) (by omega)
    have ih := take_loop hn o1 o2 j (i + 1) (pre ++ [(fillP σ).1]) (fillP σ).2 (by omega) (by simp [hp]) (fillP_len hσ)
    rw [w_style_Take_L0]
    simp only [h1, h2, fillP_c hσ, Fill.e, Option.bind_some, Option.bind_none, andB, orB, orB2, List.getD_cons_zero, List.getD_cons_succ, toB_b, toI_i, toS_s, toL_l, cond_true, cond_false, List.length_map]
    rw [room1 _ _ (by omega), cond_true, fill_row]
    refine ih.trans ?_
    rw [List.append_assoc]; rfl
def takeF (s : List UInt8) (a : Int) : List Fill × List Strk × Rs := finT (listsP (s, a, 0))
theorem Take_c {s : List UInt8} (h : s.length ≤ 2 ^ 40) (a : Int) : cW f_style_Take [.s s, .i a] [] = some (encT (takeF s a)) := by
  have hσ : LenOk (s, a, 0) := h
  obtain ⟨m0, m1⟩ := many_bound (s, a, 0)
  have e1 := many_c hσ
  have e := take_loop (n := (manyP (s, a, 0)).1.toNat) (by omega) [] 0 (manyP (s, a, 0)).1.toNat 0 [] (manyP (s, a, 0)).2 (by omega) rfl (many_len hσ)
  rw [show (((manyP (s, a, 0)).1.toNat : Nat) : Int) = (manyP (s, a, 0)).1 by omega] at e
  rw [w_style_Take]
  simp only at e1
  simp only [e1, Option.bind_some, Option.bind_none, andB, orB, orB2, List.getD_cons_zero, List.getD_cons_succ, toB_b, toI_i, toS_s, toL_l, cond_true, cond_false, List.length_map]
  exact e
end Go.AI
set_option linter.unusedVariables false
set_option linter.unusedSimpArgs false
set_option maxRecDepth 100000
namespace Go.AI
open Go Go.Proofs

theorem rlit_c {σ : Rs} (h : LenOk σ) (n : Int) : cW f_celluloidref08_Little [.s σ.1, .i σ.2.1, .i σ.2.2, .i n] [] = some ([.i (lit σ n).1, .s (lit σ n).2.1, .i (lit σ n).2.2.1, .i (lit σ n).2.2.2], []) := by
  rw [w_celluloidref08_Little]
  unfold lit
  by_cases he : σ.2.2 = 0
  · rw [show (σ.2.2 != 0) = false by simp [he], (rlittle_ans h σ.2.1 n).c, if_neg (by simp [he])]
    rfl
  · rw [show (σ.2.2 != 0) = true by simp [he], if_pos he]; rfl
theorem rcol_c {σ : Rs} (h : LenOk σ) : cW f_celluloidref08_Color [.s σ.1, .i σ.2.1, .i σ.2.2] [] = some ([.i (col σ).1.1, .i (col σ).1.2.1, .i (col σ).1.2.2.1, .i (col σ).1.2.2.2, .s (col σ).2.1, .i (col σ).2.2.1, .i (col σ).2.2.2], []) := by
  rw [w_celluloidref08_Color]
  unfold col
  by_cases he : σ.2.2 = 0
  · rw [show (σ.2.2 != 0) = false by simp [he], (qtakeK_ans h σ.2.1).c, if_neg (by simp [he])]
    rfl
  · rw [show (σ.2.2 != 0) = true by simp [he], if_pos he]; rfl
theorem rmt_c {σ : Rs} (h : LenOk σ) : cW f_celluloidref08_Matrix [.s σ.1, .i σ.2.1, .i σ.2.2] [] = some ([.i (mt σ).1.1, .i (mt σ).1.2.1, .i (mt σ).1.2.2.1, .i (mt σ).1.2.2.2.1, .i (mt σ).1.2.2.2.2.1, .i (mt σ).1.2.2.2.2.2, .s (mt σ).2.1, .i (mt σ).2.2.1, .i (mt σ).2.2.2], []) := by
  rw [w_celluloidref08_Matrix]
  unfold mt
  by_cases he : σ.2.2 = 0
  · rw [show (σ.2.2 != 0) = false by simp [he], (qtakeMat_ans h σ.2.1).c, if_neg (by simp [he]), mat_same]
    rfl
  · rw [show (σ.2.2 != 0) = true by simp [he], if_pos he]; rfl
theorem lit_err {σ : Rs} (h : σ.2.2 ≠ 0) (n : Int) : lit σ n = (0, σ) := by unfold lit; rw [if_pos h]
theorem col_err {σ : Rs} (h : σ.2.2 ≠ 0) : col σ = ((0, 0, 0, 0), σ) := by unfold col; rw [if_pos h]
theorem mt_err {σ : Rs} (h : σ.2.2 ≠ 0) : mt σ = ((0, 0, 0, 0, 0, 0), σ) := by unfold mt; rw [if_pos h]
theorem fail_err {σ : Rs} (h : σ.2.2 ≠ 0) (e : Int) : failR σ e = σ := by unfold failR; rw [if_neg h]
theorem lit_val {σ : Rs} {n : Int} (h : (lit σ n).1 ≠ 0) : (lit σ n).2.2.2 = 0 ∧ σ.2.2 = 0 := by
  unfold lit at *
  split at h
  · exact absurd rfl h
  · rename_i he
    rw [if_neg he]
    unfold littleF at *
    split at h
    · exact absurd rfl h
    · rename_i hn
      rw [if_neg hn]
      refine ⟨?_, by simpa using he⟩
      rcases bytesF_cases σ.1 σ.2.1 n with e | e | ⟨_, _, _, _, _, _, e⟩ <;> rw [e] at h ⊢
      · exact absurd rfl h
      · exact absurd rfl h
theorem stop1_err {last : Int} {σ : Rs} (h : σ.2.2 ≠ 0) : (stop1 last σ).2 = σ := by
  unfold stop1
  rw [lit_err h]
  have : (σ.2.2 == 0) = false := by simpa using h
  simp only [this, Bool.false_and, cond_false, col_err h]
theorem stopsP_err : ∀ (n : Nat) {last : Int} {σ : Rs}, σ.2.2 ≠ 0 → (stopsP n last σ).2 = σ
  | 0, _, _, _ => rfl
  | n + 1, last, σ, h => by
    show (stopsP n _ (stop1 last σ).2).2 = σ
    rw [stop1_err h]; exact stopsP_err n h
/-- that stop at an error -/
def stopsQ : Nat → Int → Rs → List Stop × Rs
  | 0, _, σ => ([], σ)
  | n + 1, last, σ => bif σ.2.2 == 0 then let a := stop1 last σ; let b := stopsQ n a.1.ratio a.2; (a.1 :: b.1, b.2) else ([], σ)
theorem stopsQ_eq : ∀ (n : Nat) (last : Int) (σ : Rs), (stopsQ n last σ).2 = (stopsP n last σ).2 ∧ ((stopsP n last σ).2.2.2 = 0 → stopsQ n last σ = stopsP n last σ)
  | 0, _, _ => ⟨rfl, fun _ => rfl⟩
  | n + 1, last, σ => by
    by_cases h : σ.2.2 = 0
    · obtain ⟨a, b⟩ := stopsQ_eq n (stop1 last σ).1.ratio (stop1 last σ).2
      unfold stopsQ stopsP
      rw [show (σ.2.2 == 0) = true by simpa using h]
      exact ⟨a, fun e => by rw [cond_true]; dsimp only; rw [b e]⟩
    · have e := stopsP_err (n + 1) (last := last) h
      unfold stopsQ
      rw [show (σ.2.2 == 0) = false by simpa using h, e]
      exact ⟨rfl, fun k => absurd k h⟩
theorem rdQ_loop {n : Nat} (hn : n ≤ 15) (z : List (List PV)) (a1 a2 a3 a4 a5 a6 a7 a8 a9 a10 a11 a12 a13 : Int) (o1 : List UInt8) (o2 o3 : Int) (b1 b2 b3 b4 b5 b6 b7 b8 b9 b10 b11 b12 b13 : Int) : ∀ (j i : Nat) (pre : List Stop) (last : Int) (σ : Rs), i + j = n → pre.length = i → (pre = [] → last = 0) → (∀ p x, pre = p ++ [x] → last = x.ratio) → LenOk σ →
    rW f_celluloidref08_fill [] at_celluloidref08_fill_L1 (S_celluloidref08_fill_L1 n i σ.1 σ.2.1 σ.2.2 z a1 a2 a3 a4 a5 a6 a7 a8 a9 a10 a11 a12 a13 o1 o2 o3 (pre.map Stop.e) b1 b2 b3 b4 b5 b6 b7 b8 b9 b10 b11 b12 b13) =
      some ([.i b1, .i b2, .i b3, .i b4, .i b5, .i b6, .i b7, .i b8, .i b9, .i b10, .i b11, .i b12, .l ((pre ++ (stopsQ j last σ).1).map Stop.e), .i b13, .s (stopsQ j last σ).2.1, .i (stopsQ j last σ).2.2.1, .i (stopsQ j last σ).2.2.2], [])
  | 0, i, pre, last, σ, hi, hp, hl0, hl1, hσ => by
    obtain rfl : i = n := hi
    rw [w_celluloidref08_fill_L1, decide_eq_false (by omega)]
    simp only [stopsQ, List.append_nil, Option.bind_some, Option.bind_none, andB, orB, orB2, List.getD_cons_zero, List.getD_cons_succ, toB_b, toI_i, toS_s, toL_l, cond_true, cond_false, List.length_map]
  | j + 1, i, pre, last, σ, hi, hp, hl0, hl1, hσ => by
    obtain ⟨h1, h2⟩ := step_i (i := i) (n := n) (by omega) (by omega)
    by_cases he : σ.2.2 = 0
    · have he' : (σ.2.2 == 0) = true := by simpa using he
      have hl := lit_len hσ 1
      have ih := rdQ_loop hn z a1 a2 a3 a4 a5 a6 a7 a8 a9 a10 a11 a12 a13 o1 o2 o3 b1 b2 b3 b4 b5 b6 b7 b8 b9 b10 b11 b12 b13 j (i + 1) (pre ++ [(stop1 last σ).1]) (stop1 last σ).1.ratio (stop1 last σ).2 (by omega) (by simp [hp]) (fun e => by simp at e) (fun p x e => by have := List.append_inj_right' e rfl; simp at this; rw [this]) (stop1_len hσ)
      rw [w_celluloidref08_fill_L1]
      simp only [h1, h2, he', rlit_c hσ, Bool.and_true, Bool.true_and, Bool.and_false, Bool.false_and, Bool.or_true, Bool.true_or, Bool.or_false, Bool.false_or, Bool.not_true, Bool.not_false, Option.bind_some, Option.bind_none, andB, orB, orB2, List.getD_cons_zero, List.getD_cons_succ, toB_b, toI_i, toS_s, toL_l, cond_true, cond_false, List.length_map]
      have fin : ∀ τ : Rs, stop1 last σ = (⟨(lit σ 1).1, (col τ).1⟩, (col τ).2) → LenOk τ →
        ((cW f_celluloidref08_Color [PV.s τ.1, PV.i τ.2.1, PV.i τ.2.2] []).bind fun r16 =>
          (bif (decide ((pre.length + (List.length (List.set [[PV.i 0, PV.i 0, PV.i 0, PV.i 0, PV.i 0]] 0 [PV.i (lit σ 1).1, PV.i (r16.1.getD 0 PV.u).toI, PV.i (r16.1.getD 1 PV.u).toI, PV.i (r16.1.getD 2 PV.u).toI, PV.i (r16.1.getD 3 PV.u).toI])) + 1000) * 41 ≤ 1099511627776)) then
            rW f_celluloidref08_fill [] at_celluloidref08_fill_L1 (S_celluloidref08_fill_L1 n ((i + 1 : Nat) : Int) (r16.1.getD 4 PV.u).toS (r16.1.getD 5 PV.u).toI (r16.1.getD 6 PV.u).toI z a1 a2 a3 a4 a5 a6 a7 a8 a9 a10 a11 a12 a13 o1 o2 o3 (pre.map Stop.e ++ (List.set [[PV.i 0, PV.i 0, PV.i 0, PV.i 0, PV.i 0]] 0 [PV.i (lit σ 1).1, PV.i (r16.1.getD 0 PV.u).toI, PV.i (r16.1.getD 1 PV.u).toI, PV.i (r16.1.getD 2 PV.u).toI, PV.i (r16.1.getD 3 PV.u).toI])) b1 b2 b3 b4 b5 b6 b7 b8 b9 b10 b11 b12 b13)
          else none)) = some ([.i b1, .i b2, .i b3, .i b4, .i b5, .i b6, .i b7, .i b8, .i b9, .i b10, .i b11, .i b12, .l ((pre ++ (stopsQ (j + 1) last σ).1).map Stop.e), .i b13, .s (stopsQ (j + 1) last σ).2.1, .i (stopsQ (j + 1) last σ).2.2.1, .i (stopsQ (j + 1) last σ).2.2.2], []) := by
        intro τ e hτ
        rw [e] at ih
        simp only [rcol_c hτ, Option.bind_some, Option.bind_none, andB, orB, orB2, List.getD_cons_zero, List.getD_cons_succ, toB_b, toI_i, toS_s, toL_l, cond_true, cond_false, List.length_map]
        rw [room1 _ _ (by omega), cond_true, stops_row _ ⟨(lit σ 1).1, (col τ).1⟩]
        refine ih.trans ?_
        simp only [stopsQ, he', e, List.append_assoc, List.cons_append, List.nil_append, cond_true]
      cases hc : ((lit σ 1).2.2.2 == 0) with
      | false =>
        simp only [Bool.and_true, Bool.true_and, Bool.and_false, Bool.false_and, Bool.or_true, Bool.true_or, Bool.or_false, Bool.false_or, Bool.not_true, Bool.not_false, Option.bind_some, Option.bind_none, andB, orB, orB2, List.getD_cons_zero, List.getD_cons_succ, toB_b, toI_i, toS_s, toL_l, cond_true, cond_false, List.length_map]
        exact fin (lit σ 1).2 (by unfold stop1; simp only [hc, Bool.false_and, cond_false]) hl
      | true =>
        have hce : (lit σ 1).2.2.2 = 0 := by simpa using hc
        rcases List.eq_nil_or_concat pre with rfl | ⟨p, y, rfl⟩
        · obtain rfl : i = 0 := hp.symm
          obtain rfl := hl0 rfl
          rw [show decide (((0 : Nat) : Int) > 0) = false by simp]
          simp only [Bool.and_true, Bool.true_and, Bool.and_false, Bool.false_and, Bool.or_true, Bool.true_or, Bool.or_false, Bool.false_or, Bool.not_true, Bool.not_false, Option.bind_some, Option.bind_none, andB, orB, orB2, List.getD_cons_zero, List.getD_cons_succ, toB_b, toI_i, toS_s, toL_l, cond_true, cond_false, List.length_map]
          refine fin (lit σ 1).2 ?_ hl
          unfold stop1
          dsimp only
          rw [decide_eq_false (p := (lit σ 1).1 < 0) (by have := lit_pos σ 1; omega)]
          simp only [Bool.and_false, cond_false]
        · obtain rfl := hl1 p y (by simp)
          rw [List.concat_eq_append] at *
          have hw : IntKind.wrap .i64 (((i : Nat) : Int) - 1) = ((p.length : Nat) : Int) := by
            simp only [List.length_append, List.length_cons, List.length_nil] at hp
            rw [wrap64 (by omega) (by omega)]; omega
          have hb : inB ((p.length : Nat) : Int) (p ++ [y]).length = true := by unfold inB; simp; omega
          have ha : elemAt ((p ++ [y]).map Stop.e) ((p.length : Nat) : Int) = y.e := el_at Stop.e rfl
          rw [show decide (((i : Nat) : Int) > 0) = true by simp at hp ⊢; omega]
          simp only [hw, hb, ha, Stop.e, Bool.and_true, Bool.true_and, Bool.and_false, Bool.false_and, Bool.or_true, Bool.true_or, Bool.or_false, Bool.false_or, Bool.not_true, Bool.not_false, Option.bind_some, Option.bind_none, andB, orB, orB2, List.getD_cons_zero, List.getD_cons_succ, toB_b, toI_i, toS_s, toL_l, cond_true, cond_false, List.length_map]
          cases hc2 : decide ((lit σ 1).1 < y.ratio) with
          | true =>
            have e : failR (lit σ 1).2 3 = ((lit σ 1).2.1, (lit σ 1).2.2.1, 3) := by unfold failR; rw [if_pos hce]
            have := fin (failR (lit σ 1).2 3) (by unfold stop1; simp only [hc, hc2, Bool.and_self, cond_true]) (fail_len hl 3)
            rw [e] at this
            exact this
          | false => exact fin (lit σ 1).2 (by unfold stop1; simp only [hc2, Bool.and_false, cond_false]) hl
    · have he' : (σ.2.2 == 0) = false := by simpa using he
      rw [w_celluloidref08_fill_L1]
      simp only [h1, he', stopsQ, List.append_nil, Bool.and_true, Bool.true_and, Bool.and_false, Bool.false_and, Bool.or_true, Bool.true_or, Bool.or_false, Bool.false_or, Bool.not_true, Bool.not_false, Option.bind_some, Option.bind_none, andB, orB, orB2, List.getD_cons_zero, List.getD_cons_succ, toB_b, toI_i, toS_s, toL_l, cond_true, cond_false, List.length_map]
def fillQ (σ : Rs) : Fill × Rs :=
  let r := lit σ 1
  bif kindS r.1 then (⟨r.1, (col r.2).1, (0, 0, 0, 0, 0, 0), 0, [], 0⟩, (col r.2).2)
  else bif kindP r.1 then (⟨r.1, (0, 0, 0, 0), (mt (lit r.2 2).2).1, 0, [], (lit r.2 2).1⟩, (mt (lit r.2 2).2).2)
  else bif kindG r.1 then
    let m := mt r.2
    let n := (lit m.2 1).1
    let st := stopsQ (n % 16).toNat 0 (gradS m.2)
    (⟨r.1, (0, 0, 0, 0), m.1, n / 64, st.1, 0⟩, st.2)
  else (⟨r.1, (0, 0, 0, 0), (0, 0, 0, 0, 0, 0), 0, [], 0⟩, failR r.2 3)
theorem fillQ_eq (σ : Rs) : (fillQ σ).2 = (fillP σ).2 ∧ ((fillP σ).2.2.2 = 0 → fillQ σ = fillP σ) := by
  unfold fillQ fillP
  dsimp only
  cases kindS (lit σ 1).1
  · cases kindP (lit σ 1).1
    · cases kindG (lit σ 1).1
      · exact ⟨rfl, fun _ => rfl⟩
      · obtain ⟨a, b⟩ := stopsQ_eq ((lit (mt (lit σ 1).2).2 1).1 % 16).toNat 0 (gradS (mt (lit σ 1).2).2)
        simp only [cond_false, cond_true]
        exact ⟨a, fun e => by rw [b e]⟩
    · exact ⟨rfl, fun _ => rfl⟩
  · exact ⟨rfl, fun _ => rfl⟩
theorem fillP_err {σ : Rs} (h : σ.2.2 ≠ 0) : (fillP σ).2 = σ := by
  unfold fillP
  rw [lit_err h]
  dsimp only
  rw [show kindS 0 = true from rfl, cond_true, col_err h]
theorem tmodE {n : Int} (h : 0 ≤ n) (m : Int) : Int.tmod n m = n % m := Int.tmod_eq_emod_of_nonneg h
theorem badQ {n : Int} (h0 : 0 ≤ n) (h1 : n < 256) : (decide (IntKind.wrap .i64 (Int.tdiv n 64) > 2) || (decide (Int.tmod (IntKind.wrap .i64 (Int.tdiv n 16)) 4 > 0) || (Int.tmod n 16 == 0 || decide (Int.tmod n 16 > 8)))) = badN n := by
  have e : IntKind.wrap .i64 (Int.tdiv n 16) = n / 16 := by rw [Int.tdiv_eq_ediv_of_nonneg h0, wrap64 (by omega) (by omega)]
  rw [div64 h0 h1, e, tmodE (by omega), tmodE h0]; rfl
theorem rfill_c {σ : Rs} (h : LenOk σ) : cW f_celluloidref08_fill [.s σ.1, .i σ.2.1, .i σ.2.2] [] = some ((fillQ σ).1.e ++ [.s (fillQ σ).2.1, .i (fillQ σ).2.2.1, .i (fillQ σ).2.2.2], []) := by
  have h1 := lit_len h 1
  rw [w_celluloidref08_fill]
  unfold fillQ
  simp only [rlit_c h, Option.bind_some, Option.bind_none, andB, orB, orB2, List.getD_cons_zero, List.getD_cons_succ, toB_b, toI_i, toS_s, toL_l, cond_true, cond_false, List.length_map]
  show (bif kindS (lit σ 1).1 then _ else _) = _
  cases ks : kindS (lit σ 1).1 with
  | true => simp only [rcol_c h1, Fill.e, List.map_nil, List.cons_append, List.nil_append, Option.bind_some, Option.bind_none, andB, orB, orB2, List.getD_cons_zero, List.getD_cons_succ, toB_b, toI_i, toS_s, toL_l, cond_true, cond_false, List.length_map]
  | false =>
    simp only [cond_false]
    have grad : kindG (lit σ 1).1 = true → ∀ b : Bool, b = badN (lit (mt (lit σ 1).2).2 1).1 →
        ((bif (lit (mt (lit σ 1).2).2 1).2.2.2 == 0 then some [PV.b b] else some [PV.b false]).bind fun r9 =>
          (bif (r9.getD 0 PV.u).toB then rW f_celluloidref08_fill [] at_celluloidref08_fill_L1 (S_celluloidref08_fill_L1 (Int.tmod (lit (mt (lit σ 1).2).2 1).1 16) 0 (lit (mt (lit σ 1).2).2 1).2.1 (lit (mt (lit σ 1).2).2 1).2.2.1 3 [] 0 0 0 0 0 0 0 0 0 0 0 0 0 [] 0 0 [] (lit σ 1).1 0 0 0 0 (mt (lit σ 1).2).1.1 (mt (lit σ 1).2).1.2.1 (mt (lit σ 1).2).1.2.2.1 (mt (lit σ 1).2).1.2.2.2.1 (mt (lit σ 1).2).1.2.2.2.2.1 (mt (lit σ 1).2).1.2.2.2.2.2 (IntKind.wrap .i64 (Int.tdiv (lit (mt (lit σ 1).2).2 1).1 64)) 0)
          else rW f_celluloidref08_fill [] at_celluloidref08_fill_L1 (S_celluloidref08_fill_L1 (Int.tmod (lit (mt (lit σ 1).2).2 1).1 16) 0 (lit (mt (lit σ 1).2).2 1).2.1 (lit (mt (lit σ 1).2).2 1).2.2.1 (lit (mt (lit σ 1).2).2 1).2.2.2 [] 0 0 0 0 0 0 0 0 0 0 0 0 0 [] 0 0 [] (lit σ 1).1 0 0 0 0 (mt (lit σ 1).2).1.1 (mt (lit σ 1).2).1.2.1 (mt (lit σ 1).2).1.2.2.1 (mt (lit σ 1).2).1.2.2.2.1 (mt (lit σ 1).2).1.2.2.2.2.1 (mt (lit σ 1).2).1.2.2.2.2.2 (IntKind.wrap .i64 (Int.tdiv (lit (mt (lit σ 1).2).2 1).1 64)) 0))) =
        some ((⟨(lit σ 1).1, (0, 0, 0, 0), (mt (lit σ 1).2).1, (lit (mt (lit σ 1).2).2 1).1 / 64, (stopsQ ((lit (mt (lit σ 1).2).2 1).1 % 16).toNat 0 (gradS (mt (lit σ 1).2).2)).1, 0⟩ : Fill).e ++ [.s (stopsQ ((lit (mt (lit σ 1).2).2 1).1 % 16).toNat 0 (gradS (mt (lit σ 1).2).2)).2.1, .i (stopsQ ((lit (mt (lit σ 1).2).2 1).1 % 16).toNat 0 (gradS (mt (lit σ 1).2).2)).2.2.1, .i (stopsQ ((lit (mt (lit σ 1).2).2 1).1 % 16).toNat 0 (gradS (mt (lit σ 1).2).2)).2.2.2], []) := by
      rintro kg b hb
      have h2 := mt_len h1
      have n0 := lit_pos (mt (lit σ 1).2).2 1
      have n1 := lit1_lt (mt (lit σ 1).2).2
      have hg := gradS_len h2
      have hn : ((((lit (mt (lit σ 1).2).2 1).1 % 16).toNat : Nat) : Int) = (lit (mt (lit σ 1).2).2 1).1 % 16 := by omega
      have e := rdQ_loop (n := ((lit (mt (lit σ 1).2).2 1).1 % 16).toNat) (by omega) [] 0 0 0 0 0 0 0 0 0 0 0 0 0 [] 0 0 (lit σ 1).1 0 0 0 0 (mt (lit σ 1).2).1.1 (mt (lit σ 1).2).1.2.1 (mt (lit σ 1).2).1.2.2.1 (mt (lit σ 1).2).1.2.2.2.1 (mt (lit σ 1).2).1.2.2.2.2.1 (mt (lit σ 1).2).1.2.2.2.2.2 ((lit (mt (lit σ 1).2).2 1).1 / 64) 0 ((lit (mt (lit σ 1).2).2 1).1 % 16).toNat 0 [] 0 (gradS (mt (lit σ 1).2).2) (by omega) rfl (fun _ => rfl) (fun p x e => by simp at e) hg
      rw [hn] at e
      rw [tmodE n0, div64 n0 n1]
      have hgd : gradS (mt (lit σ 1).2).2 = (bif ((lit (mt (lit σ 1).2).2 1).2.2.2 == 0) && b then failR (lit (mt (lit σ 1).2).2 1).2 3 else (lit (mt (lit σ 1).2).2 1).2) := by rw [hb]; rfl
      rw [hgd] at e ⊢
      cases hc : ((lit (mt (lit σ 1).2).2 1).2.2.2 == 0) with
      | false =>
        rw [hc] at e
        simp only [Bool.false_and, cond_false] at e ⊢
        simpa [Fill.e, toB_b] using e
      | true =>
        have hce : (lit (mt (lit σ 1).2).2 1).2.2.2 = 0 := by simpa using hc
        cases b with
        | false =>
          rw [hc] at e
          simp only [Bool.and_false, cond_false, cond_true] at e ⊢
          simpa [Fill.e, toB_b] using e
        | true =>
          have e3 : failR (lit (mt (lit σ 1).2).2 1).2 3 = ((lit (mt (lit σ 1).2).2 1).2.1, (lit (mt (lit σ 1).2).2 1).2.2.1, 3) := by unfold failR; rw [if_pos hce]
          rw [hc, e3] at e
          rw [e3]
          simp only [Bool.and_self, cond_true] at e ⊢
          simpa [Fill.e, toB_b] using e
    cases kp : kindP (lit σ 1).1 with
    | true =>
      have k0 : (lit σ 1).1 = 64 ∨ (lit σ 1).1 = 65 := by unfold kindP at kp; simpa using kp
      rcases k0 with k0 | k0
      · rw [show ((lit σ 1).1 == 64) = true by rw [k0]; rfl]
        simp only [rlit_c h1, rmt_c (lit_len h1 2), Fill.e, List.map_nil, List.cons_append, List.nil_append, Option.bind_some, Option.bind_none, andB, orB, orB2, List.getD_cons_zero, List.getD_cons_succ, toB_b, toI_i, toS_s, toL_l, cond_true, cond_false, List.length_map]
      · rw [show ((lit σ 1).1 == 64) = false by rw [k0]; rfl, show ((lit σ 1).1 == 65) = true by rw [k0]; rfl]
        simp only [rlit_c h1, rmt_c (lit_len h1 2), Fill.e, List.map_nil, List.cons_append, List.nil_append, Option.bind_some, Option.bind_none, andB, orB, orB2, List.getD_cons_zero, List.getD_cons_succ, toB_b, toI_i, toS_s, toL_l, cond_true, cond_false, List.length_map]
    | false =>
      have k1 : ((lit σ 1).1 == 64) = false ∧ ((lit σ 1).1 == 65) = false := by unfold kindP at kp; simpa using kp
      rw [k1.1, k1.2]
      simp only [cond_false]
      have n0 := lit_pos (mt (lit σ 1).2).2 1
      have n1 := lit1_lt (mt (lit σ 1).2).2
      cases kg : kindG (lit σ 1).1 with
      | true =>
        have g := grad kg _ (badQ n0 n1)
        simp only [Fill.e, List.cons_append, List.nil_append, Option.bind_some, Option.bind_none, andB, orB, orB2, List.getD_cons_zero, List.getD_cons_succ, toB_b, toI_i, toS_s, toL_l, cond_true, cond_false, List.length_map] at g
        have k0 : (lit σ 1).1 = 16 ∨ (lit σ 1).1 = 18 := by unfold kindG at kg; simpa using kg
        rcases k0 with k0 | k0
        · rw [show ((lit σ 1).1 == 16) = true by rw [k0]; rfl]
          simp only [rmt_c h1, rlit_c (mt_len h1), Fill.e, List.cons_append, List.nil_append, Option.bind_some, Option.bind_none, andB, orB, orB2, List.getD_cons_zero, List.getD_cons_succ, toB_b, toI_i, toS_s, toL_l, cond_true, cond_false, List.length_map]
          exact g
        · rw [show ((lit σ 1).1 == 16) = false by rw [k0]; rfl, show ((lit σ 1).1 == 18) = true by rw [k0]; rfl]
          simp only [rmt_c h1, rlit_c (mt_len h1), Fill.e, List.cons_append, List.nil_append, Option.bind_some, Option.bind_none, andB, orB, orB2, List.getD_cons_zero, List.getD_cons_succ, toB_b, toI_i, toS_s, toL_l, cond_true, cond_false, List.length_map]
          exact g
      | false =>
        have k2 : ((lit σ 1).1 == 16) = false ∧ ((lit σ 1).1 == 18) = false := by unfold kindG at kg; simpa using kg
        have hz : (lit σ 1).1 ≠ 0 := by unfold kindS at ks; simpa using ks
        rw [k2.1, k2.2]
        simp only [cond_false, Fill.e, List.map_nil, List.cons_append, List.nil_append]
        unfold failR
        rw [if_pos (lit_val hz).1]
end Go.AI
set_option linter.unusedVariables false
set_option linter.unusedSimpArgs false
set_option maxRecDepth 100000
namespace Go.AI
open Go Go.Proofs

def manyQ (σ : Rs) : Int × Rs := ((lit σ 1).1, bif ((lit σ 1).2.2.2 == 0) && decide ((lit σ 1).1 > 15) then ((lit σ 1).2.1, (lit σ 1).2.2.1, 7) else (lit σ 1).2)
def fillsQ : Nat → Rs → List Fill × Rs
  | 0, σ => ([], σ)
  | n + 1, σ => bif σ.2.2 == 0 then ((fillQ σ).1 :: (fillsQ n (fillQ σ).2).1, (fillsQ n (fillQ σ).2).2) else ([], σ)
def strksQ : Nat → Rs → List Strk × Rs
  | 0, σ => ([], σ)
  | n + 1, σ => bif σ.2.2 == 0 then ((strkP σ).1 :: (strksQ n (strkP σ).2).1, (strksQ n (strkP σ).2).2) else ([], σ)
theorem fillsQ_yes {n : Nat} {σ : Rs} (h : (σ.2.2 == 0) = true) : fillsQ (n + 1) σ = ((fillQ σ).1 :: (fillsQ n (fillQ σ).2).1, (fillsQ n (fillQ σ).2).2) := by
  show (bif _ then _ else _) = _
  rw [h]; rfl
theorem strksQ_yes {n : Nat} {σ : Rs} (h : (σ.2.2 == 0) = true) : strksQ (n + 1) σ = ((strkP σ).1 :: (strksQ n (strkP σ).2).1, (strksQ n (strkP σ).2).2) := by
  show (bif _ then _ else _) = _
  rw [h]; rfl
theorem fillQ_len {σ : Rs} (h : LenOk σ) : LenOk (fillQ σ).2 := by rw [(fillQ_eq σ).1]; exact fillP_len h
theorem manyQ_len {σ : Rs} (h : LenOk σ) : LenOk (manyQ σ).2 := by
  unfold manyQ
  cases ((lit σ 1).2.2.2 == 0) && decide ((lit σ 1).1 > 15)
  · exact lit_len h 1
  · exact lit_len h 1
theorem manyQ_bound (σ : Rs) : 0 ≤ (manyQ σ).1 ∧ (manyQ σ).1 < 256 := ⟨lit_pos σ 1, lit1_lt σ⟩
theorem rtake_loop2 {n : Nat} (hn : n ≤ 255) (L : List Fill) (o1 : List UInt8) (o2 o3 : Int) : ∀ (j i : Nat) (pre : List Strk) (σ : Rs), i + j = n → pre.length = i → LenOk σ →
    rW f_celluloidref08_Take [] at_celluloidref08_Take_L2 (S_celluloidref08_Take_L2 n i (L.map Fill.e) (pre.map Strk.e) σ.1 σ.2.1 σ.2.2 o1 o2 o3) = some (encT (finT (L, pre ++ (strksQ j σ).1, (strksQ j σ).2)))
  | 0, i, pre, σ, hi, hp, hσ => by
    obtain rfl : i = n := hi
    rw [w_celluloidref08_Take_L2, decide_eq_false (by omega)]
    unfold finT encT
    simp only [Bool.and_true, Bool.true_and, Bool.and_false, Bool.false_and, Bool.or_true, Bool.true_or, Bool.or_false, Bool.false_or, Bool.not_true, Bool.not_false, Option.bind_some, Option.bind_none, andB, orB, orB2, List.getD_cons_zero, List.getD_cons_succ, toB_b, toI_i, toS_s, toL_l, cond_true, cond_false, List.length_map]
    by_cases h : σ.2.2 = 0
    · rw [show (σ.2.2 != 0) = false by simp [h], if_neg (by simp [strksQ, h])]
      simp [strksQ, h]
    · rw [show (σ.2.2 != 0) = true by simp [h], if_pos (by simp [strksQ, h])]; rfl
  | j + 1, i, pre, σ, hi, hp, hσ => by
    obtain ⟨h1, h2⟩ := step_i (i := i) (n := n) (by omega) (by omega)
    by_cases he : σ.2.2 = 0
    · have he' : (σ.2.2 == 0) = true := by simpa using he
      have ih := rtake_loop2 hn L o1 o2 o3 j (i + 1) (pre ++ [(strkP σ).1]) (strkP σ).2 (by omega) (by simp [hp]) (strkP_len hσ)
      rw [w_celluloidref08_Take_L2]
      simp only [h1, h2, he', rlit_c hσ, rcol_c (lit_len hσ 2), Bool.and_true, Bool.true_and, Bool.and_false, Bool.false_and, Bool.or_true, Bool.true_or, Bool.or_false, Bool.false_or, Bool.not_true, Bool.not_false, Option.bind_some, Option.bind_none, andB, orB, orB2, List.getD_cons_zero, List.getD_cons_succ, toB_b, toI_i, toS_s, toL_l, cond_true, cond_false, List.length_map]
      rw [room1 _ _ (by omega), cond_true, strk_row _ ⟨(lit σ 2).1, (col (lit σ 2).2).1⟩]
      refine ih.trans ?_
      rw [strksQ_yes he', List.append_assoc]; rfl
    · have he' : (σ.2.2 == 0) = false := by simpa using he
      rw [w_celluloidref08_Take_L2]
      have hne : (σ.2.2 != 0) = true := by simp [he]
      simp only [h1, he', hne, strksQ, List.append_nil, Bool.and_true, Bool.true_and, Bool.and_false, Bool.false_and, Bool.or_true, Bool.true_or, Bool.or_false, Bool.false_or, Bool.not_true, Bool.not_false, Option.bind_some, Option.bind_none, andB, orB, orB2, List.getD_cons_zero, List.getD_cons_succ, toB_b, toI_i, toS_s, toL_l, cond_true, cond_false, List.length_map]
      unfold finT encT
      rw [if_pos he]; rfl
theorem rtake_loop {n : Nat} (hn : n ≤ 255) (o1 : List UInt8) (o2 o3 : Int) : ∀ (j i : Nat) (pre : List Fill) (σ : Rs), i + j = n → pre.length = i → LenOk σ →
    rW f_celluloidref08_Take [] at_celluloidref08_Take_L0 (S_celluloidref08_Take_L0 n i (pre.map Fill.e) [] σ.1 σ.2.1 σ.2.2 o1 o2 o3) =
      some (encT (finT (pre ++ (fillsQ j σ).1, (strksQ (manyQ (fillsQ j σ).2).1.toNat (manyQ (fillsQ j σ).2).2).1, (strksQ (manyQ (fillsQ j σ).2).1.toNat (manyQ (fillsQ j σ).2).2).2))) := by
  have out : ∀ (pre : List Fill) (σ : Rs), LenOk σ → ((cW f_celluloidref08_Little [PV.s σ.1, PV.i σ.2.1, PV.i σ.2.2, PV.i 1] []).bind fun r =>
      (bif ((r.1.getD 3 PV.u).toI == 0) && decide ((r.1.getD 0 PV.u).toI > 15) then rW f_celluloidref08_Take [] at_celluloidref08_Take_L2 (S_celluloidref08_Take_L2 (r.1.getD 0 PV.u).toI 0 (pre.map Fill.e) [] (r.1.getD 1 PV.u).toS (r.1.getD 2 PV.u).toI 7 o1 o2 o3)
        else rW f_celluloidref08_Take [] at_celluloidref08_Take_L2 (S_celluloidref08_Take_L2 (r.1.getD 0 PV.u).toI 0 (pre.map Fill.e) [] (r.1.getD 1 PV.u).toS (r.1.getD 2 PV.u).toI (r.1.getD 3 PV.u).toI o1 o2 o3))) =
      some (encT (finT (pre, (strksQ (manyQ σ).1.toNat (manyQ σ).2).1, (strksQ (manyQ σ).1.toNat (manyQ σ).2).2))) := by
    intro pre σ hσ
    obtain ⟨m0, m1⟩ := manyQ_bound σ
    have e := rtake_loop2 (n := (manyQ σ).1.toNat) (by omega) pre o1 o2 o3 (manyQ σ).1.toNat 0 [] (manyQ σ).2 (by omega) rfl (manyQ_len hσ)
    rw [show (((manyQ σ).1.toNat : Nat) : Int) = (manyQ σ).1 by omega] at e
    simp only [rlit_c hσ, Option.bind_some, Option.bind_none, andB, orB, orB2, List.getD_cons_zero, List.getD_cons_succ, toB_b, toI_i, toS_s, toL_l, cond_true, cond_false, List.length_map]
    unfold manyQ at e ⊢
    cases hc : ((lit σ 1).2.2.2 == 0) && decide ((lit σ 1).1 > 15) with
    | false => rw [hc] at e; exact e
    | true => rw [hc] at e; exact e
  intro j
  induction j with
  | zero =>
    intro i pre σ hi hp hσ
    obtain rfl : i = n := hi
    have o := out pre σ hσ
    rw [w_celluloidref08_Take_L0, decide_eq_false (by omega)]
    simp only [fillsQ, List.append_nil, Bool.and_true, Bool.true_and, Bool.and_false, Bool.false_and, Bool.or_true, Bool.true_or, Bool.or_false, Bool.false_or, Bool.not_true, Bool.not_false, Option.bind_some, Option.bind_none, andB, orB, orB2, List.getD_cons_zero, List.getD_cons_succ, toB_b, toI_i, toS_s, toL_l, cond_true, cond_false, List.length_map] at o ⊢
    exact o
  | succ j IH =>
    intro i pre σ hi hp hσ
    obtain ⟨h1, h2⟩ := step_i (i := i) (n := n) (by omega) (by omega)
    by_cases he : σ.2.2 = 0
    · have he' : (σ.2.2 == 0) = true := by simpa using he
      have ih := IH (i + 1) (pre ++ [(fillQ σ).1]) (fillQ σ).2 (by omega) (by simp [hp]) (fillQ_len hσ)
      rw [w_celluloidref08_Take_L0]
      simp only [h1, h2, he', rfill_c hσ, Fill.e, List.cons_append, List.nil_append, Bool.and_true, Bool.true_and, Bool.and_false, Bool.false_and, Bool.or_true, Bool.true_or, Bool.or_false, Bool.false_or, Bool.not_true, Bool.not_false, Option.bind_some, Option.bind_none, andB, orB, orB2, List.getD_cons_zero, List.getD_cons_succ, toB_b, toI_i, toS_s, toL_l, cond_true, cond_false, List.length_map]
      rw [room1 _ _ (by omega), cond_true, fill_row]
      refine ih.trans ?_
      rw [fillsQ_yes he', List.append_assoc]; rfl
    · have he' : (σ.2.2 == 0) = false := by simpa using he
      have o := out pre σ hσ
      rw [w_celluloidref08_Take_L0]
      simp only [h1, he', fillsQ, List.append_nil, Bool.and_true, Bool.true_and, Bool.and_false, Bool.false_and, Bool.or_true, Bool.true_or, Bool.or_false, Bool.false_or, Bool.not_true, Bool.not_false, Option.bind_some, Option.bind_none, andB, orB, orB2, List.getD_cons_zero, List.getD_cons_succ, toB_b, toI_i, toS_s, toL_l, cond_true, cond_false, List.length_map] at o ⊢
      exact o
def listsQ (σ : Rs) : List Fill × List Strk × Rs :=
  let m := manyQ σ
  let a := fillsQ m.1.toNat m.2
  let k := manyQ a.2
  let b := strksQ k.1.toNat k.2
  (a.1, b.1, b.2)
theorem rTake_q {σ : Rs} (hσ : LenOk σ) : cW f_celluloidref08_Take [.s σ.1, .i σ.2.1, .i σ.2.2] [] = some (encT (finT (listsQ σ))) := by
  obtain ⟨m0, m1⟩ := manyQ_bound σ
  have e : ∀ o1 o2 o3, _ := fun o1 o2 o3 => rtake_loop (n := (manyQ σ).1.toNat) (by omega) o1 o2 o3 (manyQ σ).1.toNat 0 [] (manyQ σ).2 (by omega) rfl (manyQ_len hσ)
  rw [show (((manyQ σ).1.toNat : Nat) : Int) = (manyQ σ).1 by omega] at e
  rw [w_celluloidref08_Take]
  simp only [rlit_c hσ, Option.bind_some, Option.bind_none, andB, orB, orB2, List.getD_cons_zero, List.getD_cons_succ, toB_b, toI_i, toS_s, toL_l, cond_true, cond_false, List.length_map]
  unfold listsQ
  unfold manyQ at e ⊢
  cases hc : ((lit σ 1).2.2.2 == 0) && decide ((lit σ 1).1 > 15) with
  | false => rw [hc] at e; exact e ..
  | true => rw [hc] at e; exact e ..
/-! ### it is the program's -/
theorem fillsP_err : ∀ (n : Nat) {σ : Rs}, σ.2.2 ≠ 0 → (fillsP n σ).2 = σ
  | 0, _, _ => rfl
  | n + 1, σ, h => by
    show (fillsP n (fillP σ).2).2 = σ
    rw [fillP_err h]; exact fillsP_err n h
theorem strkP_err {σ : Rs} (h : σ.2.2 ≠ 0) : (strkP σ).2 = σ := by unfold strkP; rw [lit_err h, col_err h]
theorem strksP_err : ∀ (n : Nat) {σ : Rs}, σ.2.2 ≠ 0 → (strksP n σ).2 = σ
  | 0, _, _ => rfl
  | n + 1, σ, h => by
    show (strksP n (strkP σ).2).2 = σ
    rw [strkP_err h]; exact strksP_err n h
theorem fillsQ_err {n : Nat} {σ : Rs} (h : σ.2.2 ≠ 0) : fillsQ n σ = ([], σ) := by
  cases n with
  | zero => rfl
  | succ n => unfold fillsQ; rw [show (σ.2.2 == 0) = false by simpa using h]; rfl
theorem strksQ_err {n : Nat} {σ : Rs} (h : σ.2.2 ≠ 0) : strksQ n σ = ([], σ) := by
  cases n with
  | zero => rfl
  | succ n => unfold strksQ; rw [show (σ.2.2 == 0) = false by simpa using h]; rfl
theorem fillsQ_eq : ∀ (n : Nat) (σ : Rs), (fillsQ n σ).2 = (fillsP n σ).2 ∧ ((fillsP n σ).2.2.2 = 0 → fillsQ n σ = fillsP n σ)
  | 0, σ => ⟨rfl, fun _ => rfl⟩
  | n + 1, σ => by
    by_cases h : σ.2.2 = 0
    · obtain ⟨a, b⟩ := fillQ_eq σ
      obtain ⟨c, d⟩ := fillsQ_eq n (fillP σ).2
      unfold fillsQ fillsP
      rw [show (σ.2.2 == 0) = true by simpa using h, cond_true, a]
      refine ⟨c, fun e => ?_⟩
      have hz : (fillP σ).2.2.2 = 0 := by
        by_cases hz : (fillP σ).2.2.2 = 0
        · exact hz
        · rw [show (fillsP n (fillP σ).2).2 = (fillP σ).2 from fillsP_err n hz] at e; exact e
      rw [d e, b hz]
    · have e := fillsP_err (n + 1) h
      rw [fillsQ_err h, e]
      exact ⟨rfl, fun k => absurd k h⟩
theorem strksQ_eq : ∀ (n : Nat) (σ : Rs), (strksQ n σ).2 = (strksP n σ).2 ∧ ((strksP n σ).2.2.2 = 0 → strksQ n σ = strksP n σ)
  | 0, σ => ⟨rfl, fun _ => rfl⟩
  | n + 1, σ => by
    by_cases h : σ.2.2 = 0
    · obtain ⟨c, d⟩ := strksQ_eq n (strkP σ).2
      unfold strksQ strksP
      rw [show (σ.2.2 == 0) = true by simpa using h, cond_true]
      exact ⟨c, fun e => by rw [d e]⟩
    · have e := strksP_err (n + 1) h
      rw [strksQ_err h, e]
      exact ⟨rfl, fun k => absurd k h⟩
theorem manyQ_eq (σ : Rs) : manyQ σ = manyP σ ∨ ((manyQ σ).2 = (manyP σ).2 ∧ (manyP σ).1 = 0 ∧ (manyP σ).2.2.2 ≠ 0) := by
  unfold manyQ manyP
  cases h : decide ((lit σ 1).1 > 15) with
  | false => left; rw [Bool.and_false]; rfl
  | true =>
    right
    simp only [decide_eq_true_eq] at h
    obtain ⟨z, _⟩ := lit_val (σ := σ) (n := 1) (by omega)
    rw [show ((lit σ 1).2.2.2 == 0) = true by simpa using z]
    refine ⟨?_, rfl, ?_⟩
    · show ((lit σ 1).2.1, (lit σ 1).2.2.1, (7 : Int)) = failR (lit σ 1).2 7
      unfold failR; rw [if_pos z]
    · show (failR (lit σ 1).2 7).2.2 ≠ 0
      unfold failR; rw [if_pos z]
      show (7 : Int) ≠ 0; decide
theorem lists_eq (σ : Rs) : finT (listsQ σ) = finT (listsP σ) := by
  have key : ∀ a b : List Fill × List Strk × Rs, a.2.2 = b.2.2 → (b.2.2.2.2 = 0 → a = b) → finT a = finT b := by
    intro a b h1 h2
    unfold finT
    by_cases hz : b.2.2.2.2 = 0
    · rw [h2 hz]
    · rw [h1, if_pos hz, if_pos hz]
  have tail : ∀ (l l' : List Fill) (τ : Rs), (τ.2.2 = 0 → l = l') → finT (l, (strksQ (manyQ τ).1.toNat (manyQ τ).2).1, (strksQ (manyQ τ).1.toNat (manyQ τ).2).2) = finT (l', (strksP (manyP τ).1.toNat (manyP τ).2).1, (strksP (manyP τ).1.toNat (manyP τ).2).2) := by
    intro l l' τ hl
    apply key
    · show (strksQ (manyQ τ).1.toNat (manyQ τ).2).2 = (strksP (manyP τ).1.toNat (manyP τ).2).2
      rcases manyQ_eq τ with e | ⟨e1, e2, e3⟩
      · rw [e]; exact (strksQ_eq _ _).1
      · rw [e1, strksQ_err e3, strksP_err _ e3]
    · intro hz
      have hz : (strksP (manyP τ).1.toNat (manyP τ).2).2.2.2 = 0 := hz
      have hm : (manyP τ).2.2.2 = 0 := by
        by_cases hm : (manyP τ).2.2.2 = 0
        · exact hm
        · rwa [strksP_err _ hm] at hz
      have ht : τ.2.2 = 0 := by
        by_cases ht : τ.2.2 = 0
        · exact ht
        · unfold manyP at hm
          rw [lit_err ht] at hm
          exact absurd hm ht
      rcases manyQ_eq τ with e | ⟨_, _, e3⟩
      · rw [e, (strksQ_eq _ _).2 hz, hl ht]
      · exact absurd hm e3
  unfold listsQ listsP
  dsimp only
  rcases manyQ_eq σ with e | ⟨e1, e2, e3⟩
  · rw [e]
    obtain ⟨a, b⟩ := fillsQ_eq (manyP σ).1.toNat (manyP σ).2
    rw [a]
    exact tail _ _ _ (fun h => by rw [b h])
  · rw [e1, fillsQ_err e3]
    have e4 := fillsP_err (manyP σ).1.toNat e3
    rw [e4]
    exact tail _ _ _ (fun h => absurd h e3)
end Go.AI
set_option linter.unusedVariables false
set_option linter.unusedSimpArgs false
set_option maxRecDepth 100000
namespace Go.AI
open Go Go.Proofs

end Go.AI
set_option linter.unusedVariables false
set_option linter.unusedSimpArgs false
set_option maxRecDepth 100000
namespace Go.AI
open Go Go.Proofs

theorem stopsP_n : ∀ (n : Nat) (last : Int) (σ : Rs), (stopsP n last σ).1.length = n
  | 0, _, _ => rfl
  | n + 1, last, σ => by show (stopsP n _ _).1.length + 1 = n + 1; rw [stopsP_n n]
theorem fillP_n (σ : Rs) : (fillP σ).1.stops.length ≤ 15 := by
  unfold fillP
  dsimp only
  cases kindS (lit σ 1).1
  · cases kindP (lit σ 1).1
    · cases kindG (lit σ 1).1
      · exact Nat.zero_le _
      · show (stopsP _ _ _).1.length ≤ 15
        rw [stopsP_n]; omega
    · exact Nat.zero_le _
  · exact Nat.zero_le _
theorem fillsP_n : ∀ (n : Nat) (σ : Rs), (fillsP n σ).1.length = n ∧ ∀ f, f ∈ (fillsP n σ).1 → f.stops.length ≤ 15
  | 0, σ => ⟨rfl, fun f hf => by cases hf⟩
  | n + 1, σ => by
    obtain ⟨a, b⟩ := fillsP_n n (fillP σ).2
    refine ⟨by show (fillsP n _).1.length + 1 = n + 1; rw [a], fun f hf => ?_⟩
    rcases List.mem_cons.1 hf with rfl | hf
    · exact fillP_n σ
    · exact b f hf
theorem strksP_n : ∀ (n : Nat) (σ : Rs), (strksP n σ).1.length = n
  | 0, σ => rfl
  | n + 1, σ => by show (strksP n _).1.length + 1 = n + 1; rw [strksP_n n]
theorem takeF_n (s : List UInt8) (a : Int) : (takeF s a).1.length ≤ 15 ∧ (takeF s a).2.1.length ≤ 15 ∧ ∀ f, f ∈ (takeF s a).1 → f.stops.length ≤ 15 := by
  unfold takeF finT
  split
  · exact ⟨Nat.zero_le _, Nat.zero_le _, fun f hf => by cases hf⟩
  · unfold listsP
    dsimp only
    obtain ⟨m0, m1⟩ := many_bound (s, a, 0)
    obtain ⟨x, y⟩ := fillsP_n (manyP (s, a, 0)).1.toNat (manyP (s, a, 0)).2
    obtain ⟨k0, k1⟩ := many_bound (fillsP (manyP (s, a, 0)).1.toNat (manyP (s, a, 0)).2).2
    refine ⟨by rw [x]; omega, by rw [strksP_n]; omega, y⟩
theorem takeF_shorts (s : List UInt8) (a : Int) : Shorts (takeF s a).1 := fun f hf => Nat.le_trans ((takeF_n s a).2.2 f hf) (by decide)
end Go.AI
set_option linter.unusedVariables false
set_option linter.unusedSimpArgs false
set_option maxRecDepth 100000
namespace Go.AI
open Go Go.Proofs

/-! ### the document's -/
end Go.AI
set_option linter.unusedVariables false
set_option linter.unusedSimpArgs false
set_option maxRecDepth 100000
namespace Go.AI
open Go Go.Proofs

end Go.AI
set_option linter.unusedVariables false
set_option linter.unusedSimpArgs false
set_option maxRecDepth 100000
namespace Go.AI
open Go Go.Proofs

/-- a reader that went on, over so many bytes at least -/
def Val (σ τ : Rs) (k : Nat) : Prop := σ.2.2 = 0 ∧ ∃ p q : Nat, σ.2.1 = p ∧ τ = (σ.1, (q : Int), 0) ∧ 8 * k + p ≤ q
theorem Val.trans {σ τ ρ : Rs} {k j : Nat} (h : Val σ τ k) (h' : Val τ ρ j) : Val σ ρ (k + j) := by
  obtain ⟨e, p, q, hp, rfl, hk⟩ := h
  obtain ⟨e', p', q', hp', rfl, hj⟩ := h'
  have : ((q : Nat) : Int) = ((p' : Nat) : Int) := hp'
  exact ⟨e, p, q', hp, rfl, by omega⟩
theorem Val.ok {σ τ : Rs} {k : Nat} (h : Val σ τ k) : τ.2.2 = 0 := by obtain ⟨_, _, _, _, rfl, _⟩ := h; rfl
theorem Val.ok0 {σ τ : Rs} {k : Nat} (h : Val σ τ k) : σ.2.2 = 0 := h.1
theorem lit_valn {σ : Rs} {n : Nat} (h : (lit σ n).2.2.2 = 0) : Val σ (lit σ n).2 n := by
  have he : σ.2.2 = 0 := by
    by_cases he : σ.2.2 = 0
    · exact he
    · rw [lit_err he] at h; exact absurd h he
  unfold lit at *
  rw [if_neg (by simp [he])] at *
  unfold littleF at *
  split at h
  · cases h
  · rename_i hn
    rw [if_neg hn]
    rcases bytesF_cases σ.1 σ.2.1 n with e | e | ⟨a', n', ha, hn', _, _, e⟩ <;> rw [e] at h ⊢
    · cases h
    · cases h
    · have : n = n' := by omega
      subst this
      exact ⟨he, a', _, ha, rfl, by omega⟩
theorem byte_rng (b : UInt8) : inB2 0 255 ((b.toNat : Nat) : Int) = true := by
  have : b.toNat < 256 := UInt8.toNat_lt _
  unfold inB2; simp; omega
theorem col_valn {σ : Rs} (h : (col σ).2.2.2 = 0) : Val σ (col σ).2 4 ∧ rgbaB (col σ).1 = true := by
  have he : σ.2.2 = 0 := by
    by_cases he : σ.2.2 = 0
    · exact he
    · rw [col_err he] at h; exact absurd h he
  unfold col at *
  rw [if_neg (by simp [he])] at *
  unfold takeKF at *
  rcases bytesF_cases σ.1 σ.2.1 4 with e | e | ⟨a', n', ha, hn', _, _, e⟩ <;> rw [e] at h ⊢
  · cases h
  · cases h
  · dsimp only at h ⊢
    rw [if_neg (by simp)]
    refine ⟨⟨he, a', _, ha, rfl, by omega⟩, ?_⟩
    unfold rgbaB I4.l
    simp only [List.all_cons, List.all_nil, byte_rng, Bool.and_self]
theorem mt_valn {σ : Rs} (h : (mt σ).2.2.2 = 0) : Val σ (mt σ).2 (matS (mt σ).1).length ∧ mB (mt σ).1 = true := by
  have he : σ.2.2 = 0 := by
    by_cases he : σ.2.2 = 0
    · exact he
    · rw [mt_err he] at h; exact absurd h he
  unfold mt at *
  rw [if_neg (by simp [he])] at *
  by_cases hr : rightB σ.1 σ.2.1 = true
  · obtain ⟨a, b, c, d, x, y, P, e1, e2, e3, e4, e5⟩ := mat_val h
    rw [e1, e5]
    obtain ⟨r0, r1⟩ := rightB_iff.1 hr
    have hb : (beginP σ.1 σ.2.1).2.1 = (σ.2.1 + 7) / 8 * 8 := by unfold beginP alignF; rw [if_pos hr]
    have hb1 : (beginP σ.1 σ.2.1).1 = σ.1 := rfl
    rw [hb] at e3
    rw [hb1] at e4 ⊢
    have hal : alignF σ.1 P = (P + 7) / 8 * 8 := by unfold alignF; rw [if_pos (rightB_iff.2 ⟨by omega, e4⟩)]
    obtain ⟨l1, l2⟩ := (matW_ok a b c d x y ([], 0) (ok_zero [])).1.len
    refine ⟨⟨he, σ.2.1.toNat, ((P + 7) / 8 * 8).toNat, by omega, by rw [hal, Int.toNat_of_nonneg (by omega)], ?_⟩, e2⟩
    show 8 * (matW a b c d x y ([], 0)).1.length + _ ≤ _
    omega
  · have hbe : (beginP σ.1 σ.2.1).2.2 ≠ 0 := by rw [beginP_err hr]; decide
    rw [mat_err hbe] at h
    exact absurd h hbe
theorem failR_ne {σ : Rs} {e : Int} (he : e ≠ 0) : (failR σ e).2.2 ≠ 0 := by
  unfold failR
  split
  · exact he
  · assumption
theorem stop1_valn {last : Int} {σ : Rs} (h : (stop1 last σ).2.2.2 = 0) : Val σ (stop1 last σ).2 5 ∧ stopB (stop1 last σ).1 last = true := by
  unfold stop1 at *
  dsimp only at *
  cases hc : ((lit σ 1).2.2.2 == 0) && decide ((lit σ 1).1 < last) with
  | true =>
    rw [hc, cond_true, col_err (failR_ne (by decide))] at h
    exact absurd h (failR_ne (by decide))
  | false =>
    rw [hc, cond_false] at h
    simp only [cond_false]
    obtain ⟨v, hk⟩ := col_valn h
    have v1 := lit_valn (n := 1) v.ok0
    refine ⟨v1.trans v, ?_⟩
    have z := v.ok0
    rw [show ((lit σ 1).2.2.2 == 0) = true by simpa using z, Bool.true_and, decide_eq_false_iff_not] at hc
    have := lit1_lt σ
    unfold stopB
    simp only [hk, Bool.and_true, Bool.and_eq_true, decide_eq_true_eq]
    exact ⟨by omega, by omega⟩
theorem stopsP_valn : ∀ (n : Nat) (last : Int) (σ : Rs) (p : Nat), σ.2.1 = p → (stopsP n last σ).2.2.2 = 0 → Val σ (stopsP n last σ).2 (stopsS (stopsP n last σ).1).length ∧ stopsB last (stopsP n last σ).1 = true
  | 0, last, σ, p, hp, h => ⟨⟨h, p, p, hp, by rw [← hp, ← h]; rfl, by show 8 * 0 + p ≤ p; omega⟩, rfl⟩
  | n + 1, last, σ, p, hp, h => by
    have h : (stopsP n (stop1 last σ).1.ratio (stop1 last σ).2).2.2.2 = 0 := h
    have h1 : (stop1 last σ).2.2.2 = 0 := by
      by_cases h1 : (stop1 last σ).2.2.2 = 0
      · exact h1
      · rw [stopsP_err n h1] at h; exact h
    obtain ⟨v, hb⟩ := stop1_valn h1
    obtain ⟨_, _, q, _, e, _⟩ := id v
    obtain ⟨v2, hb2⟩ := stopsP_valn n (stop1 last σ).1.ratio (stop1 last σ).2 q (by rw [e]) h
    refine ⟨?_, ?_⟩
    · have := v.trans v2
      show Val σ _ (stopsS ((stop1 last σ).1 :: _)).length
      rw [stopsS_len] at this ⊢
      rwa [List.length_cons, show 5 * ((stopsP n (stop1 last σ).1.ratio (stop1 last σ).2).1.length + 1) = 5 + 5 * (stopsP n (stop1 last σ).1.ratio (stop1 last σ).2).1.length by omega]
    · show stopsB last ((stop1 last σ).1 :: _) = true
      unfold stopsB
      rw [hb, hb2]; rfl
theorem gradS_valn {σ : Rs} (h : (gradS σ).2.2 = 0) : Val σ (gradS σ) 1 ∧ badN (lit σ 1).1 = false ∧ gradS σ = (lit σ 1).2 := by
  unfold gradS at *
  cases hc : ((lit σ 1).2.2.2 == 0) && badN (lit σ 1).1 with
  | true =>
    rw [hc, cond_true] at h
    exact absurd h (failR_ne (by decide))
  | false =>
    rw [hc, cond_false] at h
    simp only [cond_false]
    rw [show ((lit σ 1).2.2.2 == 0) = true by simpa using h, Bool.true_and] at hc
    exact ⟨lit_valn (n := 1) h, hc, trivial⟩
theorem Val.pos {σ τ : Rs} {k : Nat} (h : Val σ τ k) : ∃ q : Nat, τ.2.1 = q := by obtain ⟨_, _, q, _, rfl, _⟩ := h; exact ⟨q, rfl⟩
theorem lit2_lt (σ : Rs) : (lit σ 2).1 < 65536 := by
  unfold lit littleF
  split
  · show (0 : Int) < 65536; decide
  · rw [if_neg (by decide)]
    have h := littleN_lt (bytesF σ.1 σ.2.1 2).1
    have hl : (bytesF σ.1 σ.2.1 2).1.length ≤ 2 := by
      rcases bytesF_cases σ.1 σ.2.1 2 with e | e | ⟨_, n', _, hn, _, _, e⟩ <;> rw [e]
      · exact Nat.zero_le _
      · exact Nat.zero_le _
      · simp; omega
    have : 256 ^ (bytesF σ.1 σ.2.1 2).1.length ≤ 256 ^ 2 := Nat.pow_le_pow_right (by decide) hl
    have e1 : 256 ^ 2 = 65536 := rfl
    simp only
    omega
theorem fillP_valn {σ : Rs} (h : (fillP σ).2.2.2 = 0) : Val σ (fillP σ).2 (fillS (fillP σ).1).length ∧ fillB (fillP σ).1 = true := by
  unfold fillP at *
  dsimp only at *
  cases ks : kindS (lit σ 1).1 with
  | true =>
    rw [ks, cond_true] at h
    simp only [cond_true]
    obtain ⟨v, hc⟩ := col_valn h
    have v1 := lit_valn (n := 1) v.ok0
    have k0 : (lit σ 1).1 = 0 := by unfold kindS at ks; simpa using ks
    refine ⟨?_, ?_⟩
    · have := v1.trans v
      unfold fillS
      simp only [ks, cond_true]
      exact this
    · unfold fillB
      simp only [k0]
      rw [show kindS 0 = true from rfl, cond_true, hc]; simp
  | false =>
    rw [ks, cond_false] at h
    simp only [cond_false]
    cases kp : kindP (lit σ 1).1 with
    | true =>
      rw [kp, cond_true] at h
      simp only [cond_true]
      obtain ⟨v, hm⟩ := mt_valn h
      have v2 := lit_valn (n := 2) v.ok0
      have v1 := lit_valn (n := 1) v2.ok0
      refine ⟨?_, ?_⟩
      · have := (v1.trans v2).trans v
        unfold fillS
        simp only [ks, kp, cond_true, cond_false]
        rw [List.length_append, List.length_append]
        rwa [show (oneS (lit σ 1).1).length + ((twoS (lit (lit σ 1).2 2).1).length + (matS (mt (lit (lit σ 1).2 2).2).1).length) = 1 + 2 + (matS (mt (lit (lit σ 1).2 2).2).1).length by show 1 + (2 + _) = _; omega]
      · have n0 := lit_pos (lit σ 1).2 2
        have n1 := lit2_lt (lit σ 1).2
        unfold fillB
        simp only [ks, kp, cond_true, cond_false, hm, decide_true, Bool.and_true, Bool.true_and, Bool.and_eq_true, decide_eq_true_eq]
        exact ⟨n0, n1⟩
    | false =>
      rw [kp, cond_false] at h
      simp only [cond_false]
      cases kg : kindG (lit σ 1).1 with
      | false =>
        rw [kg, cond_false] at h
        exact absurd h (failR_ne (by decide))
      | true =>
        rw [kg, cond_true] at h
        simp only [cond_true]
        have hg : (gradS (mt (lit σ 1).2).2).2.2 = 0 := by
          by_cases hg : (gradS (mt (lit σ 1).2).2).2.2 = 0
          · exact hg
          · rw [stopsP_err _ hg] at h; exact h
        obtain ⟨v3, hb, _⟩ := gradS_valn hg
        obtain ⟨q, hq⟩ := v3.pos
        obtain ⟨v4, hs⟩ := stopsP_valn _ 0 _ q hq h
        obtain ⟨v2, hm⟩ := mt_valn v3.ok0
        have v1 := lit_valn (n := 1) v2.ok0
        have n0 := lit_pos (mt (lit σ 1).2).2 1
        have n1 := lit1_lt (mt (lit σ 1).2).2
        have hn := stopsP_n ((lit (mt (lit σ 1).2).2 1).1 % 16).toNat 0 (gradS (mt (lit σ 1).2).2)
        refine ⟨?_, ?_⟩
        · have := ((v1.trans v2).trans v3).trans v4
          unfold fillS
          simp only [ks, kp, cond_false]
          rw [List.length_append, List.length_append, List.length_append]
          generalize (stopsS (stopsP ((lit (mt (lit σ 1).2).2 1).1 % 16).toNat 0 (gradS (mt (lit σ 1).2).2)).1).length = B at this ⊢
          rwa [show ∀ a : Int, (oneS (lit σ 1).1).length + ((matS (mt (lit σ 1).2).1).length + ((oneS a).length + B)) = 1 + (matS (mt (lit σ 1).2).1).length + 1 + B by intro a; show 1 + (_ + (1 + _)) = _; omega]
        · unfold badN at hb
          simp only [Bool.or_eq_false_iff, decide_eq_false_iff_not, beq_eq_false_iff_ne] at hb
          unfold fillB gradB
          simp only [ks, kp, kg, cond_false, cond_true, decide_true, Bool.and_true, hs, hm, hn, Bool.true_and, Bool.and_eq_true, decide_eq_true_eq]
          exact ⟨by omega, by omega, by omega, by omega⟩
theorem fillsP_valn : ∀ (n : Nat) (σ : Rs) (p : Nat), σ.2.1 = p → (fillsP n σ).2.2.2 = 0 → Val σ (fillsP n σ).2 (fillsS (fillsP n σ).1).length ∧ (fillsP n σ).1.all fillB = true
  | 0, σ, p, hp, h => ⟨⟨h, p, p, hp, by rw [← hp, ← h]; rfl, by show 8 * 0 + p ≤ p; omega⟩, rfl⟩
  | n + 1, σ, p, hp, h => by
    have h : (fillsP n (fillP σ).2).2.2.2 = 0 := h
    have h1 : (fillP σ).2.2.2 = 0 := by
      by_cases h1 : (fillP σ).2.2.2 = 0
      · exact h1
      · rw [fillsP_err n h1] at h; exact h
    obtain ⟨v, hb⟩ := fillP_valn h1
    obtain ⟨q, hq⟩ := v.pos
    obtain ⟨v2, hb2⟩ := fillsP_valn n (fillP σ).2 q hq h
    refine ⟨?_, ?_⟩
    · have := v.trans v2
      show Val σ _ (fillsS ((fillP σ).1 :: _)).length
      unfold fillsS
      rw [List.length_append]; exact this
    · show List.all ((fillP σ).1 :: _) fillB = true
      rw [List.all_cons, hb, hb2]; rfl
theorem strkP_valn {σ : Rs} (h : (strkP σ).2.2.2 = 0) : Val σ (strkP σ).2 6 ∧ strkB (strkP σ).1 = true := by
  obtain ⟨v, hc⟩ := col_valn h
  have v1 := lit_valn (n := 2) v.ok0
  refine ⟨v1.trans v, ?_⟩
  have n0 := lit_pos σ 2
  have n1 := lit2_lt σ
  unfold strkB strkP
  simp only [hc, Bool.and_true, Bool.and_eq_true, decide_eq_true_eq]
  exact ⟨n0, n1⟩
theorem strksP_valn : ∀ (n : Nat) (σ : Rs) (p : Nat), σ.2.1 = p → (strksP n σ).2.2.2 = 0 → Val σ (strksP n σ).2 (strksS (strksP n σ).1).length ∧ (strksP n σ).1.all strkB = true
  | 0, σ, p, hp, h => ⟨⟨h, p, p, hp, by rw [← hp, ← h]; rfl, by show 8 * 0 + p ≤ p; omega⟩, rfl⟩
  | n + 1, σ, p, hp, h => by
    have h : (strksP n (strkP σ).2).2.2.2 = 0 := h
    have h1 : (strkP σ).2.2.2 = 0 := by
      by_cases h1 : (strkP σ).2.2.2 = 0
      · exact h1
      · rw [strksP_err n h1] at h; exact h
    obtain ⟨v, hb⟩ := strkP_valn h1
    obtain ⟨q, hq⟩ := v.pos
    obtain ⟨v2, hb2⟩ := strksP_valn n (strkP σ).2 q hq h
    refine ⟨?_, ?_⟩
    · have := v.trans v2
      show Val σ _ (strksS ((strkP σ).1 :: _)).length
      unfold strksS
      rw [List.length_append]; exact this
    · show List.all ((strkP σ).1 :: _) strkB = true
      rw [List.all_cons, hb, hb2]; rfl
theorem manyP_valn {σ : Rs} (h : (manyP σ).2.2.2 = 0) : Val σ (manyP σ).2 1 := by
  unfold manyP at *
  cases hc : decide ((lit σ 1).1 > 15) with
  | true => rw [hc, cond_true] at h; exact absurd h (failR_ne (by decide))
  | false =>
    rw [hc, cond_false] at h
    simp only [cond_false]
    exact lit_valn (n := 1) h
/-- THE STAGE'S THEOREM, without the document: lists that are taken are right, and stand in bytes enough -/
theorem lists_val {σ : Rs} (h : (listsP σ).2.2.2.2 = 0) : Val σ (listsP σ).2.2 (listsS (listsP σ).1 (listsP σ).2.1).length ∧ listsB (listsP σ).1 (listsP σ).2.1 = true := by
  unfold listsP at *
  dsimp only at *
  have a3 : (manyP (fillsP (manyP σ).1.toNat (manyP σ).2).2).2.2.2 = 0 := by
    by_cases a : (manyP (fillsP (manyP σ).1.toNat (manyP σ).2).2).2.2.2 = 0
    · exact a
    · rw [strksP_err _ a] at h; exact h
  have v3 := manyP_valn a3
  have a1 : (manyP σ).2.2.2 = 0 := by
    by_cases a : (manyP σ).2.2.2 = 0
    · exact a
    · have := v3.ok0; rw [fillsP_err _ a] at this; exact this
  have v1 := manyP_valn a1
  obtain ⟨q, hq⟩ := v1.pos
  obtain ⟨v2, b2⟩ := fillsP_valn _ _ q hq v3.ok0
  obtain ⟨r, hr⟩ := v3.pos
  obtain ⟨v4, b4⟩ := strksP_valn _ _ r hr h
  obtain ⟨m0, m1⟩ := many_bound σ
  obtain ⟨k0, k1⟩ := many_bound (fillsP (manyP σ).1.toNat (manyP σ).2).2
  have n1 := (fillsP_n (manyP σ).1.toNat (manyP σ).2).1
  have n2 := strksP_n (manyP (fillsP (manyP σ).1.toNat (manyP σ).2).2).1.toNat (manyP (fillsP (manyP σ).1.toNat (manyP σ).2).2).2
  refine ⟨?_, ?_⟩
  · have := ((v1.trans v2).trans v3).trans v4
    unfold listsS
    rw [List.length_append, List.length_append, List.length_append]
    refine cast ?_ this
    congr 1
    show 1 + _ + 1 + _ = 1 + (_ + (1 + _))
    omega
  · unfold listsB
    rw [b2, b4, n1, n2]
    simp; omega
end Go.AI
