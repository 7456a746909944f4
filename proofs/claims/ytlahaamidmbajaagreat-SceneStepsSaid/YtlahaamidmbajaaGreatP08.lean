/- Fills and lines: what is the same, what is right. -/
import Derived.Test.YtlahaamidmbajaaGreatU08
import Derived.Test.YtlahaamidmbajaaGreatW
import Derived.Test.YtlahaamidmbajaaGreatP07
import Derived.Test.YtlahaamidmbajaaGreatP02
import Derived.Test.YtlahaamidmbajaaGreatAiL
set_option linter.unusedVariables false
set_option linter.unusedSimpArgs false
set_option maxRecDepth 100000
namespace Go.AI
open Go Go.Proofs

structure Stop where
  ratio : Int
  color : I4
  deriving DecidableEq
structure Fill where
  kind : Int
  color : I4
  mat : Mat
  spread : Int
  stops : List Stop
  id : Int
  deriving DecidableEq
structure Strk where
  width : Int
  color : I4
  deriving DecidableEq
def Stop.e (s : Stop) : List PV := [.i s.ratio, .i s.color.1, .i s.color.2.1, .i s.color.2.2.1, .i s.color.2.2.2]
def Strk.e (s : Strk) : List PV := [.i s.width, .i s.color.1, .i s.color.2.1, .i s.color.2.2.1, .i s.color.2.2.2]
def Fill.e (f : Fill) : List PV := [.i f.kind, .i f.color.1, .i f.color.2.1, .i f.color.2.2.1, .i f.color.2.2.2, .i f.mat.1, .i f.mat.2.1, .i f.mat.2.2.1, .i f.mat.2.2.2.1, .i f.mat.2.2.2.2.1, .i f.mat.2.2.2.2.2, .i f.spread, .l (f.stops.map Stop.e), .i f.id]

theorem qRGBA_c (c : I4) : cW f_celluloidref07_RGBA [.i c.1, .i c.2.1, .i c.2.2.1, .i c.2.2.2] [] = some ([.b (rgbaB c)], []) := (qRGBA_ans c).c
theorem qMatrix_c (a b c d x y : Int) : cW f_celluloidref07_Matrix [.i a, .i b, .i c, .i d, .i x, .i y] [] = some ([.b (matB a b c d x y)], []) := (qMatrix_ans a b c d x y).c

theorem i4_eq (a b : I4) : ((a.1 == b.1) && ((a.2.1 == b.2.1) && ((a.2.2.1 == b.2.2.1) && (a.2.2.2 == b.2.2.2)))) = decide (a = b) := by
  obtain ⟨a1, a2, a3, a4⟩ := a; obtain ⟨b1, b2, b3, b4⟩ := b
  rw [Bool.eq_iff_iff]; simp
theorem mat_eq (a b : Mat) : ((a.1 == b.1) && ((a.2.1 == b.2.1) && ((a.2.2.1 == b.2.2.1) && ((a.2.2.2.1 == b.2.2.2.1) && ((a.2.2.2.2.1 == b.2.2.2.2.1) && (a.2.2.2.2.2 == b.2.2.2.2.2)))))) = decide (a = b) := by
  obtain ⟨a1, a2, a3, a4, a5, a6⟩ := a; obtain ⟨b1, b2, b3, b4, b5, b6⟩ := b
  rw [Bool.eq_iff_iff]; simp
theorem fill_eq (a b : Fill) : ((a.kind == b.kind) && (decide (a.color = b.color) && (decide (a.mat = b.mat) && ((a.spread == b.spread) && ((a.id == b.id) && decide (a.stops = b.stops)))))) = decide (a = b) := by
  obtain ⟨a1, a2, a3, a4, a5, a6⟩ := a; obtain ⟨b1, b2, b3, b4, b5, b6⟩ := b
  rw [Bool.eq_iff_iff]; simp
  intros; exact and_comm

def mB (m : Mat) : Bool := matB m.1 m.2.1 m.2.2.1 m.2.2.2.1 m.2.2.2.2.1 m.2.2.2.2.2
def stopB (s : Stop) (last : Int) : Bool := decide (s.ratio ≥ last) && (decide (s.ratio ≤ 255) && rgbaB s.color)
def stopsB : Int → List Stop → Bool
  | _, [] => true
  | last, s :: r => stopB s last && stopsB s.ratio r
def gradB (f : Fill) : Bool := mB f.mat && (decide (f.spread ≥ 0) && (decide (f.spread ≤ 2) && (decide (((f.stops.length : Nat) : Int) ≥ 1) && decide (((f.stops.length : Nat) : Int) ≤ 8))))
def kindS (k : Int) : Bool := k == 0
def kindP (k : Int) : Bool := k == 64 || k == 65
def kindG (k : Int) : Bool := k == 16 || k == 18
def fillB (f : Fill) : Bool :=
  bif kindS f.kind then rgbaB f.color && decide (f = ⟨0, f.color, (0, 0, 0, 0, 0, 0), 0, [], 0⟩)
  else bif kindP f.kind then mB f.mat && (decide (f.id ≥ 0) && (decide (f.id < 65536) && decide (f = ⟨f.kind, (0, 0, 0, 0), f.mat, 0, [], f.id⟩)))
  else bif kindG f.kind && decide (f = ⟨f.kind, (0, 0, 0, 0), f.mat, f.spread, f.stops, 0⟩) then stopsB 0 f.stops && gradB f
  else false
theorem qFill_loop (f : Fill) (hl : f.stops.length ≤ 2 ^ 40) : ∀ (rest pre : List Stop) (last : Int), f.stops = pre ++ rest → 0 ≤ last → (pre = [] → last = 0) → (∀ p x, pre = p ++ [x] → last = x.ratio) →
    rW f_celluloidref08_Fill [] at_celluloidref08_Fill_L1 (S_celluloidref08_Fill_L1 pre.length f.kind f.color.1 f.color.2.1 f.color.2.2.1 f.color.2.2.2 f.mat.1 f.mat.2.1 f.mat.2.2.1 f.mat.2.2.2.1 f.mat.2.2.2.2.1 f.mat.2.2.2.2.2 f.spread (f.stops.map Stop.e) f.id) = some ([.b (stopsB last rest && (decide (f.color = (0, 0, 0, 0)) && ((f.id == 0) && gradB f)))], [])
  | [], pre, last, h, h0, hn, hp => by
    rw [w_celluloidref08_Fill_L1]
    simp only [el_end h, qMatrix_c, Option.bind_some, Option.bind_none, andB, orB, orB2, List.getD_cons_zero, List.getD_cons_succ, toB_b, toI_i, toS_s, toL_l, cond_true, cond_false, List.length_map]
    rw [i4_eq f.color (0, 0, 0, 0)]
    unfold stopsB gradB mB
    rw [show decide (((f.stops.length : Nat) : Int) > 0) = decide (((f.stops.length : Nat) : Int) ≥ 1) by simp; omega, show decide (((f.stops.length : Nat) : Int) < 9) = decide (((f.stops.length : Nat) : Int) ≤ 8) by simp; omega,
      show decide (f.spread < 3) = decide (f.spread ≤ 2) by simp; omega]
    congr 4
    cases decide (f.color = (0, 0, 0, 0)) <;> cases (f.id == 0) <;> cases decide (f.spread ≥ 0) <;> cases decide (f.spread ≤ 2) <;> cases decide (((f.stops.length : Nat) : Int) ≥ 1) <;> cases decide (((f.stops.length : Nat) : Int) ≤ 8) <;> cases matB f.mat.1 f.mat.2.1 f.mat.2.2.1 f.mat.2.2.2.1 f.mat.2.2.2.2.1 f.mat.2.2.2.2.2 <;> rfl
  | x :: rest, pre, last, h, h0, hn, hp => by
    obtain ⟨h1, h2, h3, h4, h5⟩ := el_step Stop.e h hl
    have key : ∀ r : Option (List PV), (r = some [PV.b (!stopB x last)]) → (r.bind fun r9 => (bif ((r9.getD 0 PV.u)).toB then some ([(PV.b false)], []) else rW f_celluloidref08_Fill [] at_celluloidref08_Fill_L1 (S_celluloidref08_Fill_L1 (pre ++ [x]).length f.kind f.color.1 f.color.2.1 f.color.2.2.1 f.color.2.2.2 f.mat.1 f.mat.2.1 f.mat.2.2.1 f.mat.2.2.2.1 f.mat.2.2.2.2.1 f.mat.2.2.2.2.2 f.spread (f.stops.map Stop.e) f.id))) = some ([.b (stopsB last (x :: rest) && (decide (f.color = (0, 0, 0, 0)) && ((f.id == 0) && gradB f)))], []) := by
      rintro r rfl
      unfold stopsB
      rw [Option.bind_some]
      cases hs : stopB x last with
      | false => rfl
      | true =>
        have h0' : 0 ≤ x.ratio := by
          unfold stopB at hs
          simp only [Bool.and_eq_true, decide_eq_true_eq] at hs
          omega
        rw [Bool.true_and]
        exact qFill_loop f hl rest _ _ h5 h0' (fun e => by simp at e) (fun p y e => by have := List.append_inj_right' e rfl; simp at this; rw [this])
    rw [w_celluloidref08_Fill_L1]
    simp only [h1, h2, h3, h4, Stop.e, qRGBA_c, Option.bind_some, Option.bind_none, andB, orB, orB2, List.getD_cons_zero, List.getD_cons_succ, toB_b, toI_i, toS_s, toL_l, cond_true, cond_false, List.length_map]
    refine key _ ?_
    unfold stopB
    rcases List.eq_nil_or_concat pre with rfl | ⟨p, y, rfl⟩
    · obtain rfl := hn rfl
      rw [show decide (((([] : List Stop).length : Nat) : Int) > 0) = false by simp]
      simp only [cond_false]
      by_cases a1 : x.ratio < 0
      · rw [decide_eq_true a1, decide_eq_false (p := x.ratio ≥ 0) (by omega)]; rfl
      · rw [decide_eq_false a1, decide_eq_true (p := x.ratio ≥ 0) (by omega)]
        by_cases a2 : x.ratio > 255
        · rw [decide_eq_true a2, decide_eq_false (p := x.ratio ≤ 255) (by omega)]; rfl
        · rw [decide_eq_false a2, decide_eq_true (p := x.ratio ≤ 255) (by omega)]; rfl
    · obtain rfl := hp p y (by simp)
      rw [List.concat_eq_append] at *
      have hw : IntKind.wrap .i64 ((((p ++ [y]).length : Nat) : Int) - 1) = ((p.length : Nat) : Int) := by
        rw [h] at hl
        simp only [List.length_append, List.length_cons, List.length_nil] at hl ⊢
        have : (2 : Nat) ^ 40 = 1099511627776 := rfl
        rw [wrap64 (by omega) (by omega)]; omega
      have h' : f.stops = p ++ y :: (x :: rest) := by rw [h]; simp
      obtain ⟨_, k2, k3, _, _⟩ := el_step Stop.e h' hl
      rw [hw, k2, k3, show decide ((((p ++ [y]).length : Nat) : Int) > 0) = true by simp]
      simp only [cond_true, Stop.e, Option.bind_some, Option.bind_none, andB, orB, orB2, List.getD_cons_zero, List.getD_cons_succ, toB_b, toI_i, toS_s, toL_l, cond_true, cond_false, List.length_map]
      by_cases a1 : x.ratio < 0
      · rw [decide_eq_true a1, decide_eq_false (p := x.ratio ≥ y.ratio) (by omega)]; rfl
      · rw [decide_eq_false a1]
        by_cases a2 : x.ratio > 255
        · rw [decide_eq_true a2, decide_eq_false (p := x.ratio ≤ 255) (by omega)]
          cases decide (x.ratio ≥ y.ratio) <;> rfl
        · rw [decide_eq_false a2, decide_eq_true (p := x.ratio ≤ 255) (by omega)]
          by_cases a3 : x.ratio < y.ratio
          · rw [decide_eq_true a3, decide_eq_false (p := x.ratio ≥ y.ratio) (by omega)]; rfl
          · rw [decide_eq_false a3, decide_eq_true (p := x.ratio ≥ y.ratio) (by omega)]; rfl
theorem dec_fill {f : Fill} {k : Int} {c : I4} {m : Mat} {sp : Int} {st : List Stop} {i : Int} : decide (f = ⟨k, c, m, sp, st, i⟩) = ((f.kind == k) && (decide (f.color = c) && (decide (f.mat = m) && ((f.spread == sp) && ((f.id == i) && decide (f.stops = st)))))) := (fill_eq f ⟨k, c, m, sp, st, i⟩).symm
theorem no_stops (f : Fill) : (((f.stops.length : Nat) : Int) == 0) = decide (f.stops = []) := by
  cases f.stops with
  | nil => rfl
  | cons a l => simp; omega
theorem qFill_c (f : Fill) (hl : f.stops.length ≤ 2 ^ 40) : cW f_celluloidref08_Fill f.e [] = some ([.b (fillB f)], []) := by
  have el := qFill_loop f hl f.stops [] 0 rfl (by omega) (fun _ => rfl) (fun p x e => by simp at e)
  simp only [Fill.e, List.cons_append, List.nil_append, List.map_nil] at ⊢
  rw [w_celluloidref08_Fill]
  simp only [qRGBA_c, qMatrix_c, Option.bind_some, Option.bind_none, andB, orB, orB2, List.getD_cons_zero, List.getD_cons_succ, toB_b, toI_i, toS_s, toL_l, cond_true, cond_false, List.length_map]
  rw [mat_eq f.mat (0, 0, 0, 0, 0, 0), i4_eq f.color (0, 0, 0, 0), no_stops]
  unfold fillB
  rw [dec_fill, dec_fill, dec_fill, beq_self_eq_true, decide_eq_true (p := f.color = f.color) rfl, decide_eq_true (p := f.mat = f.mat) rfl, beq_self_eq_true, beq_self_eq_true, decide_eq_true (p := f.stops = f.stops) rfl]
  unfold kindS kindP kindG
  by_cases k0 : f.kind = 0
  · rw [k0]
    simp only [show ((0 : Int) == 0) = true from rfl, cond_true, Bool.true_and]
    cases rgbaB f.color <;> cases decide (f.mat = (0, 0, 0, 0, 0, 0)) <;> cases (f.spread == 0) <;> cases (f.id == 0) <;> cases decide (f.stops = []) <;> rfl
  rw [show (f.kind == 0) = false by simpa using k0]
  simp only [cond_false, Bool.true_and, Bool.and_true]
  by_cases k1 : f.kind = 64
  · rw [k1]
    simp only [show ((64 : Int) == 64) = true from rfl, cond_true, Bool.true_or]
    show some ([PV.b (_ && (_ && (_ && (_ && (_ && mB f.mat)))))], []) = _
    cases decide (f.color = (0, 0, 0, 0)) <;> cases (f.spread == 0) <;> cases decide (f.id ≥ 0) <;> cases decide (f.id < 65536) <;> cases decide (f.stops = []) <;> cases mB f.mat <;> rfl
  rw [show (f.kind == 64) = false by simpa using k1]
  by_cases k2 : f.kind = 65
  · rw [k2]
    simp only [show ((65 : Int) == 65) = true from rfl, cond_true, cond_false, Bool.false_or]
    show some ([PV.b (_ && (_ && (_ && (_ && (_ && mB f.mat)))))], []) = _
    cases decide (f.color = (0, 0, 0, 0)) <;> cases (f.spread == 0) <;> cases decide (f.id ≥ 0) <;> cases decide (f.id < 65536) <;> cases decide (f.stops = []) <;> cases mB f.mat <;> rfl
  rw [show (f.kind == 65) = false by simpa using k2]
  simp only [cond_false, Bool.false_or]
  have fin : ∀ c d e : Bool, (c && (d && (e && gradB f))) = (bif (d && e) then c && gradB f else false) := by intro c d e; cases c <;> cases d <;> cases e <;> rfl
  by_cases k3 : f.kind = 16
  · rw [k3] at el ⊢
    simp only [show ((16 : Int) == 16) = true from rfl, cond_true, Bool.true_or, Bool.true_and]
    rw [← fin]; exact el
  rw [show (f.kind == 16) = false by simpa using k3]
  by_cases k4 : f.kind = 18
  · rw [k4] at el ⊢
    simp only [show ((18 : Int) == 18) = true from rfl, cond_true, cond_false, Bool.false_or, Bool.true_and]
    rw [← fin]; exact el
  rw [show (f.kind == 18) = false by simpa using k4]
  rfl
def strkB (s : Strk) : Bool := decide (s.width ≥ 0) && (decide (s.width < 65536) && rgbaB s.color)
theorem qStroke_c (s : Strk) : cW f_celluloidref08_Stroke s.e [] = some ([.b (strkB s)], []) := by
  unfold Strk.e
  rw [w_celluloidref08_Stroke]
  simp only [qRGBA_c, Option.bind_some, Option.bind_none, andB, orB, orB2, List.getD_cons_zero, List.getD_cons_succ, toB_b, toI_i, toS_s, toL_l, cond_true, cond_false, List.length_map]; rfl
end Go.AI
set_option linter.unusedVariables false
set_option linter.unusedSimpArgs false
set_option maxRecDepth 100000
namespace Go.AI
open Go Go.Proofs

def Shorts (l : List Fill) : Prop := ∀ f, f ∈ l → f.stops.length ≤ 2 ^ 40
def listsB (l : List Fill) (m : List Strk) : Bool := decide (((l.length : Nat) : Int) ≤ 15) && (decide (((m.length : Nat) : Int) ≤ 15) && (l.all fillB && m.all strkB))
theorem qRight_loop2 {l : List Fill} {m : List Strk} (hm : m.length ≤ 2 ^ 40) : ∀ (rest pre : List Strk), m = pre ++ rest →
    rW f_celluloidref08_Right [] at_celluloidref08_Right_L2 (S_celluloidref08_Right_L2 (l.map Fill.e) (m.map Strk.e) pre.length) = some ([.b (decide (((l.length : Nat) : Int) ≤ 15) && (decide (((m.length : Nat) : Int) ≤ 15) && rest.all strkB))], [])
  | [], pre, h => by
    rw [w_celluloidref08_Right_L2]
    simp only [el_end h, Option.bind_some, Option.bind_none, andB, orB, orB2, List.getD_cons_zero, List.getD_cons_succ, toB_b, toI_i, toS_s, toL_l, cond_true, cond_false, List.length_map]
    rw [show decide (((l.length : Nat) : Int) < 16) = decide (((l.length : Nat) : Int) ≤ 15) by simp; omega, show decide (((m.length : Nat) : Int) < 16) = decide (((m.length : Nat) : Int) ≤ 15) by simp; omega]
    simp
  | x :: rest, pre, h => by
    obtain ⟨h1, h2, h3, h4, h5⟩ := el_step Strk.e h hm
    have hx := qStroke_c x
    rw [w_celluloidref08_Right_L2]
    unfold Strk.e at hx
    simp only [h1, h2, h3, h4, Strk.e, hx, List.all_cons, Option.bind_some, Option.bind_none, andB, orB, orB2, List.getD_cons_zero, List.getD_cons_succ, toB_b, toI_i, toS_s, toL_l, cond_true, cond_false, List.length_map]
    cases hf : strkB x with
    | false => simp
    | true => simpa [hf] using qRight_loop2 (l := l) hm rest _ h5
theorem qRight_loop {l : List Fill} {m : List Strk} (hl : l.length ≤ 2 ^ 40) (hm : m.length ≤ 2 ^ 40) (hs : Shorts l) : ∀ (rest pre : List Fill), l = pre ++ rest →
    rW f_celluloidref08_Right [] at_celluloidref08_Right_L0 (S_celluloidref08_Right_L0 (l.map Fill.e) (m.map Strk.e) pre.length) = some ([.b (decide (((l.length : Nat) : Int) ≤ 15) && (decide (((m.length : Nat) : Int) ≤ 15) && (rest.all fillB && m.all strkB)))], [])
  | [], pre, h => by
    rw [w_celluloidref08_Right_L0]; simp only [el_end h, Option.bind_some, Option.bind_none, andB, orB, orB2, List.getD_cons_zero, List.getD_cons_succ, toB_b, toI_i, toS_s, toL_l, cond_true, cond_false, List.length_map]
    exact qRight_loop2 (l := l) hm m [] rfl
  | x :: rest, pre, h => by
    obtain ⟨h1, h2, h3, h4, h5⟩ := el_step Fill.e h hl
    have hx := qFill_c x (hs x (by rw [h]; simp))
    rw [w_celluloidref08_Right_L0]
    unfold Fill.e at hx
    simp only [h1, h2, h3, h4, Fill.e, hx, List.all_cons, Option.bind_some, Option.bind_none, andB, orB, orB2, List.getD_cons_zero, List.getD_cons_succ, toB_b, toI_i, toS_s, toL_l, cond_true, cond_false, List.length_map]
    cases hf : fillB x with
    | false => simp
    | true => simpa [hf] using qRight_loop hl hm hs rest _ h5
theorem qRight_c {l : List Fill} {m : List Strk} (hl : l.length ≤ 2 ^ 40) (hm : m.length ≤ 2 ^ 40) (hs : Shorts l) : cW f_celluloidref08_Right [.l (l.map Fill.e), .l (m.map Strk.e)] [] = some ([.b (listsB l m)], []) := by
  rw [w_celluloidref08_Right]
  exact qRight_loop hl hm hs l [] rfl

/-! ### lists are equal -/
theorem small_loop {l : List Fill} {m : List Strk} (hl : l.length ≤ 9223372036854775807) : ∀ (rest pre : List Fill), l = pre ++ rest →
    rW f_celluloidref08_Small [] at_celluloidref08_Small_L0 (S_celluloidref08_Small_L0 (l.map Fill.e) (m.map Strk.e) pre.length) = some ([.b (rest.all (fun f => decide (f.stops.length ≤ 20)) && (decide (l.length < 30) && decide (m.length < 30)))], [])
  | [], pre, h => by
    rw [w_celluloidref08_Small_L0]
    simp only [el_end h, Option.bind_some, Option.bind_none, andB, orB, orB2, List.getD_cons_zero, List.getD_cons_succ, toB_b, toI_i, toS_s, toL_l, cond_true, cond_false, List.length_map]
    rw [show decide (((l.length : Nat) : Int) < 30) = decide (l.length < 30) by simp; omega, show decide (((m.length : Nat) : Int) < 30) = decide (m.length < 30) by simp; omega]
    rfl
  | x :: rest, pre, h => by
    obtain ⟨h1, h2, h3, h4, h5⟩ := el_stepM Fill.e h hl
    rw [w_celluloidref08_Small_L0]
    simp only [h1, h2, h3, h4, Fill.e, List.all_cons, Option.bind_some, Option.bind_none, andB, orB, orB2, List.getD_cons_zero, List.getD_cons_succ, toB_b, toI_i, toS_s, toL_l, cond_true, cond_false, List.length_map]
    by_cases hx : x.stops.length ≤ 20
    · rw [decide_eq_false (p := ((x.stops.length : Nat) : Int) > 20) (by omega), decide_eq_true hx, cond_false, Bool.true_and]
      exact small_loop hl rest _ h5
    · rw [decide_eq_true (p := ((x.stops.length : Nat) : Int) > 20) (by omega), decide_eq_false hx, cond_true, Bool.false_and, Bool.false_and]
def smallB (l : List Fill) (m : List Strk) : Bool := l.all (fun f => decide (f.stops.length ≤ 20)) && (decide (l.length < 30) && decide (m.length < 30))
theorem small_c {l : List Fill} {m : List Strk} (hl : l.length ≤ 9223372036854775807) : cW f_celluloidref08_Small [.l (l.map Fill.e), .l (m.map Strk.e)] [] = some ([.b (smallB l m)], []) := by
  rw [w_celluloidref08_Small]
  exact small_loop hl l [] rfl
theorem smallB_r {l : List Fill} {m : List Strk} (h : smallB l m = true) : (∀ f, f ∈ l → f.stops.length ≤ 20) ∧ l.length < 30 ∧ m.length < 30 := by
  unfold smallB at h
  simpa using h
end Go.AI
set_option linter.unusedVariables false
set_option linter.unusedSimpArgs false
set_option maxRecDepth 100000
namespace Go.AI
open Go Go.Proofs

end Go.AI
set_option linter.unusedVariables false
set_option linter.unusedSimpArgs false
set_option maxRecDepth 100000
namespace Go.AI
open Go Go.Proofs

def lit (σ : Rs) (n : Int) : Int × Rs := if σ.2.2 ≠ 0 then (0, σ) else littleF σ.1 σ.2.1 n
def col (σ : Rs) : I4 × Rs := if σ.2.2 ≠ 0 then ((0, 0, 0, 0), σ) else takeKF σ.1 σ.2.1
def mt (σ : Rs) : Mat × Rs := if σ.2.2 ≠ 0 then ((0, 0, 0, 0, 0, 0), σ) else takeMatF (beginP σ.1 σ.2.1)
def Keeps (σ τ : Rs) : Prop := τ.1 = [] ∨ τ.1 = σ.1
theorem Keeps.refl (σ : Rs) : Keeps σ σ := .inr rfl
theorem Keeps.trans {σ τ ρ : Rs} (h : Keeps σ τ) (k : Keeps τ ρ) : Keeps σ ρ := by
  rcases k with k | k
  · exact .inl k
  · rcases h with h | h
    · exact .inl (k.trans h)
    · exact .inr (k.trans h)
theorem Keeps.len {σ τ : Rs} (k : Keeps σ τ) (h : LenOk σ) : LenOk τ := by
  unfold LenOk at *
  rcases k with k | k <;> rw [k]
  · exact Nat.zero_le _
  · exact h
end Go.AI
set_option linter.unusedVariables false
set_option linter.unusedSimpArgs false
set_option maxRecDepth 100000
namespace Go.AI
open Go Go.Proofs

end Go.AI
set_option linter.unusedVariables false
set_option linter.unusedSimpArgs false
set_option maxRecDepth 100000
namespace Go.AI
open Go Go.Proofs

end Go.AI
set_option linter.unusedVariables false
set_option linter.unusedSimpArgs false
set_option maxRecDepth 100000
namespace Go.AI
open Go Go.Proofs

/-! ### it is the program's -/
end Go.AI
set_option linter.unusedVariables false
set_option linter.unusedSimpArgs false
set_option maxRecDepth 100000
namespace Go.AI
open Go Go.Proofs

end Go.AI
set_option linter.unusedVariables false
set_option linter.unusedSimpArgs false
set_option maxRecDepth 100000
namespace Go.AI
open Go Go.Proofs

end Go.AI
set_option linter.unusedVariables false
set_option linter.unusedSimpArgs false
set_option maxRecDepth 100000
namespace Go.AI
open Go Go.Proofs

theorem PWL.split {P : Program} {us : List LTy} : ∀ {ts : List LTy} {ps : List PV}, PWL P (ts ++ us) ps → ∃ a b, ps = a ++ b ∧ PWL P ts a ∧ PWL P us b
  | [], ps, h => ⟨[], ps, rfl, ⟨rfl, fun j hj => by simp at hj⟩, h⟩
  | t :: ts, ps, h => by
    obtain ⟨p, q, rfl, hp, hq⟩ := h.cons
    obtain ⟨a, b, rfl, ha, hb⟩ := PWL.split (ts := ts) hq
    refine ⟨p :: a, b, rfl, ?_, hb⟩
    refine ⟨by simp [ha.1], fun j hj => ?_⟩
    cases j with
    | zero => exact hp
    | succ j => simpa using ha.2 j (by simpa using hj)
theorem rows_of {α : Type} {P : Program} (e : α → List PV) (wf : α → Prop) {ts : List LTy} (h : ∀ x, PWL P ts x → ∃ a, x = e a ∧ wf a) : ∀ es : List (List PV), (∀ x, x ∈ es → PWL P ts x) → ∃ l : List α, es = l.map e ∧ ∀ a, a ∈ l → wf a
  | [], _ => ⟨[], rfl, fun a ha => by cases ha⟩
  | x :: es, hx => by
    obtain ⟨a, rfl, ha⟩ := h x (hx x (by simp))
    obtain ⟨l, rfl, hl⟩ := rows_of e wf h es (fun y hy => hx y (by simp [hy]))
    exact ⟨a :: l, rfl, fun b hb => by rcases List.mem_cons.1 hb with rfl | hb; exact ha; exact hl b hb⟩
def I4.wf (c : I4) : Prop := I64 c.1 ∧ (I64 c.2.1 ∧ (I64 c.2.2.1 ∧ I64 c.2.2.2))
def Mat.wf (m : Mat) : Prop := I64 m.1 ∧ (I64 m.2.1 ∧ (I64 m.2.2.1 ∧ (I64 m.2.2.2.1 ∧ (I64 m.2.2.2.2.1 ∧ I64 m.2.2.2.2.2))))
abbrev L4 : List LTy := [.int .i64, .int .i64, .int .i64, .int .i64]
theorem i4_of {P : Program} {x : List PV} (h : PWL P L4 x) : ∃ c : I4, x = [.i c.1, .i c.2.1, .i c.2.2.1, .i c.2.2.2] ∧ c.wf := by
  obtain ⟨p1, q1, rfl, h1, r1⟩ := h.cons
  obtain ⟨p2, q2, rfl, h2, r2⟩ := r1.cons
  obtain ⟨p3, q3, rfl, h3, r3⟩ := r2.cons
  obtain ⟨p4, q4, rfl, h4, r4⟩ := r3.cons
  obtain rfl := r4.nil
  obtain ⟨x1, rfl, w1⟩ := h1.i64_of
  obtain ⟨x2, rfl, w2⟩ := h2.i64_of
  obtain ⟨x3, rfl, w3⟩ := h3.i64_of
  obtain ⟨x4, rfl, w4⟩ := h4.i64_of
  exact ⟨(x1, x2, x3, x4), rfl, w1, w2, w3, w4⟩
theorem int_cons {P : Program} {ts : List LTy} {x : List PV} (h : PWL P (.int .i64 :: ts) x) : ∃ (n : Int) (q : List PV), x = .i n :: q ∧ I64 n ∧ PWL P ts q := by
  obtain ⟨p1, q1, rfl, h1, r1⟩ := h.cons
  obtain ⟨x1, rfl, w1⟩ := h1.i64_of
  exact ⟨x1, q1, rfl, w1, r1⟩
theorem sl_cons {α : Type} {P : Program} {t : TypeId} {us : List LTy} {e : α → List PV} {wf : α → Prop} (hl : leaves P t = some us) (he : ∀ x, PWL P us x → ∃ a, x = e a ∧ wf a) {ts : List LTy} {x : List PV} (h : PWL P (.sl t :: ts) x) :
    ∃ (l : List α) (q : List PV), x = .l (l.map e) :: q ∧ l.length ≤ maxLen ∧ (∀ a, a ∈ l → wf a) ∧ PWL P ts q := by
  obtain ⟨p1, q1, rfl, h1, r1⟩ := h.cons
  obtain ⟨es, ts, rfl, hl', hn, hx⟩ := h1.sl_of
  rw [hl] at hl'
  cases hl'
  obtain ⟨l, rfl, hw⟩ := rows_of e wf he es hx
  exact ⟨l, q1, rfl, by simpa using hn, hw, r1⟩
def Stop.wf (s : Stop) : Prop := I64 s.ratio ∧ s.color.wf
theorem stop_of {P : Program} (x : List PV) (h : PWL P (.int .i64 :: L4) x) : ∃ s : Stop, x = s.e ∧ s.wf := by
  obtain ⟨n, q, rfl, hn, r⟩ := int_cons h
  obtain ⟨c, rfl, hc⟩ := i4_of r
  exact ⟨⟨n, c⟩, rfl, hn, hc⟩
def Strk.wf (s : Strk) : Prop := I64 s.width ∧ s.color.wf
theorem strk_of {P : Program} (x : List PV) (h : PWL P (.int .i64 :: L4) x) : ∃ s : Strk, x = s.e ∧ s.wf := by
  obtain ⟨n, q, rfl, hn, r⟩ := int_cons h
  obtain ⟨c, rfl, hc⟩ := i4_of r
  exact ⟨⟨n, c⟩, rfl, hn, hc⟩
def Fill.wf (f : Fill) : Prop := I64 f.kind ∧ (f.color.wf ∧ (Mat.wf f.mat ∧ (I64 f.spread ∧ (f.stops.length ≤ maxLen ∧ ((∀ s, s ∈ f.stops → s.wf) ∧ I64 f.id)))))
abbrev LFill (t : TypeId) : List LTy := [.int .i64, .int .i64, .int .i64, .int .i64, .int .i64, .int .i64, .int .i64, .int .i64, .int .i64, .int .i64, .int .i64, .int .i64, .sl t, .int .i64]
theorem fill_of {P : Program} {t : TypeId} (ht : leaves P t = some (.int .i64 :: L4)) (x : List PV) (h : PWL P (LFill t) x) : ∃ f : Fill, x = f.e ∧ f.wf := by
  obtain ⟨x0, q, rfl, w0, h⟩ := int_cons h
  obtain ⟨x1, q, rfl, w1, h⟩ := int_cons h
  obtain ⟨x2, q, rfl, w2, h⟩ := int_cons h
  obtain ⟨x3, q, rfl, w3, h⟩ := int_cons h
  obtain ⟨x4, q, rfl, w4, h⟩ := int_cons h
  obtain ⟨x5, q, rfl, w5, h⟩ := int_cons h
  obtain ⟨x6, q, rfl, w6, h⟩ := int_cons h
  obtain ⟨x7, q, rfl, w7, h⟩ := int_cons h
  obtain ⟨x8, q, rfl, w8, h⟩ := int_cons h
  obtain ⟨x9, q, rfl, w9, h⟩ := int_cons h
  obtain ⟨x10, q, rfl, w10, h⟩ := int_cons h
  obtain ⟨x11, q, rfl, w11, h⟩ := int_cons h
  obtain ⟨l, q, rfl, hl, hw, h⟩ := sl_cons (e := Stop.e) ht stop_of h
  obtain ⟨x12, q, rfl, w12, h⟩ := int_cons h
  obtain rfl := h.nil
  exact ⟨⟨x0, (x1, x2, x3, x4), (x5, x6, x7, x8, x9, x10), x11, l, x12⟩, rfl, w0, ⟨w1, w2, w3, w4⟩, ⟨w5, w6, w7, w8, w9, w10⟩, w11, hl, hw, w12⟩
end Go.AI
