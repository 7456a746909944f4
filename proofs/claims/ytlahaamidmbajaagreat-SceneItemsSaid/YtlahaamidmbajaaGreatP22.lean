/- What is nothing: shapes, morphs, bitmaps against empty ones. -/
import Derived.Test.YtlahaamidmbajaaGreatU22
import Derived.Test.YtlahaamidmbajaaGreatP09
import Derived.Test.YtlahaamidmbajaaGreatP10
import Derived.Test.YtlahaamidmbajaaGreatT22g
import Derived.Test.YtlahaamidmbajaaGreatT22h
import Derived.Test.YtlahaamidmbajaaGreatU22L
import Derived.KernelRfl
set_option linter.unusedVariables false
set_option linter.unusedSimpArgs false
set_option maxRecDepth 100000
namespace Go.AI
open Go Go.Proofs

theorem lists_z (a c : List (List PV)) : cW f_celluloidref08_SameLists [.l a, .l [], .l c, .l []] [] = some ([.b (a.isEmpty && c.isEmpty)], []) := by
  rw [w_celluloidref08_SameLists]
  cases a with
  | cons x a => simp only [List.length_cons, List.length_nil, List.isEmpty_cons, Bool.false_and, bne, show ((((a.length + 1 : Nat) : Int)) == ((0 : Nat) : Int)) = false by rw [beq_eq_false_iff_ne]; omega, Option.bind_some, Option.bind_none, andB, orB, orB2, List.getD_cons_zero, List.getD_cons_succ, toB_b, toI_i, toS_s, toL_l, cond_true, cond_false, List.length_map]; rfl
  | nil =>
    cases c with
    | cons x c => simp only [List.length_cons, List.length_nil, List.isEmpty_cons, List.isEmpty_nil, Bool.true_and, bne, show ((((c.length + 1 : Nat) : Int)) == ((0 : Nat) : Int)) = false by rw [beq_eq_false_iff_ne]; omega, show ((((0 : Nat) : Int)) == ((0 : Nat) : Int)) = true from rfl, Option.bind_some, Option.bind_none, andB, orB, orB2, List.getD_cons_zero, List.getD_cons_succ, toB_b, toI_i, toS_s, toL_l, cond_true, cond_false, List.length_map]; rfl
    | nil =>
      simp only [List.length_nil, bne, show ((((0 : Nat) : Int)) == ((0 : Nat) : Int)) = true from rfl, Option.bind_some, Option.bind_none, andB, orB, orB2, List.getD_cons_zero, List.getD_cons_succ, toB_b, toI_i, toS_s, toL_l, cond_true, cond_false, List.length_map]
      rw [w_celluloidref08_SameLists_L0]
      simp only [List.length_nil, show decide ((0 : Int) < ((0 : Nat) : Int)) = false from rfl, Option.bind_some, Option.bind_none, andB, orB, orB2, List.getD_cons_zero, List.getD_cons_succ, toB_b, toI_i, toS_s, toL_l, cond_true, cond_false, List.length_map]
      rw [w_celluloidref08_SameLists_L2]
      simp only [List.length_nil, show decide ((0 : Int) < ((0 : Nat) : Int)) = false from rfl, Option.bind_some, Option.bind_none, andB, orB, orB2, List.getD_cons_zero, List.getD_cons_succ, toB_b, toI_i, toS_s, toL_l, cond_true, cond_false, List.length_map]
      rfl
theorem recs_z (a : List (List PV)) : cW f_celluloidref09_Same [.l a, .l []] [] = some ([.b a.isEmpty], []) := by
  rw [w_celluloidref09_Same]
  cases a with
  | cons x a => simp only [List.length_cons, List.length_nil, List.isEmpty_cons, bne, show ((((a.length + 1 : Nat) : Int)) == ((0 : Nat) : Int)) = false by rw [beq_eq_false_iff_ne]; omega, Option.bind_some, Option.bind_none, andB, orB, orB2, List.getD_cons_zero, List.getD_cons_succ, toB_b, toI_i, toS_s, toL_l, cond_true, cond_false, List.length_map]; rfl
  | nil =>
    simp only [List.length_nil, bne, show ((((0 : Nat) : Int)) == ((0 : Nat) : Int)) = true from rfl, Option.bind_some, Option.bind_none, andB, orB, orB2, List.getD_cons_zero, List.getD_cons_succ, toB_b, toI_i, toS_s, toL_l, cond_true, cond_false, List.length_map]
    rw [w_celluloidref09_Same_L0]
    simp only [List.length_nil, show decide ((0 : Int) < ((0 : Nat) : Int)) = false from rfl, Option.bind_some, Option.bind_none, andB, orB, orB2, List.getD_cons_zero, List.getD_cons_succ, toB_b, toI_i, toS_s, toL_l, cond_true, cond_false, List.length_map]
    rfl
/-- an answer that is one of the two -/
def Tot (o : Option Res) : Prop := ∃ b, o = some ([.b b], [])
theorem shape_z (i l r t b : Int) (f s c : List (List PV)) : Tot (cW f_celluloidref09_Equal [.i i, .i l, .i r, .i t, .i b, .l f, .l s, .l c, .i 0, .i 0, .i 0, .i 0, .i 0, .l [], .l [], .l []] []) := by
  rw [w_celluloidref09_Equal]
  simp only [lists_z, recs_z]
  cases (i == 0) <;> cases ((l == 0) && ((r == 0) && ((t == 0) && (b == 0)))) <;> cases (f.isEmpty && s.isEmpty) <;> exact ⟨_, rfl⟩
theorem morph_z (i a1 a2 a3 a4 b1 b2 b3 b4 : Int) (f g s t c d : List (List PV)) : Tot (cW f_celluloidref10_Equal [.i i, .i a1, .i a2, .i a3, .i a4, .i b1, .i b2, .i b3, .i b4, .l f, .l g, .l s, .l t, .l c, .l d, .i 0, .i 0, .i 0, .i 0, .i 0, .i 0, .i 0, .i 0, .i 0, .l [], .l [], .l [], .l [], .l [], .l []] []) := by
  rw [w_celluloidref10_Equal]
  simp only [lists_z, recs_z]
  cases (i == 0) <;> cases ((a1 == 0) && ((a2 == 0) && ((a3 == 0) && (a4 == 0)))) <;> cases ((b1 == 0) && ((b2 == 0) && ((b3 == 0) && (b4 == 0)))) <;> cases (f.isEmpty && s.isEmpty) <;> cases (g.isEmpty && t.isEmpty) <;> cases c.isEmpty <;> exact ⟨_, rfl⟩
theorem bitmap_z (i w h : Int) (p : List (List PV)) : Tot (cW f_celluloidref11_Equal [.i i, .i w, .i h, .l p, .i 0, .i 0, .i 0, .l []] []) := by
  rw [w_celluloidref11_Equal]
  cases (i != 0)
  · cases (w != 0)
    · cases (h != 0)
      · cases p with
        | cons x p => simp only [List.length_cons, List.length_nil, bne, show ((((p.length + 1 : Nat) : Int)) == ((0 : Nat) : Int)) = false by rw [beq_eq_false_iff_ne]; omega]; exact ⟨_, rfl⟩
        | nil =>
          simp only [List.length_nil, bne, show ((((0 : Nat) : Int)) == ((0 : Nat) : Int)) = true from rfl, Option.bind_some, Option.bind_none, andB, orB, orB2, List.getD_cons_zero, List.getD_cons_succ, toB_b, toI_i, toS_s, toL_l, cond_true, cond_false, List.length_map]
          rw [w_celluloidref11_Equal_L0]
          exact ⟨_, rfl⟩
      · exact ⟨_, rfl⟩
    · exact ⟨_, rfl⟩
  · exact ⟨_, rfl⟩
end Go.AI
set_option linter.unusedVariables false
set_option linter.unusedSimpArgs false
set_option maxRecDepth 100000
namespace Go.AI
open Go Go.Proofs

theorem tot_bif {c : Bool} {x y : Option Res} (hx : Tot x) (hy : Tot y) : Tot (bif c then x else y) := by cases c; exact hy; exact hx
theorem tot_bind_bif {α : Type} {c : Bool} {x y : Option α} {f : α → Option Res} (hx : Tot (x.bind f)) (hy : Tot (y.bind f)) : Tot ((bif c then x else y).bind f) := by cases c; exact hy; exact hx
theorem tot_some {α : Type} {a : α} {f : α → Option Res} (h : Tot (f a)) : Tot ((some a).bind f) := h
theorem tot_assoc {α β : Type} {x : Option α} {g : α → Option β} {f : β → Option Res} (h : Tot (x.bind fun a => (g a).bind f)) : Tot ((x.bind g).bind f) := by rw [Option.bind_assoc]; exact h
theorem in13_c (n a b : Int) : cW f_celluloidref13_in [.i n, .i a, .i b] [] = some ([.b (inB2 a b n)], []) := by
  rw [w_celluloidref13_in]
  unfold inB2
  by_cases h : a ≤ n
  · rw [decide_eq_true (p := n ≥ a) h]; rfl
  · rw [decide_eq_false (p := n ≥ a) h]; rfl
def tl (f k : Int) : Bool := (Int.tmod (IntKind.wrap .i64 (Int.tdiv f k)) (2 : Int)) == (1 : Int)
theorem tells_c (p : Nat → Int) {k : Int} (h : k ≠ 0) : cW f_celluloidref13_Tells (itE p ++ [.i k]) [] = some ([.b (tl (p 0) k)], []) := by
  unfold itE
  simp only [List.cons_append, List.nil_append]
  rw [w_celluloidref13_Tells, show (k != 0) = true by rw [bne_iff_ne]; exact h, cond_true]
  rfl
theorem tells_2 (p : Nat → Int) : cW f_celluloidref13_Tells [.i (p 0), .i (p 1), .i (p 2), .i (p 3), .i (p 4), .i (p 5), .i (p 6), .i (p 7), .i (p 8), .i (p 9), .i (p 10), .i (p 11), .i (p 12), .i (p 13), .i (p 14), .i (p 15), .i (p 16), .i (p 17), .i (p 18), .i 2] [] = some ([.b (tl (p 0) 2)], []) := tells_c p (by decide)
theorem tells_4 (p : Nat → Int) : cW f_celluloidref13_Tells [.i (p 0), .i (p 1), .i (p 2), .i (p 3), .i (p 4), .i (p 5), .i (p 6), .i (p 7), .i (p 8), .i (p 9), .i (p 10), .i (p 11), .i (p 12), .i (p 13), .i (p 14), .i (p 15), .i (p 16), .i (p 17), .i (p 18), .i 4] [] = some ([.b (tl (p 0) 4)], []) := tells_c p (by decide)
theorem tells_8 (p : Nat → Int) : cW f_celluloidref13_Tells [.i (p 0), .i (p 1), .i (p 2), .i (p 3), .i (p 4), .i (p 5), .i (p 6), .i (p 7), .i (p 8), .i (p 9), .i (p 10), .i (p 11), .i (p 12), .i (p 13), .i (p 14), .i (p 15), .i (p 16), .i (p 17), .i (p 18), .i 8] [] = some ([.b (tl (p 0) 8)], []) := tells_c p (by decide)
theorem tells_16 (p : Nat → Int) : cW f_celluloidref13_Tells [.i (p 0), .i (p 1), .i (p 2), .i (p 3), .i (p 4), .i (p 5), .i (p 6), .i (p 7), .i (p 8), .i (p 9), .i (p 10), .i (p 11), .i (p 12), .i (p 13), .i (p 14), .i (p 15), .i (p 16), .i (p 17), .i (p 18), .i 16] [] = some ([.b (tl (p 0) 16)], []) := tells_c p (by decide)
theorem tells_64 (p : Nat → Int) : cW f_celluloidref13_Tells [.i (p 0), .i (p 1), .i (p 2), .i (p 3), .i (p 4), .i (p 5), .i (p 6), .i (p 7), .i (p 8), .i (p 9), .i (p 10), .i (p 11), .i (p 12), .i (p 13), .i (p 14), .i (p 15), .i (p 16), .i (p 17), .i (p 18), .i 64] [] = some ([.b (tl (p 0) 64)], []) := tells_c p (by decide)
theorem qCx_p (p : Nat → Int) : cW f_celluloidref07_Cx [.i (p 9), .i (p 10), .i (p 11), .i (p 12), .i (p 13), .i (p 14), .i (p 15), .i (p 16)] [] = some ([.b (cxB (I4.l (p 9, p 10, p 11, p 12)) (I4.l (p 13, p 14, p 15, p 16)))], []) := (qCx_ans (p 9, p 10, p 11, p 12) (p 13, p 14, p 15, p 16)).c
theorem place_tot (p : Nat → Int) : Tot (cW f_celluloidref13_place (itE p) []) := by
  unfold itE
  rw [w_celluloidref13_place]
  simp only [in13_c, tells_2, tells_4, tells_8, tells_16, tells_64, qMatrix_c, qCx_p]
  repeat' first
    | exact ⟨_, rfl⟩
    | apply tot_bif
    | apply tot_bind_bif
    | apply tot_some
    | apply tot_assoc
theorem place_no (p : Nat → Int) (h : inB2 1 255 (p 1) = false ∨ inB2 0 127 (p 0) = false) : cW f_celluloidref13_place (itE p) [] = some ([.b false], []) := by
  unfold itE
  rw [w_celluloidref13_place]
  simp only [in13_c]
  rcases h with h | h
  · rw [h]
    cases inB2 0 127 (p 0)
    · rfl
    · cases ((Int.tmod (IntKind.wrap .i64 (Int.tdiv (p 0) (32 : Int))) (2 : Int)) == (1 : Int))
      · cases ((Int.tmod (p 0) (4 : Int)) == (0 : Int)) <;> rfl
      · rfl
  · rw [h]
    rfl
end Go.AI
set_option linter.unusedVariables false
set_option linter.unusedSimpArgs false
set_option maxRecDepth 100000
namespace Go.AI
open Go Go.Proofs

theorem qFill_loopM (f : Fill) (hl : f.stops.length ≤ 9223372036854775807) : ∀ (rest pre : List Stop) (last : Int), f.stops = pre ++ rest → 0 ≤ last → (pre = [] → last = 0) → (∀ p x, pre = p ++ [x] → last = x.ratio) →
    rW f_celluloidref08_Fill [] at_celluloidref08_Fill_L1 (S_celluloidref08_Fill_L1 pre.length f.kind f.color.1 f.color.2.1 f.color.2.2.1 f.color.2.2.2 f.mat.1 f.mat.2.1 f.mat.2.2.1 f.mat.2.2.2.1 f.mat.2.2.2.2.1 f.mat.2.2.2.2.2 f.spread (f.stops.map Stop.e) f.id) = some ([.b (stopsB last rest && (decide (f.color = (0, 0, 0, 0)) && ((f.id == 0) && gradB f)))], [])
  | [], pre, last, h, h0, hn, hp => by
    rw [w_celluloidref08_Fill_L1]
    simp only [el_end h, qMatrix_c, Option.bind_some, Option.bind_none, andB, orB, orB2, List.getD_cons_zero, List.getD_cons_succ, toB_b, toI_i, toS_s, toL_l, cond_true, cond_false, List.length_map]
    rw [i4_eq f.color (0, 0, 0, 0)]
    unfold stopsB gradB mB
    rw [show decide (((f.stops.length : Nat) : Int) > 0) = decide (((f.stops.length : Nat) : Int) ≥ 1) by simp; omega, show decide (((f.stops.length : Nat) : Int) < 9) = decide (((f.stops.length : Nat) : Int) ≤ 8) by simp; omega,
      show decide (f.spread < 3) = decide (f.spread ≤ 2) by simp; omega]
    congr 4
    cases decide (f.color = (0, 0, 0, 0)) <;> cases (f.id == 0) <;> cases decide (f.spread ≥ 0) <;> cases decide (f.spread ≤ 2) <;> cases decide (((f.stops.length : Nat) : Int) ≥ 1) <;> cases decide (((f.stops.length : Nat) : Int) ≤ 8) <;> cases matB f.mat.1 f.mat.2.1 f.mat.2.2.1 f.mat.2.2.2.1 f.mat.2.2.2.2.1 f.mat.2.2.2.2.2 <;> rfl
  | x :: rest, pre, last, h, h0, hn, hp => by
    obtain ⟨h1, h2, h3, h4, h5⟩ := el_stepM Stop.e h hl
    have key : ∀ r : Option (List PV), (r = some [PV.b (!stopB x last)]) → (r.bind fun r9 => (bif ((r9.getD 0 PV.u)).toB then some ([(PV.b false)], []) else rW f_celluloidref08_Fill [] at_celluloidref08_Fill_L1 (S_celluloidref08_Fill_L1 (pre ++ [x]).length f.kind f.color.1 f.color.2.1 f.color.2.2.1 f.color.2.2.2 f.mat.1 f.mat.2.1 f.mat.2.2.1 f.mat.2.2.2.1 f.mat.2.2.2.2.1 f.mat.2.2.2.2.2 f.spread (f.stops.map Stop.e) f.id))) = some ([.b (stopsB last (x :: rest) && (decide (f.color = (0, 0, 0, 0)) && ((f.id == 0) && gradB f)))], []) := by
      rintro r rfl
      unfold stopsB
      rw [Option.bind_some]
      cases hs : stopB x last with
      | false => rfl
      | true =>
        have h0' : 0 ≤ x.ratio := by
          unfold stopB at hs
          simp only [Bool.and_eq_true, decide_eq_true_eq] at hs
          omega
        rw [Bool.true_and]
        exact qFill_loopM f hl rest _ _ h5 h0' (fun e => by simp at e) (fun p y e => by have := List.append_inj_right' e rfl; simp at this; rw [this])
    rw [w_celluloidref08_Fill_L1]
    simp only [h1, h2, h3, h4, Stop.e, qRGBA_c, Option.bind_some, Option.bind_none, andB, orB, orB2, List.getD_cons_zero, List.getD_cons_succ, toB_b, toI_i, toS_s, toL_l, cond_true, cond_false, List.length_map]
    refine key _ ?_
    unfold stopB
    rcases List.eq_nil_or_concat pre with rfl | ⟨p, y, rfl⟩
    · obtain rfl := hn rfl
      rw [show decide (((([] : List Stop).length : Nat) : Int) > 0) = false by simp]
      simp only [cond_false]
      by_cases a1 : x.ratio < 0
      · rw [decide_eq_true a1, decide_eq_false (p := x.ratio ≥ 0) (by omega)]; rfl
      · rw [decide_eq_false a1, decide_eq_true (p := x.ratio ≥ 0) (by omega)]
        by_cases a2 : x.ratio > 255
        · rw [decide_eq_true a2, decide_eq_false (p := x.ratio ≤ 255) (by omega)]; rfl
        · rw [decide_eq_false a2, decide_eq_true (p := x.ratio ≤ 255) (by omega)]; rfl
    · obtain rfl := hp p y (by simp)
      rw [List.concat_eq_append] at *
      have hw : IntKind.wrap .i64 ((((p ++ [y]).length : Nat) : Int) - 1) = ((p.length : Nat) : Int) := by
        rw [h] at hl
        simp only [List.length_append, List.length_cons, List.length_nil] at hl ⊢
        have : (2 : Nat) ^ 40 = 1099511627776 := rfl
        rw [wrap64 (by omega) (by omega)]; omega
      have h' : f.stops = p ++ y :: (x :: rest) := by rw [h]; simp
      obtain ⟨_, k2, k3, _, _⟩ := el_stepM Stop.e h' hl
      rw [hw, k2, k3, show decide ((((p ++ [y]).length : Nat) : Int) > 0) = true by simp]
      simp only [cond_true, Stop.e, Option.bind_some, Option.bind_none, andB, orB, orB2, List.getD_cons_zero, List.getD_cons_succ, toB_b, toI_i, toS_s, toL_l, cond_true, cond_false, List.length_map]
      by_cases a1 : x.ratio < 0
      · rw [decide_eq_true a1, decide_eq_false (p := x.ratio ≥ y.ratio) (by omega)]; rfl
      · rw [decide_eq_false a1]
        by_cases a2 : x.ratio > 255
        · rw [decide_eq_true a2, decide_eq_false (p := x.ratio ≤ 255) (by omega)]
          cases decide (x.ratio ≥ y.ratio) <;> rfl
        · rw [decide_eq_false a2, decide_eq_true (p := x.ratio ≤ 255) (by omega)]
          by_cases a3 : x.ratio < y.ratio
          · rw [decide_eq_true a3, decide_eq_false (p := x.ratio ≥ y.ratio) (by omega)]; rfl
          · rw [decide_eq_false a3, decide_eq_true (p := x.ratio ≥ y.ratio) (by omega)]; rfl
theorem qFill_cM (f : Fill) (hl : f.stops.length ≤ 9223372036854775807) : cW f_celluloidref08_Fill f.e [] = some ([.b (fillB f)], []) := by
  have el := qFill_loopM f hl f.stops [] 0 rfl (by omega) (fun _ => rfl) (fun p x e => by simp at e)
  simp only [Fill.e, List.cons_append, List.nil_append, List.map_nil] at ⊢
  rw [w_celluloidref08_Fill]
  simp only [qRGBA_c, qMatrix_c, Option.bind_some, Option.bind_none, andB, orB, orB2, List.getD_cons_zero, List.getD_cons_succ, toB_b, toI_i, toS_s, toL_l, cond_true, cond_false, List.length_map]
  rw [mat_eq f.mat (0, 0, 0, 0, 0, 0), i4_eq f.color (0, 0, 0, 0), no_stops]
  unfold fillB
  rw [dec_fill, dec_fill, dec_fill, beq_self_eq_true, decide_eq_true (p := f.color = f.color) rfl, decide_eq_true (p := f.mat = f.mat) rfl, beq_self_eq_true, beq_self_eq_true, decide_eq_true (p := f.stops = f.stops) rfl]
  unfold kindS kindP kindG
  by_cases k0 : f.kind = 0
  · rw [k0]
    simp only [show ((0 : Int) == 0) = true from rfl, cond_true, Bool.true_and]
    cases rgbaB f.color <;> cases decide (f.mat = (0, 0, 0, 0, 0, 0)) <;> cases (f.spread == 0) <;> cases (f.id == 0) <;> cases decide (f.stops = []) <;> rfl
  rw [show (f.kind == 0) = false by simpa using k0]
  simp only [cond_false, Bool.true_and, Bool.and_true]
  by_cases k1 : f.kind = 64
  · rw [k1]
    simp only [show ((64 : Int) == 64) = true from rfl, cond_true, Bool.true_or]
    show some ([PV.b (_ && (_ && (_ && (_ && (_ && mB f.mat)))))], []) = _
    cases decide (f.color = (0, 0, 0, 0)) <;> cases (f.spread == 0) <;> cases decide (f.id ≥ 0) <;> cases decide (f.id < 65536) <;> cases decide (f.stops = []) <;> cases mB f.mat <;> rfl
  rw [show (f.kind == 64) = false by simpa using k1]
  by_cases k2 : f.kind = 65
  · rw [k2]
    simp only [show ((65 : Int) == 65) = true from rfl, cond_true, cond_false, Bool.false_or]
    show some ([PV.b (_ && (_ && (_ && (_ && (_ && mB f.mat)))))], []) = _
    cases decide (f.color = (0, 0, 0, 0)) <;> cases (f.spread == 0) <;> cases decide (f.id ≥ 0) <;> cases decide (f.id < 65536) <;> cases decide (f.stops = []) <;> cases mB f.mat <;> rfl
  rw [show (f.kind == 65) = false by simpa using k2]
  simp only [cond_false, Bool.false_or]
  have fin : ∀ c d e : Bool, (c && (d && (e && gradB f))) = (bif (d && e) then c && gradB f else false) := by intro c d e; cases c <;> cases d <;> cases e <;> rfl
  by_cases k3 : f.kind = 16
  · rw [k3] at el ⊢
    simp only [show ((16 : Int) == 16) = true from rfl, cond_true, Bool.true_or, Bool.true_and]
    rw [← fin]; exact el
  rw [show (f.kind == 16) = false by simpa using k3]
  by_cases k4 : f.kind = 18
  · rw [k4] at el ⊢
    simp only [show ((18 : Int) == 18) = true from rfl, cond_true, cond_false, Bool.false_or, Bool.true_and]
    rw [← fin]; exact el
  rw [show (f.kind == 18) = false by simpa using k4]
  rfl
def ShortsM (l : List Fill) : Prop := ∀ f, f ∈ l → f.stops.length ≤ 9223372036854775807
theorem qRight_loop2M {l : List Fill} {m : List Strk} (hm : m.length ≤ 9223372036854775807) : ∀ (rest pre : List Strk), m = pre ++ rest →
    rW f_celluloidref08_Right [] at_celluloidref08_Right_L2 (S_celluloidref08_Right_L2 (l.map Fill.e) (m.map Strk.e) pre.length) = some ([.b (decide (((l.length : Nat) : Int) ≤ 15) && (decide (((m.length : Nat) : Int) ≤ 15) && rest.all strkB))], [])
  | [], pre, h => by
    rw [w_celluloidref08_Right_L2]
    simp only [el_end h, Option.bind_some, Option.bind_none, andB, orB, orB2, List.getD_cons_zero, List.getD_cons_succ, toB_b, toI_i, toS_s, toL_l, cond_true, cond_false, List.length_map]
    rw [show decide (((l.length : Nat) : Int) < 16) = decide (((l.length : Nat) : Int) ≤ 15) by simp; omega, show decide (((m.length : Nat) : Int) < 16) = decide (((m.length : Nat) : Int) ≤ 15) by simp; omega]
    simp
  | x :: rest, pre, h => by
    obtain ⟨h1, h2, h3, h4, h5⟩ := el_stepM Strk.e h hm
    have hx := qStroke_c x
    rw [w_celluloidref08_Right_L2]
    unfold Strk.e at hx
    simp only [h1, h2, h3, h4, Strk.e, hx, List.all_cons, Option.bind_some, Option.bind_none, andB, orB, orB2, List.getD_cons_zero, List.getD_cons_succ, toB_b, toI_i, toS_s, toL_l, cond_true, cond_false, List.length_map]
    cases hf : strkB x with
    | false => simp
    | true => simpa [hf] using qRight_loop2M (l := l) hm rest _ h5
theorem qRight_loopM {l : List Fill} {m : List Strk} (hl : l.length ≤ 9223372036854775807) (hm : m.length ≤ 9223372036854775807) (hs : ShortsM l) : ∀ (rest pre : List Fill), l = pre ++ rest →
    rW f_celluloidref08_Right [] at_celluloidref08_Right_L0 (S_celluloidref08_Right_L0 (l.map Fill.e) (m.map Strk.e) pre.length) = some ([.b (decide (((l.length : Nat) : Int) ≤ 15) && (decide (((m.length : Nat) : Int) ≤ 15) && (rest.all fillB && m.all strkB)))], [])
  | [], pre, h => by
    rw [w_celluloidref08_Right_L0]; simp only [el_end h, Option.bind_some, Option.bind_none, andB, orB, orB2, List.getD_cons_zero, List.getD_cons_succ, toB_b, toI_i, toS_s, toL_l, cond_true, cond_false, List.length_map]
    exact qRight_loop2M (l := l) hm m [] rfl
  | x :: rest, pre, h => by
    obtain ⟨h1, h2, h3, h4, h5⟩ := el_stepM Fill.e h hl
    have hx := qFill_cM x (hs x (by rw [h]; simp))
    rw [w_celluloidref08_Right_L0]
    unfold Fill.e at hx
    simp only [h1, h2, h3, h4, Fill.e, hx, List.all_cons, Option.bind_some, Option.bind_none, andB, orB, orB2, List.getD_cons_zero, List.getD_cons_succ, toB_b, toI_i, toS_s, toL_l, cond_true, cond_false, List.length_map]
    cases hf : fillB x with
    | false => simp
    | true => simpa [hf] using qRight_loopM hl hm hs rest _ h5
theorem qRight_cM {l : List Fill} {m : List Strk} (hl : l.length ≤ 9223372036854775807) (hm : m.length ≤ 9223372036854775807) (hs : ShortsM l) : cW f_celluloidref08_Right [.l (l.map Fill.e), .l (m.map Strk.e)] [] = some ([.b (listsB l m)], []) := by
  rw [w_celluloidref08_Right]
  exact qRight_loopM hl hm hs l [] rfl

abbrev T9 := Int × I4 × List Fill × List Strk × List Rec
def e9 (t : T9) : List PV := [.i t.1, .i t.2.1.1, .i t.2.1.2.1, .i t.2.1.2.2.1, .i t.2.1.2.2.2, .l (t.2.2.1.map Fill.e), .l (t.2.2.2.1.map Strk.e), .l (t.2.2.2.2.map Rec.e)]
def sh9 (t : T9) : Prop := t.2.2.1.length ≤ 9223372036854775807 ∧ ShortsM t.2.2.1 ∧ t.2.2.2.1.length ≤ 9223372036854775807 ∧ t.2.2.2.2.length ≤ 2 ^ 40 ∧ Shs t.2.2.2.2
def frB (t : T9) : Bool := rectB t.2.1.1 t.2.1.2.1 t.2.1.2.2.1 t.2.1.2.2.2
def right9 (t : T9) : Bool := inB2 0 65535 t.1 && (frB t && (listsB t.2.2.1 t.2.2.2.1 && rightRecs (t.2.2.1.length : Nat) (t.2.2.2.1.length : Nat) t.2.2.2.2 0))
theorem qRight9_c (t : T9) (h : sh9 t) : cW f_celluloidref09_Right (e9 t) [] = some ([.b (right9 t)], []) := by
  obtain ⟨a1, a2, a3, a4, a5⟩ := h
  unfold e9
  rw [w_celluloidref09_Right]
  simp only [in_c, (qRect_ans _ _ _ _).c, qRight_cM a1 a3 a2, qRecords_c a4 a5, Option.bind_some, Option.bind_none, andB, orB, orB2, List.getD_cons_zero, List.getD_cons_succ, toB_b, toI_i, toS_s, toL_l, cond_true, cond_false, List.length_map]
  unfold right9 frB
  rfl
/-- a tag but for its sprite's tags -/
structure Hd where
  kind : Int
  dep : Int
  col : I4
  pl : Nat → Int
  sh : T9
  mo : Mor
  bid : Int
  bw : Int
  bh : Int
  px : List (List PV)
  sid : Int
  sfr : Int
def Hd.e (h : Hd) (subs : List (List PV)) : List PV := [.i h.kind, .i h.dep, .i h.col.1, .i h.col.2.1, .i h.col.2.2.1, .i h.col.2.2.2] ++ (itE h.pl ++ (e9 h.sh ++ (h.mo.e ++ [.i h.bid, .i h.bw, .i h.bh, .l h.px, .i h.sid, .i h.sfr, .l subs])))
theorem nothing_tot (h : Hd) (subs : List (List PV)) (k : Int) : Tot (cW f_celluloidref13_nothing (h.e subs ++ [.i k]) []) := by
  unfold Hd.e itE e9 Mor.e
  simp only [List.cons_append, List.nil_append]
  rw [w_celluloidref13_nothing]
  obtain ⟨b1, e1⟩ := shape_z h.sh.1 h.sh.2.1.1 h.sh.2.1.2.1 h.sh.2.1.2.2.1 h.sh.2.1.2.2.2 (h.sh.2.2.1.map Fill.e) (h.sh.2.2.2.1.map Strk.e) (h.sh.2.2.2.2.map Rec.e)
  obtain ⟨b2, e2⟩ := morph_z h.mo.id h.mo.fr.1 h.mo.fr.2.1 h.mo.fr.2.2.1 h.mo.fr.2.2.2 h.mo.to.1 h.mo.to.2.1 h.mo.to.2.2.1 h.mo.to.2.2.2 (h.mo.fills.map Fill.e) (h.mo.tofl.map Fill.e) (h.mo.strks.map Strk.e) (h.mo.tost.map Strk.e) (h.mo.recs.map Rec.e) (h.mo.targ.map Rec.e)
  obtain ⟨b3, e3⟩ := bitmap_z h.bid h.bw h.bh h.px
  simp only [e1, e2, e3]
  repeat' first
    | exact ⟨_, rfl⟩
    | apply tot_bif
    | apply tot_bind_bif
    | apply tot_some
    | apply tot_assoc
theorem right11_loop (l : List (List PV)) (hl : l.length ≤ 9223372036854775807) (a b c : Int) : ∀ (rest pre : List (List PV)), l = pre ++ rest → Tot (rW f_celluloidref11_Right [] at_celluloidref11_Right_L0 (S_celluloidref11_Right_L0 pre.length a b c l))
  | [], pre, h => by
    rw [w_celluloidref11_Right_L0]
    subst h
    rw [List.append_nil, decide_eq_false (by omega), cond_false]
    exact ⟨_, rfl⟩
  | x :: rest, pre, h => by
    rw [w_celluloidref11_Right_L0]
    obtain ⟨h1, h2, _, h3, h4⟩ := el_stepM (id : List PV → List PV) h hl
    have ih := right11_loop l hl a b c rest (pre ++ [x]) h4
    simp only [h1, h2, h3, cond_true]
    repeat' first
      | exact ⟨_, rfl⟩
      | exact ih
      | apply tot_bif
      | apply tot_bind_bif
      | apply tot_some
      | apply tot_assoc
theorem right11_tot (a b c : Int) (l : List (List PV)) (hl : l.length ≤ 9223372036854775807) : Tot (cW f_celluloidref11_Right [.i a, .i b, .i c, .l l] []) := by
  rw [w_celluloidref11_Right]
  have ih := right11_loop l hl a b c l [] rfl
  repeat' first
    | exact ⟨_, rfl⟩
    | exact ih
    | apply tot_bif
    | apply tot_bind_bif
    | apply tot_some
    | apply tot_assoc
/-- what is said of a right tag -/
def DepOk (h : Hd) : Prop := (h.kind = 26 → (1 ≤ h.pl 1 ∧ h.pl 1 ≤ 255) ∧ (0 ≤ h.pl 0 ∧ h.pl 0 ≤ 127)) ∧ (h.kind = 28 → 1 ≤ h.dep ∧ h.dep ≤ 255)
def TotD (h : Hd) (o : Option Res) : Prop := ∃ b, o = some ([.b b], []) ∧ (b = true → DepOk h)
theorem totD_no (h : Hd) : TotD h (some ([.b false], [])) := ⟨false, rfl, fun h => by cases h⟩
theorem totD_of {h : Hd} {o : Option Res} (hd : DepOk h) (ho : Tot o) : TotD h o := by
  obtain ⟨b, hb⟩ := ho
  exact ⟨b, hb, fun _ => hd⟩
structure Hd.okC (h : Hd) : Prop where
  sh : sh9 h.sh
  mo : h.mo.sh
  px : h.px.length ≤ 9223372036854775807
/-- of a step nothing is asked -/
def Hd.ok (h : Hd) : Prop := h.kind ≠ 1 → h.kind ≠ 26 → h.kind ≠ 28 → h.okC
/-- the last part: what a tag's kind asks -/
theorem right_end (h : Hd) (w : h.ok) (subs : List (List PV)) (hsub : Tot (rW f_celluloidref13_Right [] at_celluloidref13_Right_L3 (S_celluloidref13_Right_L3 0 h.kind h.dep h.col.1 h.col.2.1 h.col.2.2.1 h.col.2.2.2 (h.pl 0) (h.pl 1) (h.pl 2) (h.pl 3) (h.pl 4) (h.pl 5) (h.pl 6) (h.pl 7) (h.pl 8) (h.pl 9) (h.pl 10) (h.pl 11) (h.pl 12) (h.pl 13) (h.pl 14) (h.pl 15) (h.pl 16) (h.pl 17) (h.pl 18)
      h.sh.1 h.sh.2.1.1 h.sh.2.1.2.1 h.sh.2.1.2.2.1 h.sh.2.1.2.2.2 (h.sh.2.2.1.map Fill.e) (h.sh.2.2.2.1.map Strk.e) (h.sh.2.2.2.2.map Rec.e) h.mo.id h.mo.fr.1 h.mo.fr.2.1 h.mo.fr.2.2.1 h.mo.fr.2.2.2 h.mo.to.1 h.mo.to.2.1 h.mo.to.2.2.1 h.mo.to.2.2.2 (h.mo.fills.map Fill.e) (h.mo.tofl.map Fill.e) (h.mo.strks.map Strk.e) (h.mo.tost.map Strk.e) (h.mo.recs.map Rec.e) (h.mo.targ.map Rec.e) h.bid h.bw h.bh h.px h.sid h.sfr subs))) :
    ∀ (rest pre : List Int), [28, 9, 26, 32, 46, 36, 39] = pre ++ rest → TotD h (rW f_celluloidref13_Right [] at_celluloidref13_Right_L0 (S_celluloidref13_Right_L0 ([28, 9, 26, 32, 46, 36, 39].map intE) 7 pre.length h.kind h.dep h.col.1 h.col.2.1 h.col.2.2.1 h.col.2.2.2 (h.pl 0) (h.pl 1) (h.pl 2) (h.pl 3) (h.pl 4) (h.pl 5) (h.pl 6) (h.pl 7) (h.pl 8) (h.pl 9) (h.pl 10) (h.pl 11) (h.pl 12) (h.pl 13) (h.pl 14) (h.pl 15) (h.pl 16) (h.pl 17) (h.pl 18)
      h.sh.1 h.sh.2.1.1 h.sh.2.1.2.1 h.sh.2.1.2.2.1 h.sh.2.1.2.2.2 (h.sh.2.2.1.map Fill.e) (h.sh.2.2.2.1.map Strk.e) (h.sh.2.2.2.2.map Rec.e) h.mo.id h.mo.fr.1 h.mo.fr.2.1 h.mo.fr.2.2.1 h.mo.fr.2.2.2 h.mo.to.1 h.mo.to.2.1 h.mo.to.2.2.1 h.mo.to.2.2.2 (h.mo.fills.map Fill.e) (h.mo.tofl.map Fill.e) (h.mo.strks.map Strk.e) (h.mo.tost.map Strk.e) (h.mo.recs.map Rec.e) (h.mo.targ.map Rec.e) h.bid h.bw h.bh h.px h.sid h.sfr subs))
  | [], pre, he => by
    rw [w_celluloidref13_Right_L0]
    have hl : pre.length = 7 := by have := congrArg List.length he; simpa using this.symm
    rw [hl]
    simp only [show decide (((7 : Nat) : Int) < 7) = false from rfl, cond_false]
    by_cases k1 : h.kind = 1
    · rw [show (h.kind == 1) = true by rw [beq_iff_eq]; exact k1, cond_true]
      exact totD_of ⟨fun e => by omega, fun e => by omega⟩ ⟨_, rfl⟩
    rw [show (h.kind == 1) = false by rw [beq_eq_false_iff_ne]; exact k1, cond_false]
    by_cases k2 : h.kind = 26
    · rw [show (h.kind == 26) = true by rw [beq_iff_eq]; exact k2, cond_true]
      cases hb : inB2 1 255 (h.pl 1) with
      | false =>
        have := place_no h.pl (.inl hb)
        unfold itE at this
        rw [this]
        exact totD_no h
      | true =>
        cases hc : inB2 0 127 (h.pl 0) with
        | false =>
          have := place_no h.pl (.inr hc)
          unfold itE at this
          rw [this]
          exact totD_no h
        | true =>
          have := place_tot h.pl
          unfold itE at this
          obtain ⟨b, e⟩ := this
          rw [e]
          exact totD_of ⟨fun _ => ⟨inB2_iff.1 hb, inB2_iff.1 hc⟩, fun e => by omega⟩ ⟨_, rfl⟩
    rw [show (h.kind == 26) = false by rw [beq_eq_false_iff_ne]; exact k2, cond_false]
    by_cases k3 : h.kind = 28
    · rw [show (h.kind == 28) = true by rw [beq_iff_eq]; exact k3, cond_true, in13_c]
      cases hb : inB2 1 255 h.dep with
      | false => exact totD_no h
      | true => exact totD_of ⟨fun e => by omega, fun _ => inB2_iff.1 hb⟩ ⟨_, rfl⟩
    rw [show (h.kind == 28) = false by rw [beq_eq_false_iff_ne]; exact k3, cond_false]
    have hd : DepOk h := ⟨fun e => absurd e k2, fun e => absurd e k3⟩
    have w := w k1 k2 k3
    have q9 := qRight9_c h.sh w.sh
    have q10 := qRight10_c h.mo w.mo
    unfold e9 at q9
    unfold Mor.e at q10
    obtain ⟨b11, q11⟩ := right11_tot h.bid h.bw h.bh h.px w.px
    obtain ⟨b3, q3⟩ := hsub
    refine totD_of hd ?_
    simp only [qRGBA_c, q9, q10, q11, q3]
    repeat' first
      | exact ⟨_, rfl⟩
      | apply tot_bif
      | apply tot_bind_bif
      | apply tot_some
      | apply tot_assoc
  | k :: rest, pre, he => by
    have ih := right_end h w subs hsub rest (pre ++ [k]) (by rw [he]; simp)
    obtain ⟨h1, h2, h3, h4, _⟩ := el_stepM intE he (by decide)
    rw [w_celluloidref13_Right_L0]
    have hn := nothing_tot h subs k
    unfold Hd.e itE e9 Mor.e at hn
    simp only [List.cons_append, List.nil_append] at hn
    obtain ⟨b, e⟩ := hn
    have h1 : decide (((pre.length : Nat) : Int) < 7) = true := h1
    simp only [List.length_map, h1, h2, h3, h4, intE, List.getD_cons_zero, toI_i, cond_true, e]
    cases (k != h.kind) with
    | false => exact ih
    | true => cases b with
      | false => exact totD_no h
      | true => exact ih
end Go.AI
set_option linter.unusedVariables false
set_option linter.unusedSimpArgs false
set_option maxRecDepth 100000
namespace Go.AI
open Go Go.Proofs

theorem l3_end (h : Hd) (subs : List (List PV)) (n : Int) (hn : decide (n < ((subs.length : Nat) : Int)) = false) : Tot (rW f_celluloidref13_Right [] at_celluloidref13_Right_L3 (S_celluloidref13_Right_L3 n h.kind h.dep h.col.1 h.col.2.1 h.col.2.2.1 h.col.2.2.2 (h.pl 0) (h.pl 1) (h.pl 2) (h.pl 3) (h.pl 4) (h.pl 5) (h.pl 6) (h.pl 7) (h.pl 8) (h.pl 9) (h.pl 10) (h.pl 11) (h.pl 12) (h.pl 13) (h.pl 14) (h.pl 15) (h.pl 16) (h.pl 17) (h.pl 18) h.sh.1 h.sh.2.1.1 h.sh.2.1.2.1 h.sh.2.1.2.2.1 h.sh.2.1.2.2.2 (h.sh.2.2.1.map Fill.e) (h.sh.2.2.2.1.map Strk.e) (h.sh.2.2.2.2.map Rec.e) h.mo.id h.mo.fr.1 h.mo.fr.2.1 h.mo.fr.2.2.1 h.mo.fr.2.2.2 h.mo.to.1 h.mo.to.2.1 h.mo.to.2.2.1 h.mo.to.2.2.2 (h.mo.fills.map Fill.e) (h.mo.tofl.map Fill.e) (h.mo.strks.map Strk.e) (h.mo.tost.map Strk.e) (h.mo.recs.map Rec.e) (h.mo.targ.map Rec.e) h.bid h.bw h.bh h.px h.sid h.sfr subs)) := by
  rw [w_celluloidref13_Right_L3]
  simp only [hn, cond_false, in13_c]
  repeat' first
    | exact ⟨_, rfl⟩
    | apply tot_bif
    | apply tot_bind_bif
    | apply tot_some
    | apply tot_assoc
theorem right_of (h : Hd) (w : h.ok) (subs : List (List PV)) (hs : Tot (rW f_celluloidref13_Right [] at_celluloidref13_Right_L3 (S_celluloidref13_Right_L3 0 h.kind h.dep h.col.1 h.col.2.1 h.col.2.2.1 h.col.2.2.2 (h.pl 0) (h.pl 1) (h.pl 2) (h.pl 3) (h.pl 4) (h.pl 5) (h.pl 6) (h.pl 7) (h.pl 8) (h.pl 9) (h.pl 10) (h.pl 11) (h.pl 12) (h.pl 13) (h.pl 14) (h.pl 15) (h.pl 16) (h.pl 17) (h.pl 18) h.sh.1 h.sh.2.1.1 h.sh.2.1.2.1 h.sh.2.1.2.2.1 h.sh.2.1.2.2.2 (h.sh.2.2.1.map Fill.e) (h.sh.2.2.2.1.map Strk.e) (h.sh.2.2.2.2.map Rec.e) h.mo.id h.mo.fr.1 h.mo.fr.2.1 h.mo.fr.2.2.1 h.mo.fr.2.2.2 h.mo.to.1 h.mo.to.2.1 h.mo.to.2.2.1 h.mo.to.2.2.2 (h.mo.fills.map Fill.e) (h.mo.tofl.map Fill.e) (h.mo.strks.map Strk.e) (h.mo.tost.map Strk.e) (h.mo.recs.map Rec.e) (h.mo.targ.map Rec.e) h.bid h.bw h.bh h.px h.sid h.sfr subs))) : TotD h (cW f_celluloidref13_Right (h.e subs) []) := by
  have := right_end h w subs hs [28, 9, 26, 32, 46, 36, 39] [] rfl
  unfold Hd.e itE e9 Mor.e
  simp only [List.cons_append, List.nil_append]
  rw [w_celluloidref13_Right]
  exact this
theorem right_tot0 (h : Hd) (w : h.ok) : TotD h (cW f_celluloidref13_Right (h.e []) []) := right_of h w [] (l3_end h [] 0 rfl)
/-- a tag whose sprite has no tags -/
def Hd.s (u : Hd) : List PV := u.e []
set_option maxHeartbeats 400000 in
theorem l3_step (h : Hd) (L : List (List PV)) (n : Int) (x : Hd) (h1 : decide (n < ((L.length : Nat) : Int)) = true) (h2 : inB n L.length = true) (h3 : elemAt L n = x.e []) (ih : Tot (rW f_celluloidref13_Right [] at_celluloidref13_Right_L3 (S_celluloidref13_Right_L3 (IntKind.wrap .i64 (n + (1 : Int))) h.kind h.dep h.col.1 h.col.2.1 h.col.2.2.1 h.col.2.2.2 (h.pl 0) (h.pl 1) (h.pl 2) (h.pl 3) (h.pl 4) (h.pl 5) (h.pl 6) (h.pl 7) (h.pl 8) (h.pl 9) (h.pl 10) (h.pl 11) (h.pl 12) (h.pl 13) (h.pl 14) (h.pl 15) (h.pl 16) (h.pl 17) (h.pl 18) h.sh.1 h.sh.2.1.1 h.sh.2.1.2.1 h.sh.2.1.2.2.1 h.sh.2.1.2.2.2 (h.sh.2.2.1.map Fill.e) (h.sh.2.2.2.1.map Strk.e) (h.sh.2.2.2.2.map Rec.e) h.mo.id h.mo.fr.1 h.mo.fr.2.1 h.mo.fr.2.2.1 h.mo.fr.2.2.2 h.mo.to.1 h.mo.to.2.1 h.mo.to.2.2.1 h.mo.to.2.2.2 (h.mo.fills.map Fill.e) (h.mo.tofl.map Fill.e) (h.mo.strks.map Strk.e) (h.mo.tost.map Strk.e) (h.mo.recs.map Rec.e) (h.mo.targ.map Rec.e) h.bid h.bw h.bh h.px h.sid h.sfr L))) (he : (x.kind = 1 ∨ x.kind = 26 ∨ x.kind = 28) → Tot (cW f_celluloidref13_Right (x.e []) [])) : Tot (rW f_celluloidref13_Right [] at_celluloidref13_Right_L3 (S_celluloidref13_Right_L3 n h.kind h.dep h.col.1 h.col.2.1 h.col.2.2.1 h.col.2.2.2 (h.pl 0) (h.pl 1) (h.pl 2) (h.pl 3) (h.pl 4) (h.pl 5) (h.pl 6) (h.pl 7) (h.pl 8) (h.pl 9) (h.pl 10) (h.pl 11) (h.pl 12) (h.pl 13) (h.pl 14) (h.pl 15) (h.pl 16) (h.pl 17) (h.pl 18) h.sh.1 h.sh.2.1.1 h.sh.2.1.2.1 h.sh.2.1.2.2.1 h.sh.2.1.2.2.2 (h.sh.2.2.1.map Fill.e) (h.sh.2.2.2.1.map Strk.e) (h.sh.2.2.2.2.map Rec.e) h.mo.id h.mo.fr.1 h.mo.fr.2.1 h.mo.fr.2.2.1 h.mo.fr.2.2.2 h.mo.to.1 h.mo.to.2.1 h.mo.to.2.2.1 h.mo.to.2.2.2 (h.mo.fills.map Fill.e) (h.mo.tofl.map Fill.e) (h.mo.strks.map Strk.e) (h.mo.tost.map Strk.e) (h.mo.recs.map Rec.e) (h.mo.targ.map Rec.e) h.bid h.bw h.bh h.px h.sid h.sfr L)) := by
  unfold Hd.e itE e9 Mor.e at he h3
  simp only [List.cons_append, List.nil_append] at he h3
  rw [w_celluloidref13_Right_L3, h1, h2, h3, cond_true, cond_true]
  simp only [List.getD_cons_zero, List.getD_cons_succ, toI_i, toL_l, w_celluloidref13_step]
  by_cases hk : x.kind = 1 ∨ x.kind = 26 ∨ x.kind = 28
  · obtain ⟨b, e⟩ := he hk
    simp only [e]
    cases (x.kind == 1) <;> cases (x.kind == 26) <;> cases (x.kind == 28) <;> cases b <;> simp only [Bool.and_true, Bool.true_and, Bool.and_false, Bool.false_and, Bool.or_true, Bool.true_or, Bool.or_false, Bool.false_or, Bool.not_true, Bool.not_false, Option.bind_some, Option.bind_none, andB, orB, orB2, List.getD_cons_zero, List.getD_cons_succ, toB_b, toI_i, toS_s, toL_l, cond_true, cond_false, List.length_map, Bool.not_true, Bool.not_false] <;> first | with_reducible exact ih | exact ⟨_, rfl⟩
  · have e1 : (x.kind == 1) = false := by rw [beq_eq_false_iff_ne]; exact fun h => hk (.inl h)
    have e2 : (x.kind == 26) = false := by rw [beq_eq_false_iff_ne]; exact fun h => hk (.inr (.inl h))
    have e3 : (x.kind == 28) = false := by rw [beq_eq_false_iff_ne]; exact fun h => hk (.inr (.inr h))
    rw [e1, e2, e3]
    exact ⟨_, rfl⟩
theorem l3_loop (h : Hd) {us : List Hd} (hl : us.length ≤ 9223372036854775807) : ∀ (rest pre : List Hd), us = pre ++ rest → Tot (rW f_celluloidref13_Right [] at_celluloidref13_Right_L3 (S_celluloidref13_Right_L3 pre.length h.kind h.dep h.col.1 h.col.2.1 h.col.2.2.1 h.col.2.2.2 (h.pl 0) (h.pl 1) (h.pl 2) (h.pl 3) (h.pl 4) (h.pl 5) (h.pl 6) (h.pl 7) (h.pl 8) (h.pl 9) (h.pl 10) (h.pl 11) (h.pl 12) (h.pl 13) (h.pl 14) (h.pl 15) (h.pl 16) (h.pl 17) (h.pl 18) h.sh.1 h.sh.2.1.1 h.sh.2.1.2.1 h.sh.2.1.2.2.1 h.sh.2.1.2.2.2 (h.sh.2.2.1.map Fill.e) (h.sh.2.2.2.1.map Strk.e) (h.sh.2.2.2.2.map Rec.e) h.mo.id h.mo.fr.1 h.mo.fr.2.1 h.mo.fr.2.2.1 h.mo.fr.2.2.2 h.mo.to.1 h.mo.to.2.1 h.mo.to.2.2.1 h.mo.to.2.2.2 (h.mo.fills.map Fill.e) (h.mo.tofl.map Fill.e) (h.mo.strks.map Strk.e) (h.mo.tost.map Strk.e) (h.mo.recs.map Rec.e) (h.mo.targ.map Rec.e) h.bid h.bw h.bh h.px h.sid h.sfr (us.map Hd.s)))
  | [], pre, he => l3_end h _ _ (by rw [List.length_map]; exact el_end he)
  | x :: rest, pre, he => by
    obtain ⟨h1, h2, h3, h4, h5⟩ := el_stepM Hd.s he hl
    have ih := l3_loop h hl rest (pre ++ [x]) h5
    rw [← h4] at ih
    exact l3_step h _ _ x (by rw [List.length_map]; exact h1) (by rw [List.length_map]; exact h2) h3 ih (fun hk => by
      obtain ⟨b, e, _⟩ := right_tot0 x (fun k1 k2 k3 => by rcases hk with hk | hk | hk <;> contradiction)
      exact ⟨b, e⟩)
theorem right_tot (h : Hd) (w : h.ok) {us : List Hd} (hl : us.length ≤ 9223372036854775807) : TotD h (cW f_celluloidref13_Right (h.e (us.map Hd.s)) []) := right_of h w _ (l3_loop h hl us [] rfl)
end Go.AI
set_option linter.unusedVariables false
set_option linter.unusedSimpArgs false
set_option maxRecDepth 100000
namespace Go.AI
open Go Go.Proofs

theorem room2 {α : Type} {k c : Nat} (z x : α) (h : (k + 1) * c ≤ 140737488355328) (h2 : k + 1 ≤ 4611686018427387904) : (decide ((k + (List.set [z] 0 x).length) * c ≤ 140737488355328) && decide (k + (List.set [z] 0 x).length ≤ 4611686018427387904)) = true := by
  rw [show (List.set [z] 0 x).length = 1 from rfl, decide_eq_true h, decide_eq_true h2]; rfl
def small10 (m : Mor) : Bool := smallB m.fills m.strks && (smallB m.tofl m.tost && (smallR m.recs && smallR m.targ))
structure Mor.wf (m : Mor) : Prop where
  f : m.fills.length ≤ 9223372036854775807
  tf : m.tofl.length ≤ 9223372036854775807
  r : m.recs.length ≤ 9223372036854775807
  t : m.targ.length ≤ 9223372036854775807
  rr : ∀ r, r ∈ m.recs → r.fills.length ≤ 9223372036854775807
  tt : ∀ r, r ∈ m.targ → r.fills.length ≤ 9223372036854775807
theorem small10_c (m : Mor) (h : m.wf) : cW f_celluloidref10_Small m.e [] = some ([.b (small10 m)], []) := by
  unfold Mor.e
  rw [w_celluloidref10_Small]
  simp only [small_c h.f, small_c h.tf, small9_c h.r h.rr, small9_c h.t h.tt, Option.bind_some, Option.bind_none, andB, orB, orB2, List.getD_cons_zero, List.getD_cons_succ, toB_b, toI_i, toS_s, toL_l, cond_true, cond_false, List.length_map]
  unfold small10
  rfl
theorem mem_shorts {l : List Fill} (h : ∀ f, f ∈ l → f.stops.length ≤ 20) : Shorts l := fun f hf => Nat.le_trans (h f hf) (by decide)
theorem small10_sh {m : Mor} (h : small10 m = true) : m.sh := by
  unfold small10 at h
  simp only [Bool.and_eq_true] at h
  obtain ⟨h1, h2, h3, h4⟩ := h
  obtain ⟨a1, a2, a3⟩ := smallB_r h1
  obtain ⟨b1, b2, b3⟩ := smallB_r h2
  obtain ⟨c1, c2⟩ := smallR_r h3
  obtain ⟨d1, d2⟩ := smallR_r h4
  exact ⟨Nat.le_trans (Nat.le_of_lt a2) (by decide), Nat.le_trans (Nat.le_of_lt b2) (by decide), mem_shorts a1, mem_shorts b1, Nat.le_trans (Nat.le_of_lt a3) (by decide), Nat.le_trans (Nat.le_of_lt b3) (by decide), Nat.le_trans c1 (by decide), Nat.le_trans d1 (by decide), c2, d2⟩
/-- what every tag that is read is -/
structure Hd.wf (h : Hd) : Prop where
  kind : I64 h.kind
  dep : I64 h.dep
  pl : ∀ j, j < 19 → I64 (h.pl j)
  f : h.sh.2.2.1.length ≤ 9223372036854775807
  fs : ShortsM h.sh.2.2.1
  s : h.sh.2.2.2.1.length ≤ 9223372036854775807
  r : h.sh.2.2.2.2.length ≤ 9223372036854775807
  rr : ∀ r, r ∈ h.sh.2.2.2.2 → r.fills.length ≤ 9223372036854775807
  mo : h.mo.wf
  px : h.px.length ≤ 9223372036854775807
noncomputable def trS (h : Hd) (L : List (List PV)) (n : Int) (acc : List (List PV)) : St :=
  S_celluloidlaw22_tref_L0 L ((((List.length L) : Nat) : Int)) n h.kind h.dep h.col.1 h.col.2.1 h.col.2.2.1 h.col.2.2.2 (h.pl 0) (h.pl 1) (h.pl 2) (h.pl 3) (h.pl 4) (h.pl 5) (h.pl 6) (h.pl 7) (h.pl 8) (h.pl 9) (h.pl 10) (h.pl 11) (h.pl 12) (h.pl 13) (h.pl 14) (h.pl 15) (h.pl 16) (h.pl 17) (h.pl 18) h.sh.1 h.sh.2.1.1 h.sh.2.1.2.1 h.sh.2.1.2.2.1 h.sh.2.1.2.2.2 (h.sh.2.2.1.map Fill.e) (h.sh.2.2.2.1.map Strk.e) (h.sh.2.2.2.2.map Rec.e) h.mo.id h.mo.fr.1 h.mo.fr.2.1 h.mo.fr.2.2.1 h.mo.fr.2.2.2 h.mo.to.1 h.mo.to.2.1 h.mo.to.2.2.1 h.mo.to.2.2.2 (h.mo.fills.map Fill.e) (h.mo.tofl.map Fill.e) (h.mo.strks.map Strk.e) (h.mo.tost.map Strk.e) (h.mo.recs.map Rec.e) (h.mo.targ.map Rec.e) h.bid h.bw h.bh h.px h.sid h.sfr L [] [] [] [] [] [] [] [] [] [] [] 0 0 0 0 0 0 0 0 0 0 0 0 0 0 0 0 0 0 0 0 0 0 0 0 0 0 0 0 0 0 0 0 0 0 0 0 0 0 0 0 0 0 0 0 acc h.kind h.dep h.col.1 h.col.2.1 h.col.2.2.1 h.col.2.2.2 (h.pl 0) (h.pl 1) (h.pl 2) (h.pl 3) (h.pl 4) (h.pl 5) (h.pl 6) (h.pl 7) (h.pl 8) (h.pl 9) (h.pl 10) (h.pl 11) (h.pl 12) (h.pl 13) (h.pl 14) (h.pl 15) (h.pl 16) (h.pl 17) (h.pl 18) h.sh.1 h.sh.2.1.1 h.sh.2.1.2.1 h.sh.2.1.2.2.1 h.sh.2.1.2.2.2 (h.sh.2.2.1.map Fill.e) (h.sh.2.2.2.1.map Strk.e) (h.sh.2.2.2.2.map Rec.e) h.mo.id h.mo.fr.1 h.mo.fr.2.1 h.mo.fr.2.2.1 h.mo.fr.2.2.2 h.mo.to.1 h.mo.to.2.1 h.mo.to.2.2.1 h.mo.to.2.2.2 (h.mo.fills.map Fill.e) (h.mo.tofl.map Fill.e) (h.mo.strks.map Strk.e) (h.mo.tost.map Strk.e) (h.mo.recs.map Rec.e) (h.mo.targ.map Rec.e) h.bid h.bw h.bh h.px h.sid h.sfr 
theorem tr_enter (h : Hd) (L : List (List PV)) : cW f_celluloidlaw22_tref (h.e L) [] = rW f_celluloidlaw22_tref [] at_celluloidlaw22_tref_L0 (trS h L 0 []) := by
  unfold Hd.e itE e9 Mor.e trS
  simp only [List.cons_append, List.nil_append]
  rw [w_celluloidlaw22_tref]
theorem tr_end (h : Hd) (w : h.wf) (L : List (List PV)) (n : Int) (acc : List (List PV)) (hn : decide (n < ((L.length : Nat) : Int)) = false) :
    ∃ b, rW f_celluloidlaw22_tref [] at_celluloidlaw22_tref_L0 (trS h L n acc) = some (h.e acc ++ [.b b], []) ∧ (b = true → L.length ≤ 300 ∧ (smallR h.sh.2.2.2.2 = true ∧ small10 h.mo = true)) := by
  unfold trS
  rw [w_celluloidlaw22_tref_L0, hn, cond_false]
  have e10 := small10_c h.mo w.mo
  unfold Mor.e at e10
  rw [small9_c w.r w.rr, e10]
  by_cases h1 : L.length ≤ 300
  · rw [show decide (((L.length : Nat) : Int) ≤ 300) = true by rw [decide_eq_true_eq]; omega, cond_true]
    cases h2 : decide (((h.px.length : Nat) : Int) ≤ 5000) with
    | false => exact ⟨false, rfl, fun h => by cases h⟩
    | true =>
      rw [cond_true]
      cases h3 : smallR h.sh.2.2.2.2 with
      | false => exact ⟨false, rfl, fun h => by cases h⟩
      | true => exact ⟨small10 h.mo, rfl, fun h => ⟨h1, rfl, h⟩⟩
  · rw [show decide (((L.length : Nat) : Int) ≤ 300) = false by rw [decide_eq_false_iff_not]; omega, cond_false]
    exact ⟨false, rfl, fun h => by cases h⟩
theorem tref0 (u : Hd) (w : u.wf) : ∃ b, cW f_celluloidlaw22_tref (u.e []) [] = some (u.e [] ++ [.b b], []) := by
  obtain ⟨b, e, _⟩ := tr_end u w [] 0 [] rfl
  exact ⟨b, (tr_enter u []).trans e⟩
set_option maxHeartbeats 1000000 in
theorem tr_step (h : Hd) (L : List (List PV)) (n : Int) (acc : List (List PV)) (u : Hd) (subs : List (List PV)) (h1 : decide (n < ((L.length : Nat) : Int)) = true) (h2 : inB n L.length = true) (h3 : elemAt L n = u.e subs)
    (hr : (acc.length + 1) * 616 ≤ 140737488355328) (hr2 : acc.length + 1 ≤ 4611686018427387904) (hu : ∃ b, cW f_celluloidlaw22_tref (u.e []) [] = some (u.e [] ++ [.b b], [])) :
    rW f_celluloidlaw22_tref [] at_celluloidlaw22_tref_L0 (trS h L n acc) = some (h.e acc ++ [.b false], []) ∨
    (subs = [] ∧ rW f_celluloidlaw22_tref [] at_celluloidlaw22_tref_L0 (trS h L n acc) = rW f_celluloidlaw22_tref [] at_celluloidlaw22_tref_L0 (trS h L (IntKind.wrap .i64 (n + 1)) (acc ++ [u.e []]))) := by
  obtain ⟨b, e⟩ := hu
  unfold Hd.e itE e9 Mor.e at e h3
  simp only [List.cons_append, List.nil_append] at e h3
  unfold trS
  rw [w_celluloidlaw22_tref_L0, h1, h2, h3, cond_true, cond_true]
  simp only [List.getD_cons_zero, List.getD_cons_succ, toI_i, toL_l]
  cases subs with
  | cons s ss =>
    refine .inl ?_
    rw [show decide ((((s :: ss).length : Nat) : Int) > 0) = true by rw [decide_eq_true_eq, List.length_cons]; omega]
    rfl
  | nil =>
    rw [show decide ((((([] : List (List PV)).length) : Nat) : Int) > 0) = false from rfl, cond_false]
    generalize decide (IntKind.wrap .i64 _ > (0 : Int)) = c
    cases c with
    | true => exact .inl rfl
    | false =>
      refine .inr ⟨rfl, ?_⟩
      simp only [Option.bind_some, List.getD_cons_zero, toB_b, cond_false]
      rw [e]
      simp only [Option.bind_some, List.getD_cons_zero, List.getD_cons_succ, toI_i, toL_l]
      rw [room2 _ _ hr hr2, cond_true]
      rfl
/-- all of a sprite's tags -/
theorem tr_loop (h : Hd) (w : h.wf) {L : List (List PV)} (hl : L.length * 616 ≤ 140737488355328) (hu : ∀ x, x ∈ L → ∃ (u : Hd) (subs : List (List PV)), x = u.e subs ∧ u.wf) : ∀ (rest pre : List (List PV)), L = pre ++ rest → (∀ x, x ∈ pre → ∃ u : Hd, x = u.e []) →
    ∃ acc b, rW f_celluloidlaw22_tref [] at_celluloidlaw22_tref_L0 (trS h L pre.length pre) = some (h.e acc ++ [.b b], []) ∧ (b = true → acc = L ∧ (∀ x, x ∈ L → ∃ u : Hd, x = u.e []) ∧ (L.length ≤ 300 ∧ (smallR h.sh.2.2.2.2 = true ∧ small10 h.mo = true)))
  | [], pre, he, hp => by
    obtain ⟨b, e, hb⟩ := tr_end h w L pre.length pre (el_end he)
    refine ⟨pre, b, e, fun hh => ⟨by rw [he, List.append_nil], ?_, hb hh⟩⟩
    rw [he, List.append_nil]; exact hp
  | x :: rest, pre, he, hp => by
    have hl2 : L.length ≤ 9223372036854775807 := by omega
    obtain ⟨h1, h2, h3, h4, h5⟩ := el_stepM (id : List PV → List PV) he hl2
    rw [List.map_id] at h3
    obtain ⟨u, subs, hx, wu⟩ := hu x (by rw [he]; simp)
    have hlen : pre.length + 1 ≤ L.length := by rw [he, List.length_append, List.length_cons]; omega
    rcases tr_step h L pre.length pre u subs h1 h2 (h3.trans hx) (Nat.le_trans (Nat.mul_le_mul_right _ hlen) hl) (by omega) (tref0 u wu) with e | ⟨rfl, e⟩
    · exact ⟨pre, false, e, fun h => by cases h⟩
    · rw [e, h4, ← hx]
      exact tr_loop h w hl hu rest (pre ++ [x]) h5 (fun y hy => by
        rcases List.mem_append.1 hy with hy | hy
        · exact hp y hy
        · rw [List.mem_singleton] at hy
          exact ⟨u, hy.trans hx⟩)
theorem tref_c (h : Hd) (w : h.wf) {L : List (List PV)} (hl : L.length * 616 ≤ 140737488355328) (hu : ∀ x, x ∈ L → ∃ (u : Hd) (subs : List (List PV)), x = u.e subs ∧ u.wf) :
    ∃ acc b, cW f_celluloidlaw22_tref (h.e L) [] = some (h.e acc ++ [.b b], []) ∧ (b = true → acc = L ∧ ((∃ us : List Hd, L = us.map Hd.s) ∧ (L.length ≤ 300 ∧ h.ok))) := by
  obtain ⟨acc, b, e, hb⟩ := tr_loop h w hl hu L [] rfl (fun x hx => by cases hx)
  refine ⟨acc, b, (tr_enter h L).trans e, fun hh => ?_⟩
  obtain ⟨rfl, h2, h3, h4, h5⟩ := hb hh
  refine ⟨rfl, ?_, h3, fun _ _ _ => ⟨?_, small10_sh h5, w.px⟩⟩
  · clear hb e hl hu h3
    induction acc with
    | nil => exact ⟨[], rfl⟩
    | cons x xs ih =>
      obtain ⟨u, hu⟩ := h2 x (List.mem_cons_self ..)
      obtain ⟨us, h⟩ := ih (fun y hy => h2 y (List.mem_cons_of_mem _ hy))
      exact ⟨u :: us, by rw [List.map_cons, ← h, hu]; rfl⟩
  · obtain ⟨g1, g2⟩ := smallR_r h4
    exact ⟨w.f, w.fs, w.s, Nat.le_trans g1 (by decide), g2⟩
end Go.AI
set_option linter.unusedVariables false
set_option linter.unusedSimpArgs false
set_option maxRecDepth 100000
namespace Go.AI
open Go Go.Proofs

/-- what every tag of a row is -/
def TagOk (x : List PV) : Prop := ∃ (h : Hd) (L : List (List PV)), x = h.e L ∧ (h.wf ∧ (L.length * 616 ≤ 140737488355328 ∧ ∀ y, y ∈ L → ∃ (u : Hd) (subs : List (List PV)), y = u.e subs ∧ u.wf))
/-- what a right one is -/
def TagR (x : List PV) : Prop := ∃ (h : Hd) (us : List Hd), x = h.e (us.map Hd.s) ∧ (h.wf ∧ (us.length ≤ 300 ∧ (h.ok ∧ (DepOk h ∧ cW f_celluloidref13_Right x [] = some ([.b true], [])))))
set_option maxHeartbeats 1000000 in
theorem refs_step (es : List (List PV)) (m n : Int) (acc : List (List PV)) (h : Hd) (L acc' : List (List PV)) (b : Bool) (h1 : decide (n < m) = true) (h2 : inB n es.length = true) (h3 : elemAt es n = h.e L)
    (hr : (acc.length + 1) * 616 ≤ 140737488355328) (hr2 : acc.length + 1 ≤ 4611686018427387904) (ht : cW f_celluloidlaw22_tref (h.e L) [] = some (h.e acc' ++ [.b b], [])) (hb : b = true → acc' = L ∧ TotD h (cW f_celluloidref13_Right (h.e L) [])) :
    rW f_celluloidlaw22_refs [] at_celluloidlaw22_refs_L0 (S_celluloidlaw22_refs_L0 es m n acc) = some ([.l [], .b false], []) ∨
    (b = true ∧ (DepOk h ∧ (cW f_celluloidref13_Right (h.e L) [] = some ([.b true], []) ∧ rW f_celluloidlaw22_refs [] at_celluloidlaw22_refs_L0 (S_celluloidlaw22_refs_L0 es m n acc) = rW f_celluloidlaw22_refs [] at_celluloidlaw22_refs_L0 (S_celluloidlaw22_refs_L0 es m (IntKind.wrap .i64 (n + 1)) (acc ++ [h.e L]))))) := by
  rw [w_celluloidlaw22_refs_L0, h1, h2, h3, cond_true, cond_true]
  cases b with
  | false =>
    refine .inl ?_
    clear hb
    unfold Hd.e itE e9 Mor.e at ht ⊢
    simp only [List.cons_append, List.nil_append] at ht ⊢
    simp only [List.getD_cons_zero, List.getD_cons_succ, toI_i, toL_l]
    rw [ht]
    rfl
  | true =>
    obtain ⟨rfl, b2, e2, hd⟩ := hb rfl
    have e3 := e2
    unfold Hd.e itE e9 Mor.e at ht e2 ⊢
    simp only [List.cons_append, List.nil_append] at ht e2 ⊢
    simp only [List.getD_cons_zero, List.getD_cons_succ, toI_i, toL_l]
    rw [ht]
    simp only [Option.bind_some, List.getD_cons_zero, List.getD_cons_succ, toI_i, toL_l, toB_b, Bool.not_true, cond_false]
    rw [e2]
    cases b2 with
    | false => exact .inl rfl
    | true =>
      refine .inr ⟨by trivial, hd rfl, by trivial, ?_⟩
      simp only [Option.bind_some, List.getD_cons_zero, List.getD_cons_succ, toB_b, Bool.not_true, cond_false]
      rw [room2 _ _ hr hr2, cond_true]
      rfl
theorem refs_loop {es : List (List PV)} (hn : es.length ≤ 60) (ho : ∀ x, x ∈ es → TagOk x) : ∀ (rest pre : List (List PV)), es = pre ++ rest → (∀ x, x ∈ pre → TagR x) →
    ∃ out b, rW f_celluloidlaw22_refs [] at_celluloidlaw22_refs_L0 (S_celluloidlaw22_refs_L0 es (es.length : Nat) (pre.length : Nat) pre) = some ([.l out, .b b], []) ∧ (b = true → out = es ∧ ∀ x, x ∈ es → TagR x)
  | [], pre, he, hp => by
    refine ⟨pre, true, ?_, fun _ => ⟨by rw [he, List.append_nil], by rw [he, List.append_nil]; exact hp⟩⟩
    rw [w_celluloidlaw22_refs_L0, el_end he, cond_false]
  | x :: rest, pre, he, hp => by
    obtain ⟨h1, h2, h3, h4, h5⟩ := el_stepM (id : List PV → List PV) he (by omega)
    rw [List.map_id] at h3
    obtain ⟨h, L, hx, w, hl, hu⟩ := ho x (by rw [he]; simp)
    have hlen : pre.length + 1 ≤ 60 := by rw [he, List.length_append, List.length_cons] at hn; omega
    obtain ⟨acc', b, ht, hb⟩ := tref_c h w hl hu
    rcases refs_step es (es.length : Nat) (pre.length : Nat) pre h L acc' b h1 h2 (h3.trans hx) (by omega) (by omega) ht (fun e => by
      obtain ⟨g1, ⟨us, g2⟩, g3, g4⟩ := hb e
      refine ⟨g1, ?_⟩
      rw [g2]
      exact right_tot h g4 (by rw [g2, List.length_map] at g3; omega)) with e | ⟨rfl, hd, hR, e⟩
    · exact ⟨[], false, e, fun h => by cases h⟩
    · rw [e, h4, ← hx]
      obtain ⟨g1, ⟨us, g2⟩, g3, g4⟩ := hb rfl
      refine refs_loop hn ho rest (pre ++ [x]) h5 (fun y hy => ?_)
      rcases List.mem_append.1 hy with hy | hy
      · exact hp y hy
      · rw [List.mem_singleton] at hy
        refine ⟨h, us, hy.trans (hx.trans (by rw [g2])), w, by rw [g2, List.length_map] at g3; exact g3, g4, hd, ?_⟩
        rw [hy, hx]; exact hR
theorem refs_c {es : List (List PV)} (ho : ∀ x, x ∈ es → TagOk x) (hz : es.length ≤ 9223372036854775807) : ∃ out b, cW f_celluloidlaw22_refs [.l es] [] = some ([.l out, .b b], []) ∧ (b = true → out = es ∧ (es.length ≤ 60 ∧ ∀ x, x ∈ es → TagR x)) := by
  rw [w_celluloidlaw22_refs]
  by_cases hn : es.length ≤ 60
  · rw [show decide (((es.length : Nat) : Int) > 60) = false by rw [decide_eq_false_iff_not]; omega, cond_false]
    obtain ⟨out, b, e, hb⟩ := refs_loop hn ho es [] rfl (fun x hx => by cases hx)
    exact ⟨out, b, e, fun h => ⟨(hb h).1, hn, (hb h).2⟩⟩
  · rw [show decide (((es.length : Nat) : Int) > 60) = true by rw [decide_eq_true_eq]; omega, cond_true]
    exact ⟨[], false, rfl, fun h => by cases h⟩
end Go.AI
set_option linter.unusedVariables false
set_option linter.unusedSimpArgs false
set_option maxRecDepth 100000
namespace Go.AI
open Go Go.Proofs

theorem kd_el (es : List (List PV)) (k : Nat) : ((elemAt es ((k : Nat) : Int)).getD 0 PV.u).toI = kdE es k := by
  unfold elemAt kdE
  rw [Int.toNat_natCast]
theorem in_el {es : List (List PV)} {k : Nat} (h : k < es.length) : decide (((k : Nat) : Int) < ((es.length : Nat) : Int)) = true ∧ inB ((k : Nat) : Int) es.length = true := by
  refine ⟨by rw [decide_eq_true_eq]; omega, ?_⟩
  unfold inB
  simp
  omega
theorem shows_loop {es : List (List PV)} (hl : es.length ≤ 9223372036854775807) : ∀ (r k : Nat), k + r = es.length → rW f_scene_Shows [] at_scene_Shows_L0 (S_scene_Shows_L0 (shN (kdE es) k : Nat) es (es.length : Nat) (k : Nat)) = some ([.i (shN (kdE es) es.length : Nat)], [])
  | 0, k, h => by
    rw [Nat.add_zero] at h
    rw [w_scene_Shows_L0, h, decide_eq_false (by omega), cond_false]
  | r + 1, k, h => by
    obtain ⟨h1, h2⟩ := in_el (es := es) (k := k) (by omega)
    have ih := shows_loop hl r (k + 1) (by omega)
    have hs := shN_le (kdE es) k
    rw [w_scene_Shows_L0, h1, h2, cond_true, cond_true, kd_el]
    rw [show shN (kdE es) (k + 1) = if kdE es k = 1 then shN (kdE es) k + 1 else shN (kdE es) k from rfl] at ih
    by_cases e : kdE es k = 1
    · rw [if_pos e] at ih
      rw [show (kdE es k == 1) = true by rw [beq_iff_eq]; exact e, cond_true, wrap64 (by omega) (by omega), wrap64 (by omega) (by omega)]
      exact ih
    · rw [if_neg e] at ih
      rw [show (kdE es k == 1) = false by rw [beq_eq_false_iff_ne]; exact e, cond_false, wrap64 (by omega) (by omega)]
      exact ih
theorem shows_c {es : List (List PV)} (hl : es.length ≤ 9223372036854775807) : cW f_scene_Shows [.l es] [] = some ([.i (shN (kdE es) es.length : Nat)], []) := by
  rw [w_scene_Shows]
  exact shows_loop hl es.length 0 (by omega)
theorem qshows_loop {es : List (List PV)} (hl : es.length ≤ 9223372036854775807) : ∀ (r k : Nat), k + r = es.length → rW f_celluloidref22_Shows [] at_celluloidref22_Shows_L0 (S_celluloidref22_Shows_L0 es (shN (kdE es) k : Nat) (k : Nat)) = some ([.i (shN (kdE es) es.length : Nat)], [])
  | 0, k, h => by
    rw [Nat.add_zero] at h
    rw [w_celluloidref22_Shows_L0, h, decide_eq_false (by omega), cond_false]
  | r + 1, k, h => by
    obtain ⟨h1, h2⟩ := in_el (es := es) (k := k) (by omega)
    have ih := qshows_loop hl r (k + 1) (by omega)
    have hs := shN_le (kdE es) k
    rw [w_celluloidref22_Shows_L0, h1, h2, cond_true, cond_true, kd_el]
    rw [show shN (kdE es) (k + 1) = if kdE es k = 1 then shN (kdE es) k + 1 else shN (kdE es) k from rfl] at ih
    by_cases e : kdE es k = 1
    · rw [if_pos e] at ih
      rw [show (kdE es k == 1) = true by rw [beq_iff_eq]; exact e, cond_true, wrap64 (by omega) (by omega), wrap64 (by omega) (by omega)]
      exact ih
    · rw [if_neg e] at ih
      rw [show (kdE es k == 1) = false by rw [beq_eq_false_iff_ne]; exact e, cond_false, wrap64 (by omega) (by omega)]
      exact ih
theorem qshows_c {es : List (List PV)} (hl : es.length ≤ 9223372036854775807) : cW f_celluloidref22_Shows [.l es] [] = some ([.i (shN (kdE es) es.length : Nat)], []) := by
  rw [w_celluloidref22_Shows]
  exact qshows_loop hl es.length 0 (by omega)
theorem sit_loop {X : List (Nat → Int)} (hl : X.length ≤ 255) : ∀ (rest pre : List (Nat → Int)), X = pre ++ rest → rW f_celluloidlaw22_items [] at_celluloidlaw22_items_L0 (S_celluloidlaw22_items_L0 (X.map itE) ((X.map itE).length : Nat) (pre.length : Nat) (pre.map itE)) = some ([.l (X.map itE)], [])
  | [], pre, he => by
    rw [w_celluloidlaw22_items_L0]
    simp only [List.length_map, el_end he, cond_false]
    rw [he, List.append_nil]
  | x :: rest, pre, he => by
    obtain ⟨h1, h2, h3, h4, h5⟩ := el_stepM itE he (by omega)
    have ih := sit_loop hl rest (pre ++ [x]) h5
    have hlen : pre.length + 1 ≤ 255 := by rw [he, List.length_append, List.length_cons] at hl; omega
    rw [w_celluloidlaw22_items_L0]
    rw [List.length_map] at ih ⊢
    rw [h1, h2, h3, h4, cond_true, cond_true]
    unfold itE at ih ⊢
    simp only [List.getD_cons_zero, List.getD_cons_succ, toI_i]
    rw [room2 _ _ (by rw [List.length_map]; omega) (by rw [List.length_map]; omega), cond_true]
    rw [List.map_append] at ih
    exact ih
theorem sit_c {X : List (Nat → Int)} (hl : X.length ≤ 255) : cW f_celluloidlaw22_items [.l (X.map itE)] [] = some ([.l (X.map itE)], []) := by
  rw [w_celluloidlaw22_items]
  exact sit_loop hl X [] rfl
theorem sameit_loop {X : List (Nat → Int)} (hl : X.length ≤ 255) : ∀ (rest pre : List (Nat → Int)), X = pre ++ rest → rW f_celluloidref22_SameItems [] at_celluloidref22_SameItems_L0 (S_celluloidref22_SameItems_L0 (X.map itE) (X.map itE) (pre.length : Nat)) = some ([.b true], [])
  | [], pre, he => by
    rw [w_celluloidref22_SameItems_L0]
    simp only [List.length_map, el_end he, cond_false]
  | x :: rest, pre, he => by
    obtain ⟨h1, h2, h3, h4, h5⟩ := el_stepM itE he (by omega)
    have ih := sameit_loop hl rest (pre ++ [x]) h5
    rw [w_celluloidref22_SameItems_L0, List.length_map, h1, h2, h3, h4, cond_true, cond_true, cond_true]
    unfold itE at ih ⊢
    simp only [List.getD_cons_zero, List.getD_cons_succ, toI_i, beq_self_eq_true, Bool.and_self, Bool.not_true, cond_false]
    exact ih
theorem sameit_c {X : List (Nat → Int)} (hl : X.length ≤ 255) : cW f_celluloidref22_SameItems [.l (X.map itE), .l (X.map itE)] [] = some ([.b true], []) := by
  rw [w_celluloidref22_SameItems]
  rw [show ((((List.length (X.map itE)) : Nat) : Int) != (((List.length (X.map itE)) : Nat) : Int)) = false from bne_self_eq_false _, cond_false]
  exact sameit_loop hl X [] rfl
theorem itemsE_len (es : List (List PV)) (fr : Int) : (itemsE es fr).length ≤ 255 := by
  unfold itemsE itemsF
  refine Nat.le_trans (List.length_filterMap_le _ _) ?_
  unfold depths
  rw [List.length_map, List.length_range]
  exact Nat.le_refl _
theorem e_pl (h : Hd) (L : List (List PV)) (j : Nat) (hj : j < 19) : ((h.e L).getD (6 + j) .u).toI = h.pl j := by
  refine cases19 (p := fun j => ((h.e L).getD (6 + j) .u).toI = h.pl j) ?_ j hj
  exact ⟨rfl, rfl, rfl, rfl, rfl, rfl, rfl, rfl, rfl, rfl, rfl, rfl, rfl, rfl, rfl, rfl, rfl, rfl, rfl⟩
theorem wf_of {n : Int} (h : I64 n) : (Lit.int .i64 n).wf = true := by
  have h : -9223372036854775808 ≤ n ∧ n ≤ 9223372036854775807 := h
  simp only [Lit.wf, Bool.and_eq_true, decide_eq_true_eq]
  exact h
theorem okE_of {es : List (List PV)} (hn : es.length ≤ 60) (hR : ∀ x, x ∈ es → TagR x) {fr : Int} (hf : fr ≤ 9223372036854775807) : OkE es fr := by
  have key : ∀ k, k < es.length → ∃ (h : Hd) (us : List Hd), es.getD k [] = h.e (us.map Hd.s) ∧ (h.wf ∧ DepOk h) := fun k hk => by
    have e : es.getD k [] = es[k] := by simp [List.getD, hk]
    obtain ⟨h, us, g1, g2, _, _, g3, _⟩ := hR es[k] (List.getElem_mem hk)
    exact ⟨h, us, e.trans g1, g2, g3⟩
  refine ⟨by omega, hf, fun k hk => ?_, fun k hk => ?_, fun k hk he => ?_⟩
  · obtain ⟨h, us, e, w, _⟩ := key k hk
    unfold dpE
    rw [e]
    exact wf_of w.dep
  · obtain ⟨h, us, e, w, _⟩ := key k hk
    unfold plE
    rw [e, e_pl h _ 1 (by decide)]
    exact wf_of (w.pl 1 (by decide))
  · obtain ⟨h, us, e, w, d⟩ := key k hk
    unfold plE
    unfold kdE at he
    rw [e] at he ⊢
    rw [e_pl h _ 1 (by decide)]
    exact (d.1 he).1
end Go.AI
set_option linter.unusedVariables false
set_option linter.unusedSimpArgs false
set_option maxRecDepth 100000
namespace Go.AI
open Go Go.Proofs

theorem shN_succ (kd : Nat → Int) (k : Nat) : shN kd (k + 1) = if kd k = 1 then shN kd k + 1 else shN kd k := rfl
end Go.AI
set_option linter.unusedVariables false
set_option linter.unusedSimpArgs false
set_option maxRecDepth 100000
namespace Go.AI
open Go Go.Proofs

theorem tl_bt {f : Int} (h0 : 0 ≤ f) (h1 : f ≤ 127) : tl f 1 = bt2 f 1 ∧ tl f 2 = bt2 f 2 ∧ tl f 4 = bt2 f 4 ∧ tl f 8 = bt2 f 8 ∧ tl f 16 = bt2 f 16 ∧ tl f 64 = bt2 f 64 := by
  have key : ∀ n : Fin 128, tl ((n.1 : Nat) : Int) 1 = bt2 ((n.1 : Nat) : Int) 1 ∧ tl ((n.1 : Nat) : Int) 2 = bt2 ((n.1 : Nat) : Int) 2 ∧ tl ((n.1 : Nat) : Int) 4 = bt2 ((n.1 : Nat) : Int) 4 ∧ tl ((n.1 : Nat) : Int) 8 = bt2 ((n.1 : Nat) : Int) 8 ∧ tl ((n.1 : Nat) : Int) 16 = bt2 ((n.1 : Nat) : Int) 16 ∧ tl ((n.1 : Nat) : Int) 64 = bt2 ((n.1 : Nat) : Int) 64 := by decide +kernel
  have := key ⟨f.toNat, by omega⟩
  rw [show ((f.toNat : Nat) : Int) = f by omega] at this
  exact this
theorem tells_1 (p : Nat → Int) : cW f_celluloidref13_Tells [.i (p 0), .i (p 1), .i (p 2), .i (p 3), .i (p 4), .i (p 5), .i (p 6), .i (p 7), .i (p 8), .i (p 9), .i (p 10), .i (p 11), .i (p 12), .i (p 13), .i (p 14), .i (p 15), .i (p 16), .i (p 17), .i (p 18), .i 1] [] = some ([.b (tl (p 0) 1)], []) := tells_c p (by decide)
def StepQ (p : Nat → Int) : Prop := tl (p 0) 1 = bt2 (p 0) 1 ∧ tl (p 0) 2 = bt2 (p 0) 2 ∧ tl (p 0) 4 = bt2 (p 0) 4 ∧ tl (p 0) 8 = bt2 (p 0) 8 ∧ tl (p 0) 16 = bt2 (p 0) 16 ∧ tl (p 0) 64 = bt2 (p 0) 64
noncomputable def qL (es : List (List PV)) (m d i : Int) (th : Bool) (x : Nat → Int) : Option Res := rW f_celluloidref22_at [] at_celluloidref22_at_L0 (S_celluloidref22_at_L0 es m d th i 0 0 0 0 0 0 0 0 0 0 0 0 0 0 0 0 0 0 0 (x 0) (x 1) (x 2) (x 3) (x 4) (x 5) (x 6) (x 7) (x 8) (x 9) (x 10) (x 11) (x 12) (x 13) (x 14) (x 15) (x 16) (x 17) (x 18))
theorem qC21 (es : List (List PV)) (m d i : Int) (th : Bool) (y p : Nat → Int) (h : StepQ p) : rW f_celluloidref22_at [] at_celluloidref22_at_C21 (S_celluloidref22_at_C21 es m d th i 0 0 0 0 0 0 0 0 0 0 0 0 0 0 0 0 0 0 0 (y 0) (y 1) (y 2) (y 3) (y 4) (y 5) (y 6) (y 7) (y 8) (y 9) (y 10) (y 11) (y 12) (y 13) (y 14) (y 15) (y 16) (y 17) (y 18) (p 0) (p 1) (p 2) (p 3) (p 4) (p 5) (p 6) (p 7) (p 8) (p 9) (p 10) (p 11) (p 12) (p 13) (p 14) (p 15) (p 16) (p 17) (p 18)) = qL es m d (IntKind.wrap .i64 (i + 1)) th (s64 y p) := by
  rw [w_celluloidref22_at_C21, tells_64]
  simp only [Option.bind_some, List.getD_cons_zero, toB_b]
  rw [h.2.2.2.2.2]
  unfold s64
  cases bt2 (p 0) 64 with
  | true => rfl
  | false => rfl
theorem qC19 (es : List (List PV)) (m d i : Int) (th : Bool) (y p : Nat → Int) (h : StepQ p) : rW f_celluloidref22_at [] at_celluloidref22_at_C19 (S_celluloidref22_at_C19 es m d th i 0 0 0 0 0 0 0 0 0 0 0 0 0 0 0 0 0 0 0 (y 0) (y 1) (y 2) (y 3) (y 4) (y 5) (y 6) (y 7) (y 8) (y 9) (y 10) (y 11) (y 12) (y 13) (y 14) (y 15) (y 16) (y 17) (y 18) (p 0) (p 1) (p 2) (p 3) (p 4) (p 5) (p 6) (p 7) (p 8) (p 9) (p 10) (p 11) (p 12) (p 13) (p 14) (p 15) (p 16) (p 17) (p 18)) = qL es m d (IntKind.wrap .i64 (i + 1)) th (s64 (s16 y p) p) := by
  rw [w_celluloidref22_at_C19, tells_16]
  simp only [Option.bind_some, List.getD_cons_zero, toB_b]
  rw [h.2.2.2.2.1]
  unfold s16
  cases bt2 (p 0) 16 with
  | true => exact qC21 es m d i th (up y 16 (p 17)) p h
  | false => exact qC21 es m d i th y p h
theorem qC17 (es : List (List PV)) (m d i : Int) (th : Bool) (y p : Nat → Int) (h : StepQ p) : rW f_celluloidref22_at [] at_celluloidref22_at_C17 (S_celluloidref22_at_C17 es m d th i 0 0 0 0 0 0 0 0 0 0 0 0 0 0 0 0 0 0 0 (y 0) (y 1) (y 2) (y 3) (y 4) (y 5) (y 6) (y 7) (y 8) (y 9) (y 10) (y 11) (y 12) (y 13) (y 14) (y 15) (y 16) (y 17) (y 18) (p 0) (p 1) (p 2) (p 3) (p 4) (p 5) (p 6) (p 7) (p 8) (p 9) (p 10) (p 11) (p 12) (p 13) (p 14) (p 15) (p 16) (p 17) (p 18)) = qL es m d (IntKind.wrap .i64 (i + 1)) th (s64 (s16 (s8 y p) p) p) := by
  rw [w_celluloidref22_at_C17, tells_8]
  simp only [Option.bind_some, List.getD_cons_zero, toB_b]
  rw [h.2.2.2.1]
  unfold s8
  cases bt2 (p 0) 8 with
  | true => exact qC19 es m d i th (fun i => bif Nat.ble 8 i && Nat.ble i 15 then p (i + 1) else y i) p h
  | false => exact qC19 es m d i th y p h
theorem qC15 (es : List (List PV)) (m d i : Int) (th : Bool) (y p : Nat → Int) (h : StepQ p) : rW f_celluloidref22_at [] at_celluloidref22_at_C15 (S_celluloidref22_at_C15 es m d th i 0 0 0 0 0 0 0 0 0 0 0 0 0 0 0 0 0 0 0 (y 0) (y 1) (y 2) (y 3) (y 4) (y 5) (y 6) (y 7) (y 8) (y 9) (y 10) (y 11) (y 12) (y 13) (y 14) (y 15) (y 16) (y 17) (y 18) (p 0) (p 1) (p 2) (p 3) (p 4) (p 5) (p 6) (p 7) (p 8) (p 9) (p 10) (p 11) (p 12) (p 13) (p 14) (p 15) (p 16) (p 17) (p 18)) = qL es m d (IntKind.wrap .i64 (i + 1)) th (s64 (s16 (s8 (s4 y p) p) p) p) := by
  rw [w_celluloidref22_at_C15, tells_4]
  simp only [Option.bind_some, List.getD_cons_zero, toB_b]
  rw [h.2.2.1]
  unfold s4
  cases bt2 (p 0) 4 with
  | true => exact qC17 es m d i th (fun i => bif Nat.ble 2 i && Nat.ble i 7 then p (i + 1) else y i) p h
  | false => exact qC17 es m d i th y p h
theorem qC13 (es : List (List PV)) (m d i : Int) (th : Bool) (y p : Nat → Int) (h : StepQ p) (n : Int) (hk : okB 0 i es.length = true) (hs : cW f_celluloidref22_Shows [.l (cutL 0 i es)] [] = some ([.i n], [])) : rW f_celluloidref22_at [] at_celluloidref22_at_C13 (S_celluloidref22_at_C13 es m d th i 0 0 0 0 0 0 0 0 0 0 0 0 0 0 0 0 0 0 0 (y 0) (y 1) (y 2) (y 3) (y 4) (y 5) (y 6) (y 7) (y 8) (y 9) (y 10) (y 11) (y 12) (y 13) (y 14) (y 15) (y 16) (y 17) (y 18) (p 0) (p 1) (p 2) (p 3) (p 4) (p 5) (p 6) (p 7) (p 8) (p 9) (p 10) (p 11) (p 12) (p 13) (p 14) (p 15) (p 16) (p 17) (p 18)) = qL es m d (IntKind.wrap .i64 (i + 1)) th (s64 (s16 (s8 (s4 (s2 y p n) p) p) p) p) := by
  rw [w_celluloidref22_at_C13, tells_2, hk, hs]
  simp only [Option.bind_some, List.getD_cons_zero, toB_b, toI_i, cond_true]
  rw [h.2.1]
  unfold s2
  cases bt2 (p 0) 2 with
  | true => exact qC15 es m d i th (up (up y 1 (p 2)) 18 n) p h
  | false => exact qC15 es m d i th y p h
theorem bt2_not (m k : Int) : (bitsOp .and .i64 m k == 0) = !bt2 m k := by unfold bt2; rw [bne, Bool.not_not]
abbrev pE (es : List (List PV)) (i : Int) (j : Nat) : Int := ((elemAt es i).getD (6 + j) PV.u).toI
noncomputable abbrev C8 (es : List (List PV)) (m d i : Int) (th : Bool) (x : Nat → Int) : St := S_celluloidref22_at_C8 es m d th i 0 0 0 0 0 0 0 0 0 0 0 0 0 0 0 0 0 0 0 (x 0) (x 1) (x 2) (x 3) (x 4) (x 5) (x 6) (x 7) (x 8) (x 9) (x 10) (x 11) (x 12) (x 13) (x 14) (x 15) (x 16) (x 17) (x 18) ((elemAt es i).getD 0 PV.u).toI ((elemAt es i).getD 1 PV.u).toI ((elemAt es i).getD 2 PV.u).toI ((elemAt es i).getD 3 PV.u).toI ((elemAt es i).getD 4 PV.u).toI ((elemAt es i).getD 5 PV.u).toI ((elemAt es i).getD 6 PV.u).toI ((elemAt es i).getD 7 PV.u).toI ((elemAt es i).getD 8 PV.u).toI ((elemAt es i).getD 9 PV.u).toI ((elemAt es i).getD 10 PV.u).toI ((elemAt es i).getD 11 PV.u).toI ((elemAt es i).getD 12 PV.u).toI ((elemAt es i).getD 13 PV.u).toI ((elemAt es i).getD 14 PV.u).toI ((elemAt es i).getD 15 PV.u).toI ((elemAt es i).getD 16 PV.u).toI ((elemAt es i).getD 17 PV.u).toI ((elemAt es i).getD 18 PV.u).toI ((elemAt es i).getD 19 PV.u).toI ((elemAt es i).getD 20 PV.u).toI ((elemAt es i).getD 21 PV.u).toI ((elemAt es i).getD 22 PV.u).toI ((elemAt es i).getD 23 PV.u).toI ((elemAt es i).getD 24 PV.u).toI ((elemAt es i).getD 25 PV.u).toI ((elemAt es i).getD 26 PV.u).toI ((elemAt es i).getD 27 PV.u).toI ((elemAt es i).getD 28 PV.u).toI ((elemAt es i).getD 29 PV.u).toI ((elemAt es i).getD 30 PV.u).toL ((elemAt es i).getD 31 PV.u).toL ((elemAt es i).getD 32 PV.u).toL ((elemAt es i).getD 33 PV.u).toI ((elemAt es i).getD 34 PV.u).toI ((elemAt es i).getD 35 PV.u).toI ((elemAt es i).getD 36 PV.u).toI ((elemAt es i).getD 37 PV.u).toI ((elemAt es i).getD 38 PV.u).toI ((elemAt es i).getD 39 PV.u).toI ((elemAt es i).getD 40 PV.u).toI ((elemAt es i).getD 41 PV.u).toI ((elemAt es i).getD 42 PV.u).toL ((elemAt es i).getD 43 PV.u).toL ((elemAt es i).getD 44 PV.u).toL ((elemAt es i).getD 45 PV.u).toL ((elemAt es i).getD 46 PV.u).toL ((elemAt es i).getD 47 PV.u).toL ((elemAt es i).getD 48 PV.u).toI ((elemAt es i).getD 49 PV.u).toI ((elemAt es i).getD 50 PV.u).toI ((elemAt es i).getD 51 PV.u).toL ((elemAt es i).getD 52 PV.u).toI ((elemAt es i).getD 53 PV.u).toI ((elemAt es i).getD 54 PV.u).toL
/-- nothing is told of this depth -/
theorem qC8_no (es : List (List PV)) (m d i : Int) (th : Bool) (x : Nat → Int) (h : ¬ (((elemAt es i).getD 0 PV.u).toI = 26 ∧ pE es i 1 = d)) : rW f_celluloidref22_at [] at_celluloidref22_at_C8 (C8 es m d i th x) = qL es m d (IntKind.wrap .i64 (i + 1)) th x := by
  unfold C8
  rw [w_celluloidref22_at_C8]
  by_cases h1 : ((elemAt es i).getD 0 PV.u).toI = 26
  · rw [show (((elemAt es i).getD 0 PV.u).toI != 26) = false by rw [bne_eq_false_iff_eq]; exact h1, cond_false]
    rw [show (((elemAt es i).getD 7 PV.u).toI != d) = true by rw [bne_iff_ne]; exact fun e => h ⟨h1, e⟩, cond_true]
    rfl
  · rw [show (((elemAt es i).getD 0 PV.u).toI != 26) = true by rw [bne_iff_ne]; exact h1, cond_true]
    rfl
theorem qC8_yes (es : List (List PV)) (m d i : Int) (th : Bool) (x : Nat → Int) (n : Int) (h1 : ((elemAt es i).getD 0 PV.u).toI = 26) (h2 : pE es i 1 = d) (h : StepQ (pE es i)) (hk : okB 0 i es.length = true) (hs : cW f_celluloidref22_Shows [.l (cutL 0 i es)] [] = some ([.i n], [])) :
    rW f_celluloidref22_at [] at_celluloidref22_at_C8 (C8 es m d i th x) = qL es m d (IntKind.wrap .i64 (i + 1)) ((placeF x th (pE es i) n).2) (placeF x th (pE es i) n).1 := by
  have e13 := fun th y => qC13 es m d i th y (pE es i) h n hk hs
  have t1 := tells_1 (pE es i)
  have t2 := tells_2 (pE es i)
  unfold C8
  rw [w_celluloidref22_at_C8, show (((elemAt es i).getD 0 PV.u).toI != 26) = false by rw [bne_eq_false_iff_eq]; exact h1, cond_false, show (((elemAt es i).getD 7 PV.u).toI != d) = false by rw [bne_eq_false_iff_eq]; exact h2, cond_false]
  rw [h.1] at t1
  rw [h.2.1] at t2
  erw [t1, t2]
  simp only [Option.bind_some, List.getD_cons_zero, toB_b]
  unfold placeF
  rw [bt2_not, bt2_not]
  generalize bt2 (pE es i 0) 2 = b2
  generalize bt2 (pE es i 0) 1 = b1
  cases th with
  | false =>
    cases b2 with
    | false => rfl
    | true =>
      subst h2
      exact e13 true (newF (pE es i 1))
  | true =>
    cases b1 with
    | false =>
      subst h2
      cases b2 <;> exact e13 true (newF (pE es i 1))
    | true => cases b2 <;> exact e13 true x
end Go.AI
set_option linter.unusedVariables false
set_option linter.unusedSimpArgs false
set_option maxRecDepth 100000
namespace Go.AI
open Go Go.Proofs

theorem shN_congr {kd kd' : Nat → Int} : ∀ k, (∀ j, j < k → kd j = kd' j) → shN kd k = shN kd' k
  | 0, _ => rfl
  | k + 1, h => by
    rw [shN_succ, shN_succ, shN_congr k (fun j hj => h j (by omega)), h k (by omega)]
theorem kdE_take (es : List (List PV)) {k j : Nat} (h : j < k) : kdE (es.take k) j = kdE es j := by
  unfold kdE
  simp only [List.getD, List.getElem?_take_of_lt h]
theorem cutL_take (es : List (List PV)) (k : Nat) : cutL 0 ((k : Nat) : Int) es = es.take k := by
  unfold cutL
  rw [Int.toNat_natCast]
  rfl
theorem shows_take {es : List (List PV)} (hl : es.length ≤ 9223372036854775807) {k : Nat} (hk : k ≤ es.length) : cW f_celluloidref22_Shows [.l (cutL 0 ((k : Nat) : Int) es)] [] = some ([.i ((shN (kdE es) k : Nat) : Int)], []) := by
  rw [cutL_take, qshows_c (by rw [List.length_take]; omega), List.length_take, Nat.min_eq_left hk, shN_congr k (fun j hj => kdE_take es hj)]
theorem okB_k {k n : Nat} (h : k ≤ n) : okB 0 ((k : Nat) : Int) n = true := by
  unfold okB
  simp only [Bool.and_eq_true, decide_eq_true_eq]
  omega
theorem placeF_no {x : Nat → Int} {th : Bool} {p : Nat → Int} {n : Int} (h : (placeF x th p n).2 = false) : (placeF x th p n).1 = x ∧ th = false := by
  unfold placeF at h ⊢
  cases th with
  | true =>
    rw [Bool.not_true, Bool.and_false, cond_false] at h
    cases h
  | false =>
    rw [Bool.not_false, Bool.and_true] at h ⊢
    cases e : bitsOp BinOp.and .i64 (p 0) 2 == 0 with
    | true => exact ⟨rfl, rfl⟩
    | false => rw [e, cond_false] at h; cases h
abbrev aq (es : List (List PV)) (d : Int) (k : Nat) : (Nat → Int) × Bool := atS placeF (kdE es) (dpE es) (plE es) d k
theorem dp_el (es : List (List PV)) (k : Nat) : ((elemAt es ((k : Nat) : Int)).getD 1 PV.u).toI = dpE es k := by
  unfold elemAt dpE
  rw [Int.toNat_natCast]
theorem pl_el (es : List (List PV)) (k : Nat) : pE es ((k : Nat) : Int) = plE es k := by
  funext j
  unfold pE elemAt plE
  rw [Int.toNat_natCast]
theorem loopAt {es : List (List PV)} (hl : es.length ≤ 1000000) (hq : ∀ k, k < es.length → kdE es k = 26 → StepQ (plE es k)) (d : Int) {m : Nat} (hm : m ≤ es.length) : ∀ r k, k + r = m → qL es (m : Nat) d (k : Nat) (aq es d k).2 (aq es d k).1 = some (itE (aq es d m).1 ++ [.b (aq es d m).2], [])
  | 0, k, h => by
    rw [Nat.add_zero] at h
    subst h
    unfold qL
    rw [w_celluloidref22_at_L0, decide_eq_false (by omega), cond_false]
    rfl
  | r + 1, k, h => by
    have ih := loopAt hl hq d hm r (k + 1) (by omega)
    obtain ⟨h1, h2⟩ := in_el (es := es) (k := k) (by omega)
    have ew : IntKind.wrap .i64 (((k : Nat) : Int) + 1) = ((k + 1 : Nat) : Int) := by rw [wrap64 (by omega) (by omega)]; omega
    have no := fun th x => qC8_no es (m : Nat) d (k : Nat) th x
    have yes := fun th x => qC8_yes es (m : Nat) d (k : Nat) th x (shN (kdE es) k : Nat)
    rw [kd_el, pl_el, ew] at no yes
    have hs : shF (kdE es) k = ((shN (kdE es) k : Nat) : Int) := shF_N (by unfold maxLen; omega)
    have e0 : aq es d (k + 1) = if kdE es k = 28 ∧ dpE es k = d then (fun _ => 0, false)
      else if kdE es k = 26 ∧ plE es k 1 = d then
        bif (placeF (aq es d k).1 (aq es d k).2 (plE es k) (shF (kdE es) k)).2 then (tr19 (placeF (aq es d k).1 (aq es d k).2 (plE es k) (shF (kdE es) k)).1, true) else aq es d k
      else aq es d k := rfl
    rw [hs] at e0
    generalize aq es d k = s at e0 ⊢
    unfold qL
    rw [w_celluloidref22_at_L0, decide_eq_true (by omega), h2, cond_true, cond_true, kd_el, dp_el]
    by_cases c1 : kdE es k = 28 ∧ dpE es k = d
    · rw [if_pos c1] at e0
      rw [e0] at ih
      rw [show (kdE es k == 28) = true by rw [beq_iff_eq]; exact c1.1, cond_true, show (dpE es k == d) = true by rw [beq_iff_eq]; exact c1.2]
      exact (no false (fun _ => 0) (fun h => by omega)).trans ih
    · rw [if_neg c1] at e0
      have e1 : (bif kdE es k == 28 then some [PV.b (dpE es k == d)] else some [PV.b false]) = some [PV.b false] := by
        cases a : kdE es k == 28 with
        | false => rfl
        | true =>
          cases b : dpE es k == d with
          | false => rfl
          | true => exact absurd ⟨beq_iff_eq.1 a, beq_iff_eq.1 b⟩ c1
      rw [e1]
      by_cases c2 : kdE es k = 26 ∧ plE es k 1 = d
      · rw [if_pos c2] at e0
        refine (yes s.2 s.1 c2.1 c2.2 (hq k (by omega) c2.1) (okB_k (by omega)) (shows_take (by omega) (by omega))).trans ?_
        cases e : (placeF s.1 s.2 (plE es k) ((shN (kdE es) k : Nat) : Int)).2 with
        | true =>
          rw [e, cond_true] at e0
          rw [e0] at ih
          exact ih
        | false =>
          rw [e, cond_false] at e0
          rw [e0] at ih
          obtain ⟨g1, g2⟩ := placeF_no e
          rw [g1, ← g2]
          exact ih
      · rw [if_neg c2] at e0
        rw [e0] at ih
        exact (no s.2 s.1 c2).trans ih
theorem atQ {es : List (List PV)} (hl : es.length ≤ 1000000) (hq : ∀ k, k < es.length → kdE es k = 26 → StepQ (plE es k)) (d : Int) {m : Nat} (hm : m ≤ es.length) : cW f_celluloidref22_at [.l es, .i (m : Nat), .i d] [] = some (itE (aq es d m).1 ++ [.b (aq es d m).2], []) := by
  rw [w_celluloidref22_at]
  exact loopAt hl hq d hm m 0 (by omega)
theorem ahead_loop {es : List (List PV)} (hl : es.length ≤ 1000000) (fr : Int) : ∀ r k, k + r = es.length → rW f_celluloidref22_Ahead [] at_celluloidref22_Ahead_L0 (S_celluloidref22_Ahead_L0 es fr (k : Nat)) = some ([.i (doneT (kdE es) fr k r : Nat)], [])
  | 0, k, h => by
    rw [Nat.add_zero] at h
    rw [w_celluloidref22_Ahead_L0, decide_eq_false (by omega), cond_false, h]
    rfl
  | r + 1, k, h => by
    have ih := ahead_loop hl fr r (k + 1) (by omega)
    obtain ⟨h1, h2⟩ := in_el (es := es) (k := k) (by omega)
    have ew : IntKind.wrap .i64 (((k : Nat) : Int) + 1) = ((k + 1 : Nat) : Int) := by rw [wrap64 (by omega) (by omega)]; omega
    rw [w_celluloidref22_Ahead_L0, h1, h2, cond_true, cond_true, kd_el, okB_k (by omega), cond_true, shows_take (by omega) (by omega), ew]
    unfold doneT
    by_cases c : kdE es k = 1
    · rw [show (kdE es k == 1) = true by rw [beq_iff_eq]; exact c, cond_true]
      simp only [Option.bind_some, List.getD_cons_zero, toI_i]
      by_cases c2 : ((shN (kdE es) k : Nat) : Int) = fr
      · rw [if_pos ⟨c, c2⟩, show (((shN (kdE es) k : Nat) : Int) == fr) = true by rw [beq_iff_eq]; exact c2]
        rfl
      · rw [if_neg (fun h => c2 h.2), show (((shN (kdE es) k : Nat) : Int) == fr) = false by rw [beq_eq_false_iff_ne]; exact c2]
        exact ih
    · rw [if_neg (fun h => c h.1), show (kdE es k == 1) = false by rw [beq_eq_false_iff_ne]; exact c, cond_false]
      exact ih
theorem ahead_q {es : List (List PV)} (hl : es.length ≤ 1000000) (fr : Int) : cW f_celluloidref22_Ahead [.l es, .i fr] [] = some ([.i (doneN (kdE es) fr es.length : Nat)], []) := by
  rw [w_celluloidref22_Ahead]
  unfold doneN frame0
  by_cases c : fr < 0
  · rw [if_pos c, decide_eq_true c, cond_true]
    exact ahead_loop hl 0 es.length 0 (by omega)
  · rw [if_neg c, decide_eq_false c, cond_false]
    exact ahead_loop hl fr es.length 0 (by omega)
def itsQ (es : List (List PV)) (n k : Nat) : List (Nat → Int) := ((List.range k).map fun j => ((j + 1 : Nat) : Int)).filterMap fun d => bif (aq es d n).2 then some (aq es d n).1 else none
theorem itsQ_len (es : List (List PV)) (n k : Nat) : (itsQ es n k).length ≤ k := by
  unfold itsQ
  refine Nat.le_trans (List.length_filterMap_le _ _) ?_
  rw [List.length_map, List.length_range]
  exact Nat.le_refl _
theorem itsQ_succ (es : List (List PV)) (n k : Nat) : itsQ es n (k + 1) = itsQ es n k ++ (bif (aq es ((k + 1 : Nat) : Int) n).2 then [(aq es ((k + 1 : Nat) : Int) n).1] else []) := by
  unfold itsQ
  rw [List.range_succ, List.map_append, List.filterMap_append]
  congr 1
  simp only [List.map_cons, List.map_nil, List.filterMap_cons, List.filterMap_nil]
  cases (aq es ((k + 1 : Nat) : Int) n).2 <;> rfl
theorem itsQ_loop {es : List (List PV)} (hl : es.length ≤ 1000000) (hq : ∀ k, k < es.length → kdE es k = 26 → StepQ (plE es k)) {n : Nat} (hn : n ≤ es.length) : ∀ r k, k + r = 255 → rW f_celluloidref22_Items [] at_celluloidref22_Items_L0 (S_celluloidref22_Items_L0 es (n : Nat) ((k + 1 : Nat) : Int) ((itsQ es n k).map itE)) = some ([.l ((itsQ es n 255).map itE)], [])
  | 0, k, h => by
    rw [Nat.add_zero] at h
    subst h
    rw [w_celluloidref22_Items_L0]
    rfl
  | r + 1, k, h => by
    have ih := itsQ_loop hl hq hn r (k + 1) (by omega)
    have ea := atQ hl hq ((k + 1 : Nat) : Int) hn
    have ew : IntKind.wrap .i64 (((k + 1 : Nat) : Int) + 1) = ((k + 1 + 1 : Nat) : Int) := by rw [wrap64 (by omega) (by omega)]; omega
    have hlen := itsQ_len es n k
    rw [itsQ_succ] at ih
    rw [w_celluloidref22_Items_L0, decide_eq_true (by omega), cond_true, ea, ew]
    generalize aq es ((k + 1 : Nat) : Int) n = s at ih ⊢
    obtain ⟨x, b⟩ := s
    unfold itE at ih ⊢
    simp only [Option.bind_some, List.cons_append, List.nil_append, List.getD_cons_zero, List.getD_cons_succ, toB_b, toI_i]
    cases b with
    | false =>
      rw [cond_false, List.append_nil] at ih
      exact ih
    | true =>
      rw [cond_true, List.map_append] at ih
      rw [cond_true, room2 _ _ (by rw [List.length_map]; omega) (by rw [List.length_map]; omega), cond_true]
      exact ih
theorem Items_q {es : List (List PV)} (hl : es.length ≤ 1000000) (hq : ∀ k, k < es.length → kdE es k = 26 → StepQ (plE es k)) (fr : Int) : cW f_celluloidref22_Items [.l es, .i fr] [] = some ([.l ((itemsE es fr).map itE)], []) := by
  rw [w_celluloidref22_Items, ahead_q hl]
  exact itsQ_loop hl hq (doneN_le _ _ _) 255 0 rfl
end Go.AI
set_option linter.unusedVariables false
set_option linter.unusedSimpArgs false
set_option maxRecDepth 100000
namespace Go.AI
open Go Go.Proofs
theorem awake22 : cP f_celluloidlaw22_awake [] [] = some ([.b true], []) := by
  rw [w_celluloidlaw22_awake]
  have hS : cP f_scene_Shows [.l tags5] [] = some ([.i 2], []) := cP_of (c_at 20 (by kernel_rfl))
  have h0 : cP f_scene_Of (movE ++ [.i 0]) [] = some (sceneE 0, []) := Of_p (.inl rfl)
  have h1 : cP f_scene_Of (movE ++ [.i 1]) [] = some (sceneE 1, []) := Of_p (.inr rfl)
  generalize cP = F at hS h0 h1 ⊢
  refine (congrArg (fun o => Option.bind o _) h0).trans ?_
  refine (congrArg (fun o => Option.bind o _) h1).trans ?_
  refine Eq.trans (b := Option.bind ((F f_scene_Shows [.l tags5] []).bind fun r3 => some [(PV.b (((r3).1.getD 0 PV.u).toI == (2 : Int)))]) fun r4 => some ([(PV.b ((r4.getD 0 PV.u)).toB)], [])) ?_ ?_
  · kernel_rfl
  · rw [hS]; rfl
end Go.AI
set_option linter.unusedVariables false
set_option linter.unusedSimpArgs false
set_option maxRecDepth 100000
namespace Go.AI
open Go Go.Proofs

theorem sit_p (es : List (List PV)) (fr : Int) : cP f_celluloidlaw22_items [.l ((itemsE es fr).map itE)] [] = some ([.l ((itemsE es fr).map itE)], []) := cP_of (sit_c (itemsE_len es fr))
theorem sameit_p (es : List (List PV)) (fr : Int) : cP f_celluloidref22_SameItems [.l ((itemsE es fr).map itE), .l ((itemsE es fr).map itE)] [] = some ([.b true], []) := cP_of (sameit_c (itemsE_len es fr))
end Go.AI
set_option linter.unusedVariables false
set_option linter.unusedSimpArgs false
set_option maxRecDepth 100000
namespace Go.AI
open Go Go.Proofs

theorem pl_tag (h : Hd) (L : List (List PV)) {es : List (List PV)} {k : Nat} (e : es.getD k [] = h.e L) (j : Nat) (hj : j < 19) : plE es k j = h.pl j := by
  unfold plE
  rw [e, e_pl h L j hj]
theorem tag_at {es : List (List PV)} (hR : ∀ x, x ∈ es → TagR x) {k : Nat} (hk : k < es.length) : ∃ (h : Hd) (us : List Hd), es.getD k [] = h.e (us.map Hd.s) ∧ (h.wf ∧ DepOk h) := by
  have e : es.getD k [] = es[k] := by simp [List.getD, hk]
  obtain ⟨h, us, g1, g2, _, _, g3, _⟩ := hR es[k] (List.getElem_mem hk)
  exact ⟨h, us, e.trans g1, g2, g3⟩
theorem kd_tag (h : Hd) (L : List (List PV)) {es : List (List PV)} {k : Nat} (e : es.getD k [] = h.e L) : kdE es k = h.kind := by
  unfold kdE
  rw [e]
  rfl
theorem stepQ_of {es : List (List PV)} (hR : ∀ x, x ∈ es → TagR x) : ∀ k, k < es.length → kdE es k = 26 → StepQ (plE es k) := fun k hk h26 => by
  obtain ⟨h, us, e, _, d⟩ := tag_at hR hk
  rw [kd_tag h _ e] at h26
  have := (d.1 h26).2
  unfold StepQ
  rw [pl_tag h _ e 0 (by decide)]
  exact tl_bt this.1 this.2
theorem SceneItems_c {es : List (List PV)} (hz : es.length ≤ 9223372036854775807) (ho : ∀ x, x ∈ es → TagOk x) {fr : Int} (h1 : fr ≤ 9223372036854775807) : cP f_celluloidlaw22_SceneItems [.l es, .i fr] [] = some ([.b true], []) := by
  obtain ⟨out, b, e, hb⟩ := refs_c ho hz
  rw [w_celluloidlaw22_SceneItems, cP_of e]
  cases b with
  | false =>
    simp only [Option.bind_some, List.getD_cons_zero, List.getD_cons_succ, toB_b, Bool.not_false, cond_true, awake22]
  | true =>
    obtain ⟨rfl, hn, hR⟩ := hb rfl
    simp only [Option.bind_some, List.getD_cons_zero, List.getD_cons_succ, toB_b, toI_i, toL_l, Bool.not_true, cond_false]
    rw [Items_p (okE_of hn hR h1)]
    simp only [Option.bind_some, List.getD_cons_zero, toL_l, sit_p]
    rw [cP_of (Items_q (by omega) (stepQ_of hR) fr)]
    simp only [Option.bind_some, List.getD_cons_zero, toL_l, toB_b, toI_i, sameit_p, cond_true, cP_of (shows_c hz), cP_of (qshows_c hz), beq_self_eq_true, awake22]
end Go.AI
set_option linter.unusedVariables false
set_option linter.unusedSimpArgs false
set_option maxRecDepth 100000
namespace Go.AI
open Go Go.Proofs

abbrev LTag : List LTy := [.int .i64, .int .i64, .int .i64, .int .i64, .int .i64, .int .i64, .int .i64, .int .i64, .int .i64, .int .i64, .int .i64, .int .i64, .int .i64, .int .i64, .int .i64, .int .i64, .int .i64, .int .i64, .int .i64, .int .i64, .int .i64, .int .i64, .int .i64, .int .i64, .int .i64, .int .i64, .int .i64, .int .i64, .int .i64, .int .i64, .sl 169, .sl 173, .sl 176, .int .i64, .int .i64, .int .i64, .int .i64, .int .i64, .int .i64, .int .i64, .int .i64, .int .i64, .sl 169, .sl 169, .sl 173, .sl 173, .sl 176, .sl 176, .int .i64, .int .i64, .int .i64, .sl 43, .int .i64, .int .i64, .sl 80]
theorem leafTag2 : leaves Tryz.prog 80 = some LTag := by kernel_rfl
theorem bytesTag : Tryz.prog.bytesOf 80 = 616 := by kernel_rfl
theorem rows_any {P : Program} {ts : List LTy} {t : TypeId} (hl : leaves P t = some ts) {p : PV} (h : PW P (.sl t) p) : ∃ es, p = .l es ∧ (es.length ≤ maxLen ∧ (es.length * P.bytesOf t ≤ reachBytes ∧ ∀ x, x ∈ es → PWL P ts x)) := by
  obtain ⟨es, ts', rfl, h1, h2, h3⟩ := h.sl_of
  rw [hl] at h1
  cases h1
  exact ⟨es, rfl, h2, h.sl_size, h3⟩
theorem tag_of {x : List PV} (h : PWL Tryz.prog LTag x) : ∃ (d : Hd) (L : List (List PV)), x = d.e L ∧ (d.wf ∧ (L.length * 616 ≤ 140737488355328 ∧ ∀ y, y ∈ L → PWL Tryz.prog LTag y)) := by
  obtain ⟨k, q, rfl, wk, h⟩ := int_cons h
  obtain ⟨d, q, rfl, wd, h⟩ := int_cons h
  obtain ⟨c1, q, rfl, wc1, h⟩ := int_cons h
  obtain ⟨c2, q, rfl, wc2, h⟩ := int_cons h
  obtain ⟨c3, q, rfl, wc3, h⟩ := int_cons h
  obtain ⟨c4, q, rfl, wc4, h⟩ := int_cons h
  obtain ⟨p0, q, rfl, wp0, h⟩ := int_cons h
  obtain ⟨p1, q, rfl, wp1, h⟩ := int_cons h
  obtain ⟨p2, q, rfl, wp2, h⟩ := int_cons h
  obtain ⟨p3, q, rfl, wp3, h⟩ := int_cons h
  obtain ⟨p4, q, rfl, wp4, h⟩ := int_cons h
  obtain ⟨p5, q, rfl, wp5, h⟩ := int_cons h
  obtain ⟨p6, q, rfl, wp6, h⟩ := int_cons h
  obtain ⟨p7, q, rfl, wp7, h⟩ := int_cons h
  obtain ⟨p8, q, rfl, wp8, h⟩ := int_cons h
  obtain ⟨p9, q, rfl, wp9, h⟩ := int_cons h
  obtain ⟨p10, q, rfl, wp10, h⟩ := int_cons h
  obtain ⟨p11, q, rfl, wp11, h⟩ := int_cons h
  obtain ⟨p12, q, rfl, wp12, h⟩ := int_cons h
  obtain ⟨p13, q, rfl, wp13, h⟩ := int_cons h
  obtain ⟨p14, q, rfl, wp14, h⟩ := int_cons h
  obtain ⟨p15, q, rfl, wp15, h⟩ := int_cons h
  obtain ⟨p16, q, rfl, wp16, h⟩ := int_cons h
  obtain ⟨p17, q, rfl, wp17, h⟩ := int_cons h
  obtain ⟨p18, q, rfl, wp18, h⟩ := int_cons h
  obtain ⟨i, q, rfl, wi, h⟩ := int_cons h
  obtain ⟨b1, q, rfl, wb1, h⟩ := int_cons h
  obtain ⟨b2, q, rfl, wb2, h⟩ := int_cons h
  obtain ⟨b3, q, rfl, wb3, h⟩ := int_cons h
  obtain ⟨b4, q, rfl, wb4, h⟩ := int_cons h
  obtain ⟨f, q, rfl, lf, wf, h⟩ := sl_cons (e := Fill.e) (wf := Fill.wf) (t := 169) (by kernel_rfl) (fill_of (t := 231) (by kernel_rfl)) h
  obtain ⟨s, q, rfl, ls, ws, h⟩ := sl_cons (e := Strk.e) (wf := Strk.wf) (t := 173) (by kernel_rfl) strk_of h
  obtain ⟨r, q, rfl, lr, wr, h⟩ := sl_cons (e := Rec.e) (wf := Rec.wf) (t := 176) (by kernel_rfl) (rec_of (f := 169) (t := 173) (k := 231) (by kernel_rfl) (by kernel_rfl) (by kernel_rfl)) h
  obtain ⟨n, q, rfl, wn, h⟩ := int_cons h
  obtain ⟨g1, q, rfl, wg1, h⟩ := int_cons h
  obtain ⟨g2, q, rfl, wg2, h⟩ := int_cons h
  obtain ⟨g3, q, rfl, wg3, h⟩ := int_cons h
  obtain ⟨g4, q, rfl, wg4, h⟩ := int_cons h
  obtain ⟨o1, q, rfl, wo1, h⟩ := int_cons h
  obtain ⟨o2, q, rfl, wo2, h⟩ := int_cons h
  obtain ⟨o3, q, rfl, wo3, h⟩ := int_cons h
  obtain ⟨o4, q, rfl, wo4, h⟩ := int_cons h
  obtain ⟨mf, q, rfl, lmf, wmf, h⟩ := sl_cons (e := Fill.e) (wf := Fill.wf) (t := 169) (by kernel_rfl) (fill_of (t := 231) (by kernel_rfl)) h
  obtain ⟨mg, q, rfl, lmg, wmg, h⟩ := sl_cons (e := Fill.e) (wf := Fill.wf) (t := 169) (by kernel_rfl) (fill_of (t := 231) (by kernel_rfl)) h
  obtain ⟨ms, q, rfl, lms, wms, h⟩ := sl_cons (e := Strk.e) (wf := Strk.wf) (t := 173) (by kernel_rfl) strk_of h
  obtain ⟨mt, q, rfl, lmt, wmt, h⟩ := sl_cons (e := Strk.e) (wf := Strk.wf) (t := 173) (by kernel_rfl) strk_of h
  obtain ⟨mr, q, rfl, lmr, wmr, h⟩ := sl_cons (e := Rec.e) (wf := Rec.wf) (t := 176) (by kernel_rfl) (rec_of (f := 169) (t := 173) (k := 231) (by kernel_rfl) (by kernel_rfl) (by kernel_rfl)) h
  obtain ⟨mv, q, rfl, lmv, wmv, h⟩ := sl_cons (e := Rec.e) (wf := Rec.wf) (t := 176) (by kernel_rfl) (rec_of (f := 169) (t := 173) (k := 231) (by kernel_rfl) (by kernel_rfl) (by kernel_rfl)) h
  obtain ⟨bi, q, rfl, wbi, h⟩ := int_cons h
  obtain ⟨bw, q, rfl, wbw, h⟩ := int_cons h
  obtain ⟨bh, q, rfl, wbh, h⟩ := int_cons h
  obtain ⟨p, q, rfl, hp, h2⟩ := h.cons
  clear h
  obtain ⟨px, rfl, lpx, _, _⟩ := rows_any (ts := (leaves Tryz.prog 43).getD []) (by kernel_rfl) hp
  have h := h2
  clear h2
  obtain ⟨si, q, rfl, wsi, h⟩ := int_cons h
  obtain ⟨sf, q, rfl, wsf, h⟩ := int_cons h
  obtain ⟨p, q, rfl, hp, h2⟩ := h.cons
  obtain ⟨L, rfl, _, hz, hL⟩ := rows_any leafTag2 hp
  obtain rfl := h2.nil
  rw [bytesTag] at hz
  refine ⟨⟨k, d, (c1, c2, c3, c4), fun j => [p0, p1, p2, p3, p4, p5, p6, p7, p8, p9, p10, p11, p12, p13, p14, p15, p16, p17, p18].getD j 0, (i, (b1, b2, b3, b4), f, s, r), ⟨n, (g1, g2, g3, g4), (o1, o2, o3, o4), mf, mg, ms, mt, mr, mv⟩, bi, bw, bh, px, si, sf⟩, L, rfl, ?_, Nat.le_trans hz (by decide), hL⟩
  refine ⟨wk, wd, fun j hj => ?_, lf, fun x hx => (wf x hx).2.2.2.2.1, ls, lr, fun x hx => (wr x hx).1, ⟨lmf, lmg, lmr, lmv, fun x hx => (wmr x hx).1, fun x hx => (wmv x hx).1⟩, lpx⟩
  refine cases19 (p := fun j => I64 ([p0, p1, p2, p3, p4, p5, p6, p7, p8, p9, p10, p11, p12, p13, p14, p15, p16, p17, p18].getD j 0)) ?_ j hj
  exact ⟨wp0, wp1, wp2, wp3, wp4, wp5, wp6, wp7, wp8, wp9, wp10, wp11, wp12, wp13, wp14, wp15, wp16, wp17, wp18⟩
theorem tags_of {p : PV} (h : PW Tryz.prog (.sl 80) p) : ∃ es, p = .l es ∧ (es.length ≤ 9223372036854775807 ∧ ∀ x, x ∈ es → TagOk x) := by
  obtain ⟨es, rfl, h1, _, h2⟩ := rows_any leafTag2 h
  refine ⟨es, rfl, h1, fun x hx => ?_⟩
  obtain ⟨d, L, e, w, hl, hL⟩ := tag_of (h2 x hx)
  refine ⟨d, L, e, w, hl, fun y hy => ?_⟩
  obtain ⟨u, M, e, w, _, _⟩ := tag_of (hL y hy)
  exact ⟨u, M, e, w⟩
end Go.AI
