/- What is nothing: shapes, morphs, bitmaps against empty ones. -/
import Derived.Test.YtlahaamidmbajaaGreatU22
import Derived.Test.YtlahaamidmbajaaGreatP09
import Derived.Test.YtlahaamidmbajaaGreatP10
import Derived.Test.YtlahaamidmbajaaGreatT22g
import Derived.Test.YtlahaamidmbajaaGreatT22h
import Derived.Test.YtlahaamidmbajaaGreatU22L
import Derived.KernelRfl
set_option linter.unusedVariables false
set_option linter.unusedSimpArgs false
set_option maxRecDepth 100000
namespace Go.AI
open Go Go.Proofs

theorem lists_z (a c : List (List PV)) : cW f_celluloidref08_SameLists [.l a, .l [], .l c, .l []] [] = some ([.b (a.isEmpty && c.isEmpty)], []) := by
  rw [w_celluloidref08_SameLists]
  cases a with
  | cons x a => simp only [List.length_cons, List.length_nil, List.isEmpty_cons, Bool.false_and, bne, show ((((a.length + 1 : Nat) : Int)) == ((0 : Nat) : Int)) = false by rw [beq_eq_false_iff_ne]; omega, Option.bind_some, Option.bind_none, andB, orB, orB2, List.getD_cons_zero, List.getD_cons_succ, toB_b, toI_i, toS_s, toL_l, cond_true, cond_false, List.length_map]; rfl
  | nil =>
    cases c with
    | cons x c => simp only [List.length_cons, List.length_nil, List.isEmpty_cons, List.isEmpty_nil, Bool.true_and, bne, show ((((c.length + 1 : Nat) : Int)) == ((0 : Nat) : Int)) = false by rw [beq_eq_false_iff_ne]; omega, show ((((0 : Nat) : Int)) == ((0 : Nat) : Int)) = true from rfl, Option.bind_some, Option.bind_none, andB, orB, orB2, List.getD_cons_zero, List.getD_cons_succ, toB_b, toI_i, toS_s, toL_l, cond_true, cond_false, List.length_map]; rfl
    | nil =>
      simp only [List.length_nil, bne, show ((((0 : Nat) : Int)) == ((0 : Nat) : Int)) = true from rfl, Option.bind_some, Option.bind_none, andB, orB, orB2, List.getD_cons_zero, List.getD_cons_succ, toB_b, toI_i, toS_s, toL_l, cond_true, cond_false, List.length_map]
      rw [w_celluloidref08_SameLists_L0]
      simp only [List.length_nil, show decide ((0 : Int) < ((0 : Nat) : Int)) = false from rfl, Option.bind_some, Option.bind_none, andB, orB, orB2, List.getD_cons_zero, List.getD_cons_succ, toB_b, toI_i, toS_s, toL_l, cond_true, cond_false, List.length_map]
      rw [w_celluloidref08_SameLists_L2]
      simp only [List.length_nil, show decide ((0 : Int) < ((0 : Nat) : Int)) = false from rfl, Option.bind_some, Option.bind_none, andB, orB, orB2, List.getD_cons_zero, List.getD_cons_succ, toB_b, toI_i, toS_s, toL_l, cond_true, cond_false, List.length_map]
      rfl
theorem recs_z (a : List (List PV)) : cW f_celluloidref09_Same [.l a, .l []] [] = some ([.b a.isEmpty], []) := by
  rw [w_celluloidref09_Same]
  cases a with
  | cons x a => simp only [List.length_cons, List.length_nil, List.isEmpty_cons, bne, show ((((a.length + 1 : Nat) : Int)) == ((0 : Nat) : Int)) = false by rw [beq_eq_false_iff_ne]; omega, Option.bind_some, Option.bind_none, andB, orB, orB2, List.getD_cons_zero, List.getD_cons_succ, toB_b, toI_i, toS_s, toL_l, cond_true, cond_false, List.length_map]; rfl
  | nil =>
    simp only [List.length_nil, bne, show ((((0 : Nat) : Int)) == ((0 : Nat) : Int)) = true from rfl, Option.bind_some, Option.bind_none, andB, orB, orB2, List.getD_cons_zero, List.getD_cons_succ, toB_b, toI_i, toS_s, toL_l, cond_true, cond_false, List.length_map]
    rw [w_celluloidref09_Same_L0]
    simp only [List.length_nil, show decide ((0 : Int) < ((0 : Nat) : Int)) = false from rfl, Option.bind_some, Option.bind_none, andB, orB, orB2, List.getD_cons_zero, List.getD_cons_succ, toB_b, toI_i, toS_s, toL_l, cond_true, cond_false, List.length_map]
    rfl
/-- an answer that is one of the two -/
def Tot (o : Option Res) : Prop := ∃ b, o = some ([.b b], [])
theorem shape_z (i l r t b : Int) (f s c : List (List PV)) : Tot (cW f_celluloidref09_Equal [.i i, .i l, .i r, .i t, .i b, .l f, .l s, .l c, .i 0, .i 0, .i 0, .i 0, .i 0, .l [], .l [], .l []] []) := by
  rw [w_celluloidref09_Equal]
  simp only [lists_z, recs_z]
  cases (i == 0) <;> cases ((l == 0) && ((r == 0) && ((t == 0) && (b == 0)))) <;> cases (f.isEmpty && s.isEmpty) <;> exact ⟨_, rfl⟩
theorem morph_z (i a1 a2 a3 a4 b1 b2 b3 b4 : Int) (f g s t c d : List (List PV)) : Tot (cW f_celluloidref10_Equal [.i i, .i a1, .i a2, .i a3, .i a4, .i b1, .i b2, .i b3, .i b4, .l f, .l g, .l s, .l t, .l c, .l d, .i 0, .i 0, .i 0, .i 0, .i 0, .i 0, .i 0, .i 0, .i 0, .l [], .l [], .l [], .l [], .l [], .l []] []) := by
  rw [w_celluloidref10_Equal]
  simp only [lists_z, recs_z]
  cases (i == 0) <;> cases ((a1 == 0) && ((a2 == 0) && ((a3 == 0) && (a4 == 0)))) <;> cases ((b1 == 0) && ((b2 == 0) && ((b3 == 0) && (b4 == 0)))) <;> cases (f.isEmpty && s.isEmpty) <;> cases (g.isEmpty && t.isEmpty) <;> cases c.isEmpty <;> exact ⟨_, rfl⟩
theorem bitmap_z (i w h : Int) (p : List (List PV)) : Tot (cW f_celluloidref11_Equal [.i i, .i w, .i h, .l p, .i 0, .i 0, .i 0, .l []] []) := by
  rw [w_celluloidref11_Equal]
  cases (i != 0)
  · cases (w != 0)
    · cases (h != 0)
      · cases p with
        | cons x p => simp only [List.length_cons, List.length_nil, bne, show ((((p.length + 1 : Nat) : Int)) == ((0 : Nat) : Int)) = false by rw [beq_eq_false_iff_ne]; omega]; exact ⟨_, rfl⟩
        | nil =>
          simp only [List.length_nil, bne, show ((((0 : Nat) : Int)) == ((0 : Nat) : Int)) = true from rfl, Option.bind_some, Option.bind_none, andB, orB, orB2, List.getD_cons_zero, List.getD_cons_succ, toB_b, toI_i, toS_s, toL_l, cond_true, cond_false, List.length_map]
          rw [w_celluloidref11_Equal_L0]
          exact ⟨_, rfl⟩
      · exact ⟨_, rfl⟩
    · exact ⟨_, rfl⟩
  · exact ⟨_, rfl⟩
end Go.AI
set_option linter.unusedVariables false
set_option linter.unusedSimpArgs false
set_option maxRecDepth 100000
namespace Go.AI
open Go Go.Proofs

theorem tot_bif {c : Bool} {x y : Option Res} (hx : Tot x) (hy : Tot y) : Tot (bif c then x else y) := by cases c; exact hy; exact hx
theorem tot_bind_bif {α : Type} {c : Bool} {x y : Option α} {f : α → Option Res} (hx : Tot (x.bind f)) (hy : Tot (y.bind f)) : Tot ((bif c then x else y).bind f) := by cases c; exact hy; exact hx
theorem tot_some {α : Type} {a : α} {f : α → Option Res} (h : Tot (f a)) : Tot ((some a).bind f) := h
theorem tot_assoc {α β : Type} {x : Option α} {g : α → Option β} {f : β → Option Res} (h : Tot (x.bind fun a => (g a).bind f)) : Tot ((x.bind g).bind f) := by rw [Option.bind_assoc]; exact h
theorem in13_c (n a b : Int) : cW f_celluloidref13_in [.i n, .i a, .i b] [] = some ([.b (inB2 a b n)], []) := by
  rw [w_celluloidref13_in]
  unfold inB2
  by_cases h : a ≤ n
  · rw [decide_eq_true (p := n ≥ a) h]; rfl
  · rw [decide_eq_false (p := n ≥ a) h]; rfl
def tl (f k : Int) : Bool := (Int.tmod (IntKind.wrap .i64 (Int.tdiv f k)) (2 : Int)) == (1 : Int)
theorem tells_c (p : Nat → Int) {k : Int} (h : k ≠ 0) : cW f_celluloidref13_Tells (itE p ++ [.i k]) [] = some ([.b (tl (p 0) k)], []) := by
  unfold itE
  simp only [List.cons_append, List.nil_append]
  rw [w_celluloidref13_Tells, show (k != 0) = true by rw [bne_iff_ne]; exact h, cond_true]
  rfl
theorem tells_2 (p : Nat → Int) : cW f_celluloidref13_Tells [.i (p 0), .i (p 1), .i (p 2), .i (p 3), .i (p 4), .i (p 5), .i (p 6), .i (p 7), .i (p 8), .i (p 9), .i (p 10), .i (p 11), .i (p 12), .i (p 13), .i (p 14), .i (p 15), .i (p 16), .i (p 17), .i (p 18), .i 2] [] = some ([.b (tl (p 0) 2)], []) := tells_c p (by decide)
theorem tells_4 (p : Nat → Int) : cW f_celluloidref13_Tells [.i (p 0), .i (p 1), .i (p 2), .i (p 3), .i (p 4), .i (p 5), .i (p 6), .i (p 7), .i (p 8), .i (p 9), .i (p 10), .i (p 11), .i (p 12), .i (p 13), .i (p 14), .i (p 15), .i (p 16), .i (p 17), .i (p 18), .i 4] [] = some ([.b (tl (p 0) 4)], []) := tells_c p (by decide)
theorem tells_8 (p : Nat → Int) : cW f_celluloidref13_Tells [.i (p 0), .i (p 1), .i (p 2), .i (p 3), .i (p 4), .i (p 5), .i (p 6), .i (p 7), .i (p 8), .i (p 9), .i (p 10), .i (p 11), .i (p 12), .i (p 13), .i (p 14), .i (p 15), .i (p 16), .i (p 17), .i (p 18), .i 8] [] = some ([.b (tl (p 0) 8)], []) := tells_c p (by decide)
theorem tells_16 (p : Nat → Int) : cW f_celluloidref13_Tells [.i (p 0), .i (p 1), .i (p 2), .i (p 3), .i (p 4), .i (p 5), .i (p 6), .i (p 7), .i (p 8), .i (p 9), .i (p 10), .i (p 11), .i (p 12), .i (p 13), .i (p 14), .i (p 15), .i (p 16), .i (p 17), .i (p 18), .i 16] [] = some ([.b (tl (p 0) 16)], []) := tells_c p (by decide)
theorem tells_64 (p : Nat → Int) : cW f_celluloidref13_Tells [.i (p 0), .i (p 1), .i (p 2), .i (p 3), .i (p 4), .i (p 5), .i (p 6), .i (p 7), .i (p 8), .i (p 9), .i (p 10), .i (p 11), .i (p 12), .i (p 13), .i (p 14), .i (p 15), .i (p 16), .i (p 17), .i (p 18), .i 64] [] = some ([.b (tl (p 0) 64)], []) := tells_c p (by decide)
theorem qCx_p (p : Nat → Int) : cW f_celluloidref07_Cx [.i (p 9), .i (p 10), .i (p 11), .i (p 12), .i (p 13), .i (p 14), .i (p 15), .i (p 16)] [] = some ([.b (cxB (I4.l (p 9, p 10, p 11, p 12)) (I4.l (p 13, p 14, p 15, p 16)))], []) := (qCx_ans (p 9, p 10, p 11, p 12) (p 13, p 14, p 15, p 16)).c
theorem place_tot (p : Nat → Int) : Tot (cW f_celluloidref13_place (itE p) []) := by
  unfold itE
  rw [w_celluloidref13_place]
  simp only [in13_c, tells_2, tells_4, tells_8, tells_16, tells_64, qMatrix_c, qCx_p]
  repeat' first
    | exact ⟨_, rfl⟩
    | apply tot_bif
    | apply tot_bind_bif
    | apply tot_some
    | apply tot_assoc
theorem place_no (p : Nat → Int) (h : inB2 1 255 (p 1) = false ∨ inB2 0 127 (p 0) = false) : cW f_celluloidref13_place (itE p) [] = some ([.b false], []) := by
  unfold itE
  rw [w_celluloidref13_place]
  simp only [in13_c]
  rcases h with h | h
  · rw [h]
    cases inB2 0 127 (p 0)
    · rfl
    · cases ((Int.tmod (IntKind.wrap .i64 (Int.tdiv (p 0) (32 : Int))) (2 : Int)) == (1 : Int))
      · cases ((Int.tmod (p 0) (4 : Int)) == (0 : Int)) <;> rfl
      · rfl
  · rw [h]
    rfl
end Go.AI
set_option linter.unusedVariables false
set_option linter.unusedSimpArgs false
set_option maxRecDepth 100000
namespace Go.AI
open Go Go.Proofs

theorem qFill_loopM (f : Fill) (hl : f.stops.length ≤ 9223372036854775807) : ∀ (rest pre : List Stop) (last : Int), f.stops = pre ++ rest → 0 ≤ last → (pre = [] → last = 0) → (∀ p x, pre = p ++ [x] → last = x.ratio) →
    rW f_celluloidref08_Fill [] at_celluloidref08_Fill_L1 (S_celluloidref08_Fill_L1 pre.length f.kind f.color.1 f.color.2.1 f.color.2.2.1 f.color.2.2.2 f.mat.1 f.mat.2.1 f.mat.2.2.1 f.mat.2.2.2.1 f.mat.2.2.2.2.1 f.mat.2.2.2.2.2 f.spread (f.stops.map Stop.e) f.id) = some ([.b (stopsB last rest && (decide (f.color = (0, 0, 0, 0)) && ((f.id == 0) && gradB f)))], [])
  | [], pre, last, h, h0, hn, hp => by
    rw [w_celluloidref08_Fill_L1]
    simp only [el_end h, qMatrix_c, Option.bind_some, Option.bind_none, andB, orB, orB2, List.getD_cons_zero, List.getD_cons_succ, toB_b, toI_i, toS_s, toL_l, cond_true, cond_false, List.length_map]
    rw [i4_eq f.color (0, 0, 0, 0)]
    unfold stopsB gradB mB
    rw [show decide (((f.stops.length : Nat) : Int) > 0) = decide (((f.stops.length : Nat) : Int) ≥ 1) by simp; omega, show decide (((f.stops.length : Nat) : Int) < 9) = decide (((f.stops.length : Nat) : Int) ≤ 8) by simp; omega,
      show decide (f.spread < 3) = decide (f.spread ≤ 2) by simp; omega]
    congr 4
    cases decide (f.color = (0, 0, 0, 0)) <;> cases (f.id == 0) <;> cases decide (f.spread ≥ 0) <;> cases decide (f.spread ≤ 2) <;> cases decide (((f.stops.length : Nat) : Int) ≥ 1) <;> cases decide (((f.stops.length : Nat) : Int) ≤ 8) <;> cases matB f.mat.1 f.mat.2.1 f.mat.2.2.1 f.mat.2.2.2.1 f.mat.2.2.2.2.1 f.mat.2.2.2.2.2 <;> rfl
  | x :: rest, pre, last, h, h0, hn, hp => by
    obtain ⟨h1, h2, h3, h4, h5⟩ := el_stepM Stop.e h hl
    have key : ∀ r : Option (List PV), (r = some [PV.b (!stopB x last)]) → (r.bind fun r9 => (bif ((r9.getD 0 PV.u)).toB then some ([(PV.b false)], []) else rW f_celluloidref08_Fill [] at_celluloidref08_Fill_L1 (S_celluloidref08_Fill_L1 (pre ++ [x]).length f.kind f.color.1 f.color.2.1 f.color.2.2.1 f.color.2.2.2 f.mat.1 f.mat.2.1 f.mat.2.2.1 f.mat.2.2.2.1 f.mat.2.2.2.2.1 f.mat.2.2.2.2.2 f.spread (f.stops.map Stop.e) f.id))) = some ([.b (stopsB last (x :: rest) && (decide (f.color = (0, 0, 0, 0)) && ((f.id == 0) && gradB f)))], []) := by
      rintro r rfl
      unfold stopsB
      rw [Option.bind_some]
      cases hs : stopB x last with
      | false => rfl
      | true =>
        have h0' : 0 ≤ x.ratio := by
          unfold stopB at hs
          simp only [Bool.and_eq_true, decide_eq_true_eq] at hs
          omega
        rw [Bool.true_and]
        exact qFill_loopM f hl rest _ _ h5 h0' (fun e => by simp at e) (fun p y e => by have := List.append_inj_right' e rfl; simp at this; rw [this])
    rw [w_celluloidref08_Fill_L1]
    simp only [h1, h2, h3, h4, Stop.e, qRGBA_c, Option.bind_some, Option.bind_none, andB, orB, orB2, List.getD_cons_zero, List.getD_cons_succ, toB_b, toI_i, toS_s, toL_l, cond_true, cond_false, List.length_map]
    refine key _ ?_
    unfold stopB
    rcases List.eq_nil_or_concat pre with rfl | ⟨p, y, rfl⟩
    · obtain rfl := hn rfl
      rw [show decide (((([] : List Stop).length : Nat) : Int) > 0) = false by simp]
      simp only [cond_false]
      by_cases a1 : x.ratio < 0
      · rw [decide_eq_true a1, decide_eq_false (p := x.ratio ≥ 0) (by omega)]; rfl
      · rw [decide_eq_false a1, decide_eq_true (p := x.ratio ≥ 0) (by omega)]
        by_cases a2 : x.ratio > 255
        · rw [decide_eq_true a2, decide_eq_false (p := x.ratio ≤ 255) (by omega)]; rfl
        · rw [decide_eq_false a2, decide_eq_true (p := x.ratio ≤ 255) (by omega)]; rfl
    · obtain rfl := hp p y (by simp)
      rw [List.concat_eq_append] at *
      have hw : IntKind.wrap .i64 ((((p ++ [y]).length : Nat) : Int) - 1) = ((p.length : Nat) : Int) := by
        rw [h] at hl
        simp only [List.length_append, List.length_cons, List.length_nil] at hl ⊢
        have : (2 : Nat) ^ 40 = 1099511627776 := rfl
        rw [wrap64 (by omega) (by omega)]; omega
      have h' : f.stops = p ++ y :: (x :: rest) := by rw [h]; simp
      obtain ⟨_, k2, k3, _, _⟩ := el_stepM Stop.e h' hl
      rw [hw, k2, k3, show decide ((((p ++ [y]).length : Nat) : Int) > 0) = true by simp]
      simp only [cond_true, Stop.e, Option.bind_some, Option.bind_none, andB, orB, orB2, List.getD_cons_zero, List.getD_cons_succ, toB_b, toI_i, toS_s, toL_l, cond_true, cond_false, List.length_map]
      by_cases a1 : x.ratio < 0
      · rw [decide_eq_true a1, decide_eq_false (p := x.ratio ≥ y.ratio) (by omega)]; rfl
      · rw [decide_eq_false a1]
        by_cases a2 : x.ratio > 255
        · rw [decide_eq_true a2, decide_eq_false (p := x.ratio ≤ 255) (by omega)]
          cases decide (x.ratio ≥ y.ratio) <;> rfl
        · rw [decide_eq_false a2, decide_eq_true (p := x.ratio ≤ 255) (by omega)]
          by_cases a3 : x.ratio < y.ratio
          · rw [decide_eq_true a3, decide_eq_false (p := x.ratio ≥ y.ratio) (by omega)]; rfl
          · rw [decide_eq_false a3, decide_eq_true (p := x.ratio ≥ y.ratio) (by omega)]; rfl
theorem qFill_cM (f : Fill) (hl : f.stops.length ≤ 9223372036854775807) : cW f_celluloidref08_Fill f.e [] = some ([.b (fillB f)], []) := by
  have el := qFill_loopM f hl f.stops [] 0 rfl (by omega) (fun _ => rfl) (fun p x e => by simp at e)
  simp only [Fill.e, List.cons_append, List.nil_append, List.map_nil] at ⊢
  rw [w_celluloidref08_Fill]
  simp only [qRGBA_c, qMatrix_c, Option.bind_some, Option.bind_none, andB, orB, orB2, List.getD_cons_zero, List.getD_cons_succ, toB_b, toI_i, toS_s, toL_l, cond_true, cond_false, List.length_map]
  rw [mat_eq f.mat (0, 0, 0, 0, 0, 0), i4_eq f.color (0, 0, 0, 0), no_stops]
  unfold fillB
  rw [dec_fill, dec_fill, dec_fill, beq_self_eq_true, decide_eq_true (p := f.color = f.color) rfl, decide_eq_true (p := f.mat = f.mat) rfl, beq_self_eq_true, beq_self_eq_true, decide_eq_true (p := f.stops = f.stops) rfl]
  unfold kindS kindP kindG
  by_cases k0 : f.kind = 0
  · rw [k0]
    simp only [show ((0 : Int) == 0) = true from rfl, cond_true, Bool.true_and]
    cases rgbaB f.color <;> cases decide (f.mat = (0, 0, 0, 0, 0, 0)) <;> cases (f.spread == 0) <;> cases (f.id == 0) <;> cases decide (f.stops = []) <;> rfl
  rw [show (f.kind == 0) = false by simpa using k0]
  simp only [cond_false, Bool.true_and, Bool.and_true]
  by_cases k1 : f.kind = 64
  · rw [k1]
    simp only [show ((64 : Int) == 64) = true from rfl, cond_true, Bool.true_or]
    show some ([PV.b (_ && (_ && (_ && (_ && (_ && mB f.mat)))))], []) = _
    cases decide (f.color = (0, 0, 0, 0)) <;> cases (f.spread == 0) <;> cases decide (f.id ≥ 0) <;> cases decide (f.id < 65536) <;> cases decide (f.stops = []) <;> cases mB f.mat <;> rfl
  rw [show (f.kind == 64) = false by simpa using k1]
  by_cases k2 : f.kind = 65
  · rw [k2]
    simp only [show ((65 : Int) == 65) = true from rfl, cond_true, cond_false, Bool.false_or]
    show some ([PV.b (_ && (_ && (_ && (_ && (_ && mB f.mat)))))], []) = _
    cases decide (f.color = (0, 0, 0, 0)) <;> cases (f.spread == 0) <;> cases decide (f.id ≥ 0) <;> cases decide (f.id < 65536) <;> cases decide (f.stops = []) <;> cases mB f.mat <;> rfl
  rw [show (f.kind == 65) = false by simpa using k2]
  simp only [cond_false, Bool.false_or]
  have fin : ∀ c d e : Bool, (c && (d && (e && gradB f))) = (bif (d && e) then c && gradB f else false) := by intro c d e; cases c <;> cases d <;> cases e <;> rfl
  by_cases k3 : f.kind = 16
  · rw [k3] at el ⊢
    simp only [show ((16 : Int) == 16) = true from rfl, cond_true, Bool.true_or, Bool.true_and]
    rw [← fin]; exact el
  rw [show (f.kind == 16) = false by simpa using k3]
  by_cases k4 : f.kind = 18
  · rw [k4] at el ⊢
    simp only [show ((18 : Int) == 18) = true from rfl, cond_true, cond_false, Bool.false_or, Bool.true_and]
    rw [← fin]; exact el
  rw [show (f.kind == 18) = false by simpa using k4]
  rfl
def ShortsM (l : List Fill) : Prop := ∀ f, f ∈ l → f.stops.length ≤ 9223372036854775807
theorem qRight_loop2M {l : List Fill} {m : List Strk} (hm : m.length ≤ 9223372036854775807) : ∀ (rest pre : List Strk), m = pre ++ rest →
    rW f_celluloidref08_Right [] at_celluloidref08_Right_L2 (S_celluloidref08_Right_L2 (l.map Fill.e) (m.map Strk.e) pre.length) = some ([.b (decide (((l.length : Nat) : Int) ≤ 15) && (decide (((m.length : Nat) : Int) ≤ 15) && rest.all strkB))], [])
  | [], pre, h => by
    rw [w_celluloidref08_Right_L2]
    simp only [el_end h, Option.bind_some, Option.bind_none, andB, orB, orB2, List.getD_cons_zero, List.getD_cons_succ, toB_b, toI_i, toS_s, toL_l, cond_true, cond_false, List.length_map]
    rw [show decide (((l.length : Nat) : Int) < 16) = decide (((l.length : Nat) : Int) ≤ 15) by simp; omega, show decide (((m.length : Nat) : Int) < 16) = decide (((m.length : Nat) : Int) ≤ 15) by simp; omega]
    simp
  | x :: rest, pre, h => by
    obtain ⟨h1, h2, h3, h4, h5⟩ := el_stepM Strk.e h hm
    have hx := qStroke_c x
    rw [w_celluloidref08_Right_L2]
    unfold Strk.e at hx
    simp only [h1, h2, h3, h4, Strk.e, hx, List.all_cons, Option.bind_some, Option.bind_none, andB, orB, orB2, List.getD_cons_zero, List.getD_cons_succ, toB_b, toI_i, toS_s, toL_l, cond_true, cond_false, List.length_map]
    cases hf : strkB x with
    | false => simp
    | true => simpa [hf] using qRight_loop2M (l := l) hm rest _ h5
theorem qRight_loopM {l : List Fill} {m : List Strk} (hl : l.length ≤ 9223372036854775807) (hm : m.length ≤ 9223372036854775807) (hs : ShortsM l) : ∀ (rest pre : List Fill), l = pre ++ rest →
    rW f_celluloidref08_Right [] at_celluloidref08_Right_L0 (S_celluloidref08_Right_L0 (l.map Fill.e) (m.map Strk.e) pre.length) = some ([.b (decide (((l.length : Nat) : Int) ≤ 15) && (decide (((m.length : Nat) : Int) ≤ 15) && (rest.all fillB && m.all strkB)))], [])
  | [], pre, h => by
    rw [w_celluloidref08_Right_L0]; simp only [el_end h, Option.bind_some, Option.bind_none, andB, orB, orB2, List.getD_cons_zero, List.getD_cons_succ, toB_b, toI_i, toS_s, toL_l, cond_true, cond_false, List.length_map]
    exact qRight_loop2M (l := l) hm m [] rfl
  | x :: rest, pre, h => by
    obtain ⟨h1, h2, h3, h4, h5⟩ := el_stepM Fill.e h hl
    have hx := qFill_cM x (hs x (by rw [h]; simp))
    rw [w_celluloidref08_Right_L0]
    unfold Fill.e at hx
    simp only [h1, h2, h3, h4, Fill.e, hx, List.all_cons, Option.bind_some, Option.bind_none, andB, orB, orB2, List.getD_cons_zero, List.getD_cons_succ, toB_b, toI_i, toS_s, toL_l, cond_true, cond_false, List.length_map]
    cases hf : fillB x with
    | false => simp
    | true => simpa [hf] using qRight_loopM hl hm hs rest _ h5
theorem qRight_cM {l : List Fill} {m : List Strk} (hl : l.length ≤ 9223372036854775807) (hm : m.length ≤ 9223372036854775807) (hs : ShortsM l) : cW f_celluloidref08_Right [.l (l.map Fill.e), .l (m.map Strk.e)] [] = some ([.b (listsB l m)], []) := by
  rw [w_celluloidref08_Right]
  exact qRight_loopM hl hm hs l [] rfl

abbrev T9 := Int × I4 × List Fill × List Strk × List Rec
def e9 (t : T9) : List PV := [.i t.1, .i t.2.1.1, .i t.2.1.2.1, .i t.2.1.2.2.1, .i t.2.1.2.2.2, .l (t.2.2.1.map Fill.e), .l (t.2.2.2.1.map Strk.e), .l (t.2.2.2.2.map Rec.e)]
def sh9 (t : T9) : Prop := t.2.2.1.length ≤ 9223372036854775807 ∧ ShortsM t.2.2.1 ∧ t.2.2.2.1.length ≤ 9223372036854775807 ∧ t.2.2.2.2.length ≤ 2 ^ 40 ∧ Shs t.2.2.2.2
def frB (t : T9) : Bool := rectB t.2.1.1 t.2.1.2.1 t.2.1.2.2.1 t.2.1.2.2.2
def right9 (t : T9) : Bool := inB2 0 65535 t.1 && (frB t && (listsB t.2.2.1 t.2.2.2.1 && rightRecs (t.2.2.1.length : Nat) (t.2.2.2.1.length : Nat) t.2.2.2.2 0))
theorem qRight9_c (t : T9) (h : sh9 t) : cW f_celluloidref09_Right (e9 t) [] = some ([.b (right9 t)], []) := by
  obtain ⟨a1, a2, a3, a4, a5⟩ := h
  unfold e9
  rw [w_celluloidref09_Right]
  simp only [in_c, (qRect_ans _ _ _ _).c, qRight_cM a1 a3 a2, qRecords_c a4 a5, Option.bind_some, Option.bind_none, andB, orB, orB2, List.getD_cons_zero, List.getD_cons_succ, toB_b, toI_i, toS_s, toL_l, cond_true, cond_false, List.length_map]
  unfold right9 frB
  rfl
/-- a tag but for its sprite's tags -/
structure Hd where
  kind : Int
  dep : Int
  col : I4
  pl : Nat → Int
  sh : T9
  mo : Mor
  bid : Int
  bw : Int
  bh : Int
  px : List (List PV)
  sid : Int
  sfr : Int
def Hd.e (h : Hd) (subs : List (List PV)) : List PV := [.i h.kind, .i h.dep, .i h.col.1, .i h.col.2.1, .i h.col.2.2.1, .i h.col.2.2.2] ++ (itE h.pl ++ (e9 h.sh ++ (h.mo.e ++ [.i h.bid, .i h.bw, .i h.bh, .l h.px, .i h.sid, .i h.sfr, .l subs])))
theorem nothing_tot (h : Hd) (subs : List (List PV)) (k : Int) : Tot (cW f_celluloidref13_nothing (h.e subs ++ [.i k]) []) := by
  unfold Hd.e itE e9 Mor.e
  simp only [List.cons_append, List.nil_append]
  rw [w_celluloidref13_nothing]
  obtain ⟨b1, e1⟩ := shape_z h.sh.1 h.sh.2.1.1 h.sh.2.1.2.1 h.sh.2.1.2.2.1 h.sh.2.1.2.2.2 (h.sh.2.2.1.map Fill.e) (h.sh.2.2.2.1.map Strk.e) (h.sh.2.2.2.2.map Rec.e)
  obtain ⟨b2, e2⟩ := morph_z h.mo.id h.mo.fr.1 h.mo.fr.2.1 h.mo.fr.2.2.1 h.mo.fr.2.2.2 h.mo.to.1 h.mo.to.2.1 h.mo.to.2.2.1 h.mo.to.2.2.2 (h.mo.fills.map Fill.e) (h.mo.tofl.map Fill.e) (h.mo.strks.map Strk.e) (h.mo.tost.map Strk.e) (h.mo.recs.map Rec.e) (h.mo.targ.map Rec.e)
  obtain ⟨b3, e3⟩ := bitmap_z h.bid h.bw h.bh h.px
  simp only [e1, e2, e3]
  repeat' first
    | exact ⟨_, rfl⟩
    | apply tot_bif
    | apply tot_bind_bif
    | apply tot_some
    | apply tot_assoc
theorem right11_loop (l : List (List PV)) (hl : l.length ≤ 9223372036854775807) (a b c : Int) : ∀ (rest pre : List (List PV)), l = pre ++ rest → Tot (rW f_celluloidref11_Right [] at_celluloidref11_Right_L0 (S_celluloidref11_Right_L0 pre.length a b c l))
  | [], pre, h => by
    rw [w_celluloidref11_Right_L0]
    subst h
    rw [List.append_nil, decide_eq_false (by omega), cond_false]
    exact ⟨_, rfl⟩
  | x :: rest, pre, h => by
    rw [w_celluloidref11_Right_L0]
    obtain ⟨h1, h2, _, h3, h4⟩ := el_stepM (id : List PV → List PV) h hl
    have ih := right11_loop l hl a b c rest (pre ++ [x]) h4
    simp only [h1, h2, h3, cond_true]
    repeat' first
      | exact ⟨_, rfl⟩
      | exact ih
      | apply tot_bif
      | apply tot_bind_bif
      | apply tot_some
      | apply tot_assoc
theorem right11_tot (a b c : Int) (l : List (List PV)) (hl : l.length ≤ 9223372036854775807) : Tot (cW f_celluloidref11_Right [.i a, .i b, .i c, .l l] []) := by
  rw [w_celluloidref11_Right]
  have ih := right11_loop l hl a b c l [] rfl
  repeat' first
    | exact ⟨_, rfl⟩
    | exact ih
    | apply tot_bif
    | apply tot_bind_bif
    | apply tot_some
    | apply tot_assoc
/-- what is said of a right tag -/
def DepOk (h : Hd) : Prop := (h.kind = 26 → (1 ≤ h.pl 1 ∧ h.pl 1 ≤ 255) ∧ (0 ≤ h.pl 0 ∧ h.pl 0 ≤ 127)) ∧ (h.kind = 28 → 1 ≤ h.dep ∧ h.dep ≤ 255)
def TotD (h : Hd) (o : Option Res) : Prop := ∃ b, o = some ([.b b], []) ∧ (b = true → DepOk h)
theorem totD_no (h : Hd) : TotD h (some ([.b false], [])) := ⟨false, rfl, fun h => by cases h⟩
theorem totD_of {h : Hd} {o : Option Res} (hd : DepOk h) (ho : Tot o) : TotD h o := by
  obtain ⟨b, hb⟩ := ho
  exact ⟨b, hb, fun _ => hd⟩
structure Hd.okC (h : Hd) : Prop where
  sh : sh9 h.sh
  mo : h.mo.sh
  px : h.px.length ≤ 9223372036854775807
/-- of a step nothing is asked -/
def Hd.ok (h : Hd) : Prop := h.kind ≠ 1 → h.kind ≠ 26 → h.kind ≠ 28 → h.okC
/-- the last part: what a tag's kind asks -/
theorem right_end (h : Hd) (w : h.ok) (subs : List (List PV)) (hsub : Tot (rW f_celluloidref13_Right [] at_celluloidref13_Right_L3 (S_celluloidref13_Right_L3 0 h.kind h.dep h.col.1 h.col.2.1 h.col.2.2.1 h.col.2.2.2 (h.pl 0) (h.pl 1) (h.pl 2) (h.pl 3) (h.pl 4) (h.pl 5) (h.pl 6) (h.pl 7) (h.pl 8) (h.pl 9) (h.pl 10) (h.pl 11) (h.pl 12) (h.pl 13) (h.pl 14) (h.pl 15) (h.pl 16) (h.pl 17) (h.pl 18)
      h.sh.1 h.sh.2.1.1 h.sh.2.1.2.1 h.sh.2.1.2.2.1 h.sh.2.1.2.2.2 (h.sh.2.2.1.map Fill.e) (h.sh.2.2.2.1.map Strk.e) (h.sh.2.2.2.2.map Rec.e) h.mo.id h.mo.fr.1 h.mo.fr.2.1 h.mo.fr.2.2.1 h.mo.fr.2.2.2 h.mo.to.1 h.mo.to.2.1 h.mo.to.2.2.1 h.mo.to.2.2.2 (h.mo.fills.map Fill.e) (h.mo.tofl.map Fill.e) (h.mo.strks.map Strk.e) (h.mo.tost.map Strk.e) (h.mo.recs.map Rec.e) (h.mo.targ.map Rec.e) h.bid h.bw h.bh h.px h.sid h.sfr subs))) :
    ∀ (rest pre : List Int), [28, 9, 26, 32, 46, 36, 39] = pre ++ rest → TotD h (rW f_celluloidref13_Right [] at_celluloidref13_Right_L0 (S_celluloidref13_Right_L0 ([28, 9, 26, 32, 46, 36, 39].map intE) 7 pre.length h.kind h.dep h.col.1 h.col.2.1 h.col.2.2.1 h.col.2.2.2 (h.pl 0) (h.pl 1) (h.pl 2) (h.pl 3) (h.pl 4) (h.pl 5) (h.pl 6) (h.pl 7) (h.pl 8) (h.pl 9) (h.pl 10) (h.pl 11) (h.pl 12) (h.pl 13) (h.pl 14) (h.pl 15) (h.pl 16) (h.pl 17) (h.pl 18)
      h.sh.1 h.sh.2.1.1 h.sh.2.1.2.1 h.sh.2.1.2.2.1 h.sh.2.1.2.2.2 (h.sh.2.2.1.map Fill.e) (h.sh.2.2.2.1.map Strk.e) (h.sh.2.2.2.2.map Rec.e) h.mo.id h.mo.fr.1 h.mo.fr.2.1 h.mo.fr.2.2.1 h.mo.fr.2.2.2 h.mo.to.1 h.mo.to.2.1 h.mo.to.2.2.1 h.mo.to.2.2.2 (h.mo.fills.map Fill.e) (h.mo.tofl.map Fill.e) (h.mo.strks.map Strk.e) (h.mo.tost.map Strk.e) (h.mo.recs.map Rec.e) (h.mo.targ.map Rec.e) h.bid h.bw h.bh h.px h.sid h.sfr subs))
  | [], pre, he => by
    rw [w_celluloidref13_Right_L0]
    have hl : pre.length = 7 := by have := congrArg List.length he; simpa using this.symm
    rw [hl]
    simp only [show decide (((7 : Nat) : Int) < 7) = false from rfl, cond_false]
    by_cases k1 : h.kind = 1
    · rw [show (h.kind == 1) = true by rw [beq_iff_eq]; exact k1, cond_true]
      exact totD_of ⟨fun e => by omega, fun e => by omega⟩ ⟨_, rfl⟩
    rw [show (h.kind == 1) = false by rw [beq_eq_false_iff_ne]; exact k1, cond_false]
    by_cases k2 : h.kind = 26
    · rw [show (h.kind == 26) = true by rw [beq_iff_eq]; exact k2, cond_true]
      cases hb : inB2 1 255 (h.pl 1) with
      | false =>
        have := place_no h.pl (.inl hb)
        unfold itE at this
        rw [this]
        exact totD_no h
      | true =>
        cases hc : inB2 0 127 (h.pl 0) with
        | false =>
          have := place_no h.pl (.inr hc)
          unfold itE at this
          rw [this]
          exact totD_no h
        | true =>
          have := place_tot h.pl
          unfold itE at this
          obtain ⟨b, e⟩ := this
          rw [e]
          exact totD_of ⟨fun _ => ⟨inB2_iff.1 hb, inB2_iff.1 hc⟩, fun e => by omega⟩ ⟨_, rfl⟩
    rw [show (h.kind == 26) = false by rw [beq_eq_false_iff_ne]; exact k2, cond_false]
    by_cases k3 : h.kind = 28
    · rw [show (h.kind == 28) = true by rw [beq_iff_eq]; exact k3, cond_true, in13_c]
      cases hb : inB2 1 255 h.dep with
      | false => exact totD_no h
      | true => exact totD_of ⟨fun e => by omega, fun _ => inB2_iff.1 hb⟩ ⟨_, rfl⟩
    rw [show (h.kind == 28) = false by rw [beq_eq_false_iff_ne]; exact k3, cond_false]
    have hd : DepOk h := ⟨fun e => absurd e k2, fun e => absurd e k3⟩
    have w := w k1 k2 k3
    have q9 := qRight9_c h.sh w.sh
    have q10 := qRight10_c h.mo w.mo
    unfold e9 at q9
    unfold Mor.e at q10
    obtain ⟨b11, q11⟩ := right11_tot h.bid h.bw h.bh h.px w.px
    obtain ⟨b3, q3⟩ := hsub
    refine totD_of hd ?_
    simp only [qRGBA_c, q9, q10, q11, q3]
    repeat' first
      | exact ⟨_, rfl⟩
      | apply tot_bif
      | apply tot_bind_bif
      | apply tot_some
      | apply tot_assoc
  | k :: rest, pre, he => by
    have ih := right_end h w subs hsub rest (pre ++ [k]) (by rw [he]; simp)
    obtain ⟨h1, h2, h3, h4, _⟩ := el_stepM intE he (by decide)
    rw [w_celluloidref13_Right_L0]
    have hn := nothing_tot h subs k
    unfold Hd.e itE e9 Mor.e at hn
    simp only [List.cons_append, List.nil_append] at hn
    obtain ⟨b, e⟩ := hn
    have h1 : decide (((pre.length : Nat) : Int) < 7) = true := h1
    simp only [List.length_map, h1, h2, h3, h4, intE, List.getD_cons_zero, toI_i, cond_true, e]
    cases (k != h.kind) with
    | false => exact ih
    | true => cases b with
      | false => exact totD_no h
      | true => exact ih
end Go.AI
set_option linter.unusedVariables false
set_option linter.unusedSimpArgs false
set_option maxRecDepth 100000
namespace Go.AI
open Go Go.Proofs

theorem l3_end (h : Hd) (subs : List (List PV)) (n : Int) (hn : decide (n < ((subs.length : Nat) : Int)) = false) : Tot (rW f_celluloidref13_Right [] at_celluloidref13_Right_L3 (S_celluloidref13_Right_L3 n h.kind h.dep h.col.1 h.col.2.1 h.col.2.2.1 h.col.2.2.2 (h.pl 0) (h.pl 1) (h.pl 2) (h.pl 3) (h.pl 4) (h.pl 5) (h.pl 6) (h.pl 7) (h.pl 8) (h.pl 9) (h.pl 10) (h.pl 11) (h.pl 12) (h.pl 13) (h.pl 14) (h.pl 15) (h.pl 16) (h.pl 17) (h.pl 18) h.sh.1 h.sh.2.1.1 h.sh.2.1.2.1 h.sh.2.1.2.2.1 h.sh.2.1.2.2.2 (h.sh.2.2.1.map Fill.e) (h.sh.2.2.2.1.map Strk.e) (h.sh.2.2.2.2.map Rec.e) h.mo.id h.mo.fr.1 h.mo.fr.2.1 h.mo.fr.2.2.1 h.mo.fr.2.2.2 h.mo.to.1 h.mo.to.2.1 h.mo.to.2.2.1 h.mo.to.2.2.2 (h.mo.fills.map Fill.e) (h.mo.tofl.map Fill.e) (h.mo.strks.map Strk.e) (h.mo.tost.map Strk.e) (h.mo.recs.map Rec.e) (h.mo.targ.map Rec.e) h.bid h.bw h.bh h.px h.sid h.sfr subs)) := by
  rw [w_celluloidref13_Right_L3]
  simp only [hn, cond_false, in13_c]
  repeat' first
    | exact ⟨_, rfl⟩
    | apply tot_bif
    | apply tot_bind_bif
    | apply tot_some
    | apply tot_assoc
theorem right_of (h : Hd) (w : h.ok) (subs : List (List PV)) (hs : Tot (rW f_celluloidref13_Right [] at_celluloidref13_Right_L3 (S_celluloidref13_Right_L3 0 h.kind h.dep h.col.1 h.col.2.1 h.col.2.2.1 h.col.2.2.2 (h.pl 0) (h.pl 1) (h.pl 2) (h.pl 3) (h.pl 4) (h.pl 5) (h.pl 6) (h.pl 7) (h.pl 8) (h.pl 9) (h.pl 10) (h.pl 11) (h.pl 12) (h.pl 13) (h.pl 14) (h.pl 15) (h.pl 16) (h.pl 17) (h.pl 18) h.sh.1 h.sh.2.1.1 h.sh.2.1.2.1 h.sh.2.1.2.2.1 h.sh.2.1.2.2.2 (h.sh.2.2.1.map Fill.e) (h.sh.2.2.2.1.map Strk.e) (h.sh.2.2.2.2.map Rec.e) h.mo.id h.mo.fr.1 h.mo.fr.2.1 h.mo.fr.2.2.1 h.mo.fr.2.2.2 h.mo.to.1 h.mo.to.2.1 h.mo.to.2.2.1 h.mo.to.2.2.2 (h.mo.fills.map Fill.e) (h.mo.tofl.map Fill.e) (h.mo.strks.map Strk.e) (h.mo.tost.map Strk.e) (h.mo.recs.map Rec.e) (h.mo.targ.map Rec.e) h.bid h.bw h.bh h.px h.sid h.sfr subs))) : TotD h (cW f_celluloidref13_Right (h.e subs) []) := by
  have := right_end h w subs hs [28, 9, 26, 32, 46, 36, 39] [] rfl
  unfold Hd.e itE e9 Mor.e
  simp only [List.cons_append, List.nil_append]
  rw [w_celluloidref13_Right]
  exact this
theorem right_tot0 (h : Hd) (w : h.ok) : TotD h (cW f_celluloidref13_Right (h.e []) []) := right_of h w [] (l3_end h [] 0 rfl)
/-- a tag whose sprite has no tags -/
def Hd.s (u : Hd) : List PV := u.e []
set_option maxHeartbeats 400000 in
theorem l3_step (h : Hd) (L : List (List PV)) (n : Int) (x : Hd) (h1 : decide (n < ((L.length : Nat) : Int)) = true) (h2 : inB n L.length = true) (h3 : elemAt L n = x.e []) (ih : Tot (rW f_celluloidref13_Right [] at_celluloidref13_Right_L3 (S_celluloidref13_Right_L3 (IntKind.wrap .i64 (n + (1 : Int))) h.kind h.dep h.col.1 h.col.2.1 h.col.2.2.1 h.col.2.2.2 (h.pl 0) (h.pl 1) (h.pl 2) (h.pl 3) (h.pl 4) (h.pl 5) (h.pl 6) (h.pl 7) (h.pl 8) (h.pl 9) (h.pl 10) (h.pl 11) (h.pl 12) (h.pl 13) (h.pl 14) (h.pl 15) (h.pl 16) (h.pl 17) (h.pl 18) h.sh.1 h.sh.2.1.1 h.sh.2.1.2.1 h.sh.2.1.2.2.1 h.sh.2.1.2.2.2 (h.sh.2.2.1.map Fill.e) (h.sh.2.2.2.1.map Strk.e) (h.sh.2.2.2.2.map Rec.e) h.mo.id h.mo.fr.1 h.mo.fr.2.1 h.mo.fr.2.2.1 h.mo.fr.2.2.2 h.mo.to.1 h.mo.to.2.1 h.mo.to.2.2.1 h.mo.to.2.2.2 (h.mo.fills.map Fill.e) (h.mo.tofl.map Fill.e) (h.mo.strks.map Strk.e) (h.mo.tost.map Strk.e) (h.mo.recs.map Rec.e) (h.mo.targ.map Rec.e) h.bid h.bw h.bh h.px h.sid h.sfr L))) (he : (x.kind = 1 ∨ x.kind = 26 ∨ x.kind = 28) → Tot (cW f_celluloidref13_Right (x.e []) [])) : Tot (rW f_celluloidref13_Right [] at_celluloidref13_Right_L3 (S_celluloidref13_Right_L3 n h.kind h.dep h.col.1 h.col.2.1 h.col.2.2.1 h.col.2.2.2 (h.pl 0) (h.pl 1) (h.pl 2) (h.pl 3) (h.pl 4) (h.pl 5) (h.pl 6) (h.pl 7) (h.pl 8) (h.pl 9) (h.pl 10) (h.pl 11) (h.pl 12) (h.pl 13) (h.pl 14) (h.pl 15) (h.pl 16) (h.pl 17) (h.pl 18) h.sh.1 h.sh.2.1.1 h.sh.2.1.2.1 h.sh.2.1.2.2.1 h.sh.2.1.2.2.2 (h.sh.2.2.1.map Fill.e) (h.sh.2.2.2.1.map Strk.e) (h.sh.2.2.2.2.map Rec.e) h.mo.id h.mo.fr.1 h.mo.fr.2.1 h.mo.fr.2.2.1 h.mo.fr.2.2.2 h.mo.to.1 h.mo.to.2.1 h.mo.to.2.2.1 h.mo.to.2.2.2 (h.mo.fills.map Fill.e) (h.mo.tofl.map Fill.e) (h.mo.strks.map Strk.e) (h.mo.tost.map Strk.e) (h.mo.recs.map Rec.e) (h.mo.targ.map Rec.e) h.bid h.bw h.bh h.px h.sid h.sfr L)) := by
  unfold Hd.e itE e9 Mor.e at he h3
  simp only [List.cons_append, List.nil_append] at he h3
  rw [w_celluloidref13_Right_L3, h1, h2, h3, cond_true, cond_true]
  simp only [List.getD_cons_zero, List.getD_cons_succ, toI_i, toL_l, w_celluloidref13_step]
  by_cases hk : x.kind = 1 ∨ x.kind = 26 ∨ x.kind = 28
  · obtain ⟨b, e⟩ := he hk
    simp only [e]
    cases (x.kind == 1) <;> cases (x.kind == 26) <;> cases (x.kind == 28) <;> cases b <;> simp only [Bool.and_true, Bool.true_and, Bool.and_false, Bool.false_and, Bool.or_true, Bool.true_or, Bool.or_false, Bool.false_or, Bool.not_true, Bool.not_false, Option.bind_some, Option.bind_none, andB, orB, orB2, List.getD_cons_zero, List.getD_cons_succ, toB_b, toI_i, toS_s, toL_l, cond_true, cond_false, List.length_map, Bool.not_true, Bool.not_false] <;> first | with_reducible exact ih | exact ⟨_, rfl⟩
  · have e1 : (x.kind == 1) = false := by rw [beq_eq_false_iff_ne]; exact fun h => hk (.inl h)
    have e2 : (x.kind == 26) = false := by rw [beq_eq_false_iff_ne]; exact fun h => hk (.inr (.inl h))
    have e3 : (x.kind == 28) = false := by rw [beq_eq_false_iff_ne]; exact fun h => hk (.inr (.inr h))
    rw [e1, e2, e3]
    exact ⟨_, rfl⟩
theorem l3_loop (h : Hd) {us : List Hd} (hl : us.length ≤ 9223372036854775807) : ∀ (rest pre : List Hd), us = pre ++ rest → Tot (rW f_celluloidref13_Right [] at_celluloidref13_Right_L3 (S_celluloidref13_Right_L3 pre.length h.kind h.dep h.col.1 h.col.2.1 h.col.2.2.1 h.col.2.2.2 (h.pl 0) (h.pl 1) (h.pl 2) (h.pl 3) (h.pl 4) (h.pl 5) (h.pl 6) (h.pl 7) (h.pl 8) (h.pl 9) (h.pl 10) (h.pl 11) (h.pl 12) (h.pl 13) (h.pl 14) (h.pl 15) (h.pl 16) (h.pl 17) (h.pl 18) h.sh.1 h.sh.2.1.1 h.sh.2.1.2.1 h.sh.2.1.2.2.1 h.sh.2.1.2.2.2 (h.sh.2.2.1.map Fill.e) (h.sh.2.2.2.1.map Strk.e) (h.sh.2.2.2.2.map Rec.e) h.mo.id h.mo.fr.1 h.mo.fr.2.1 h.mo.fr.2.2.1 h.mo.fr.2.2.2 h.mo.to.1 h.mo.to.2.1 h.mo.to.2.2.1 h.mo.to.2.2.2 (h.mo.fills.map Fill.e) (h.mo.tofl.map Fill.e) (h.mo.strks.map Strk.e) (h.mo.tost.map Strk.e) (h.mo.recs.map Rec.e) (h.mo.targ.map Rec.e) h.bid h.bw h.bh h.px h.sid h.sfr (us.map Hd.s)))
  | [], pre, he => l3_end h _ _ (by rw [List.length_map]; exact el_end he)
  | x :: rest, pre, he => by
    obtain ⟨h1, h2, h3, h4, h5⟩ := el_stepM Hd.s he hl
    have ih := l3_loop h hl rest (pre ++ [x]) h5
    rw [← h4] at ih
    exact l3_step h _ _ x (by rw [List.length_map]; exact h1) (by rw [List.length_map]; exact h2) h3 ih (fun hk => by
      obtain ⟨b, e, _⟩ := right_tot0 x (fun k1 k2 k3 => by rcases hk with hk | hk | hk <;> contradiction)
      exact ⟨b, e⟩)
theorem right_tot (h : Hd) (w : h.ok) {us : List Hd} (hl : us.length ≤ 9223372036854775807) : TotD h (cW f_celluloidref13_Right (h.e (us.map Hd.s)) []) := right_of h w _ (l3_loop h hl us [] rfl)
end Go.AI
set_option linter.unusedVariables false
set_option linter.unusedSimpArgs false
set_option maxRecDepth 100000
namespace Go.AI
open Go Go.Proofs

theorem room2 {α : Type} {k c : Nat} (z x : α) (h : (k + 1) * c ≤ 140737488355328) (h2 : k + 1 ≤ 4611686018427387904) : (decide ((k + (List.set [z] 0 x).length) * c ≤ 140737488355328) && decide (k + (List.set [z] 0 x).length ≤ 4611686018427387904)) = true := by
  rw [show (List.set [z] 0 x).length = 1 from rfl, decide_eq_true h, decide_eq_true h2]; rfl
def small10 (m : Mor) : Bool := smallB m.fills m.strks && (smallB m.tofl m.tost && (smallR m.recs && smallR m.targ))
structure Mor.wf (m : Mor) : Prop where
  f : m.fills.length ≤ 9223372036854775807
  tf : m.tofl.length ≤ 9223372036854775807
  r : m.recs.length ≤ 9223372036854775807
  t : m.targ.length ≤ 9223372036854775807
  rr : ∀ r, r ∈ m.recs → r.fills.length ≤ 9223372036854775807
  tt : ∀ r, r ∈ m.targ → r.fills.length ≤ 9223372036854775807
theorem small10_c (m : Mor) (h : m.wf) : cW f_celluloidref10_Small m.e [] = some ([.b (small10 m)], []) := by
  unfold Mor.e
  rw [w_celluloidref10_Small]
  simp only [small_c h.f, small_c h.tf, small9_c h.r h.rr, small9_c h.t h.tt, Option.bind_some, Option.bind_none, andB, orB, orB2, List.getD_cons_zero, List.getD_cons_succ, toB_b, toI_i, toS_s, toL_l, cond_true, cond_false, List.length_map]
  unfold small10
  rfl
theorem mem_shorts {l : List Fill} (h : ∀ f, f ∈ l → f.stops.length ≤ 20) : Shorts l := fun f hf => Nat.le_trans (h f hf) (by decide)
theorem small10_sh {m : Mor} (h : small10 m = true) : m.sh := by
  unfold small10 at h
  simp only [Bool.and_eq_true] at h
  obtain ⟨h1, h2, h3, h4⟩ := h
  obtain ⟨a1, a2, a3⟩ := smallB_r h1
  obtain ⟨b1, b2, b3⟩ := smallB_r h2
  obtain ⟨c1, c2⟩ := smallR_r h3
  obtain ⟨d1, d2⟩ := smallR_r h4
  exact ⟨Nat.le_trans (Nat.le_of_lt a2) (by decide), Nat.le_trans (Nat.le_of_lt b2) (by decide), mem_shorts a1, mem_shorts b1, Nat.le_trans (Nat.le_of_lt a3) (by decide), Nat.le_trans (Nat.le_of_lt b3) (by decide), Nat.le_trans c1 (by decide), Nat.le_trans d1 (by decide), c2, d2⟩
/-- what every tag that is read is -/
structure Hd.wf (h : Hd) : Prop where
  kind : I64 h.kind
  dep : I64 h.dep
  pl : ∀ j, j < 19 → I64 (h.pl j)
  f : h.sh.2.2.1.length ≤ 9223372036854775807
  fs : ShortsM h.sh.2.2.1
  s : h.sh.2.2.2.1.length ≤ 9223372036854775807
  r : h.sh.2.2.2.2.length ≤ 9223372036854775807
  rr : ∀ r, r ∈ h.sh.2.2.2.2 → r.fills.length ≤ 9223372036854775807
  mo : h.mo.wf
  px : h.px.length ≤ 9223372036854775807
noncomputable def trS (h : Hd) (L : List (List PV)) (n : Int) (acc : List (List PV)) : St :=
  S_celluloidlaw22_tref_L0 L ((((List.length L) : Nat) : Int)) n h.kind h.dep h.col.1 h.col.2.1 h.col.2.2.1 h.col.2.2.2 (h.pl 0) (h.pl 1) (h.pl 2) (h.pl 3) (h.pl 4) (h.pl 5) (h.pl 6) (h.pl 7) (h.pl 8) (h.pl 9) (h.pl 10) (h.pl 11) (h.pl 12) (h.pl 13) (h.pl 14) (h.pl 15) (h.pl 16) (h.pl 17) (h.pl 18) h.sh.1 h.sh.2.1.1 h.sh.2.1.2.1 h.sh.2.1.2.2.1 h.sh.2.1.2.2.2 (h.sh.2.2.1.map Fill.e) (h.sh.2.2.2.1.map Strk.e) (h.sh.2.2.2.2.map Rec.e) h.mo.id h.mo.fr.1 h.mo.fr.2.1 h.mo.fr.2.2.1 h.mo.fr.2.2.2 h.mo.to.1 h.mo.to.2.1 h.mo.to.2.2.1 h.mo.to.2.2.2 (h.mo.fills.map Fill.e) (h.mo.tofl.map Fill.e) (h.mo.strks.map Strk.e) (h.mo.tost.map Strk.e) (h.mo.recs.map Rec.e) (h.mo.targ.map Rec.e) h.bid h.bw h.bh h.px h.sid h.sfr L [] [] [] [] [] [] [] [] [] [] [] 0 0 0 0 0 0 0 0 0 0 0 0 0 0 0 0 0 0 0 0 0 0 0 0 0 0 0 0 0 0 0 0 0 0 0 0 0 0 0 0 0 0 0 0 acc h.kind h.dep h.col.1 h.col.2.1 h.col.2.2.1 h.col.2.2.2 (h.pl 0) (h.pl 1) (h.pl 2) (h.pl 3) (h.pl 4) (h.pl 5) (h.pl 6) (h.pl 7) (h.pl 8) (h.pl 9) (h.pl 10) (h.pl 11) (h.pl 12) (h.pl 13) (h.pl 14) (h.pl 15) (h.pl 16) (h.pl 17) (h.pl 18) h.sh.1 h.sh.2.1.1 h.sh.2.1.2.1 h.sh.2.1.2.2.1 h.sh.2.1.2.2.2 (h.sh.2.2.1.map Fill.e) (h.sh.2.2.2.1.map Strk.e) (h.sh.2.2.2.2.map Rec.e) h.mo.id h.mo.fr.1 h.mo.fr.2.1 h.mo.fr.2.2.1 h.mo.fr.2.2.2 h.mo.to.1 h.mo.to.2.1 h.mo.to.2.2.1 h.mo.to.2.2.2 (h.mo.fills.map Fill.e) (h.mo.tofl.map Fill.e) (h.mo.strks.map Strk.e) (h.mo.tost.map Strk.e) (h.mo.recs.map Rec.e) (h.mo.targ.map Rec.e) h.bid h.bw h.bh h.px h.sid h.sfr 
theorem tr_enter (h : Hd) (L : List (List PV)) : cW f_celluloidlaw22_tref (h.e L) [] = rW f_celluloidlaw22_tref [] at_celluloidlaw22_tref_L0 (trS h L 0 []) := by
  unfold Hd.e itE e9 Mor.e trS
  simp only [List.cons_append, List.nil_append]
  rw [w_celluloidlaw22_tref]
theorem tr_end (h : Hd) (w : h.wf) (L : List (List PV)) (n : Int) (acc : List (List PV)) (hn : decide (n < ((L.length : Nat) : Int)) = false) :
    ∃ b, rW f_celluloidlaw22_tref [] at_celluloidlaw22_tref_L0 (trS h L n acc) = some (h.e acc ++ [.b b], []) ∧ (b = true → L.length ≤ 300 ∧ (smallR h.sh.2.2.2.2 = true ∧ small10 h.mo = true)) := by
  unfold trS
  rw [w_celluloidlaw22_tref_L0, hn, cond_false]
  have e10 := small10_c h.mo w.mo
  unfold Mor.e at e10
  rw [small9_c w.r w.rr, e10]
  by_cases h1 : L.length ≤ 300
  · rw [show decide (((L.length : Nat) : Int) ≤ 300) = true by rw [decide_eq_true_eq]; omega, cond_true]
    cases h2 : decide (((h.px.length : Nat) : Int) ≤ 5000) with
    | false => exact ⟨false, rfl, fun h => by cases h⟩
    | true =>
      rw [cond_true]
      cases h3 : smallR h.sh.2.2.2.2 with
      | false => exact ⟨false, rfl, fun h => by cases h⟩
      | true => exact ⟨small10 h.mo, rfl, fun h => ⟨h1, rfl, h⟩⟩
  · rw [show decide (((L.length : Nat) : Int) ≤ 300) = false by rw [decide_eq_false_iff_not]; omega, cond_false]
    exact ⟨false, rfl, fun h => by cases h⟩
theorem tref0 (u : Hd) (w : u.wf) : ∃ b, cW f_celluloidlaw22_tref (u.e []) [] = some (u.e [] ++ [.b b], []) := by
  obtain ⟨b, e, _⟩ := tr_end u w [] 0 [] rfl
  exact ⟨b, (tr_enter u []).trans e⟩
set_option maxHeartbeats 1000000 in
theorem tr_step (h : Hd) (L : List (List PV)) (n : Int) (acc : List (List PV)) (u : Hd) (subs : List (List PV)) (h1 : decide (n < ((L.length : Nat) : Int)) = true) (h2 : inB n L.length = true) (h3 : elemAt L n = u.e subs)
    (hr : (acc.length + 1) * 616 ≤ 140737488355328) (hr2 : acc.length + 1 ≤ 4611686018427387904) (hu : ∃ b, cW f_celluloidlaw22_tref (u.e []) [] = some (u.e [] ++ [.b b], [])) :
    rW f_celluloidlaw22_tref [] at_celluloidlaw22_tref_L0 (trS h L n acc) = some (h.e acc ++ [.b false], []) ∨
    (subs = [] ∧ rW f_celluloidlaw22_tref [] at_celluloidlaw22_tref_L0 (trS h L n acc) = rW f_celluloidlaw22_tref [] at_celluloidlaw22_tref_L0 (trS h L (IntKind.wrap .i64 (n + 1)) (acc ++ [u.e []]))) := by
  obtain ⟨b, e⟩ := hu
  unfold Hd.e itE e9 Mor.e at e h3
  simp only [List.cons_append, List.nil_append] at e h3
  unfold trS
  rw [w_celluloidlaw22_tref_L0, h1, h2, h3, cond_true, cond_true]
  simp only [List.getD_cons_zero, List.getD_cons_succ, toI_i, toL_l]
  cases subs with
  | cons s ss =>
    refine .inl ?_
    rw [show decide ((((s :: ss).length : Nat) : Int) > 0) = true by rw [decide_eq_true_eq, List.length_cons]; omega]
    rfl
  | nil =>
    rw [show decide ((((([] : List (List PV)).length) : Nat) : Int) > 0) = false from rfl, cond_false]
    generalize decide (IntKind.wrap .i64 _ > (0 : Int)) = c
    cases c with
    | true => exact .inl rfl
    | false =>
      refine .inr ⟨rfl, ?_⟩
      simp only [Option.bind_some, List.getD_cons_zero, toB_b, cond_false]
      rw [e]
      simp only [Option.bind_some, List.getD_cons_zero, List.getD_cons_succ, toI_i, toL_l]
      rw [room2 _ _ hr hr2, cond_true]
      rfl
/-- all of a sprite's tags -/
theorem tr_loop (h : Hd) (w : h.wf) {L : List (List PV)} (hl : L.length * 616 ≤ 140737488355328) (hu : ∀ x, x ∈ L → ∃ (u : Hd) (subs : List (List PV)), x = u.e subs ∧ u.wf) : ∀ (rest pre : List (List PV)), L = pre ++ rest → (∀ x, x ∈ pre → ∃ u : Hd, x = u.e []) →
    ∃ acc b, rW f_celluloidlaw22_tref [] at_celluloidlaw22_tref_L0 (trS h L pre.length pre) = some (h.e acc ++ [.b b], []) ∧ (b = true → acc = L ∧ (∀ x, x ∈ L → ∃ u : Hd, x = u.e []) ∧ (L.length ≤ 300 ∧ (smallR h.sh.2.2.2.2 = true ∧ small10 h.mo = true)))
  | [], pre, he, hp => by
    obtain ⟨b, e, hb⟩ := tr_end h w L pre.length pre (el_end he)
    refine ⟨pre, b, e, fun hh => ⟨by rw [he, List.append_nil], ?_, hb hh⟩⟩
    rw [he, List.append_nil]; exact hp
  | x :: rest, pre, he, hp => by
    have hl2 : L.length ≤ 9223372036854775807 := by omega
    obtain ⟨h1, h2, h3, h4, h5⟩ := el_stepM (id : List PV → List PV) he hl2
    rw [List.map_id] at h3
    obtain ⟨u, subs, hx, wu⟩ := hu x (by rw [he]; simp)
    have hlen : pre.length + 1 ≤ L.length := by rw [he, List.length_append, List.length_cons]; omega
    rcases tr_step h L pre.length pre u subs h1 h2 (h3.trans hx) (Nat.le_trans (Nat.mul_le_mul_right _ hlen) hl) (by omega) (tref0 u wu) with e | ⟨rfl, e⟩
    · exact ⟨pre, false, e, fun h => by cases h⟩
    · rw [e, h4, ← hx]
      exact tr_loop h w hl hu rest (pre ++ [x]) h5 (fun y hy => by
        rcases List.mem_append.1 hy with hy | hy
        · exact hp y hy
        · rw [List.mem_singleton] at hy
          exact ⟨u, hy.trans hx⟩)
theorem tref_c (h : Hd) (w : h.wf) {L : List (List PV)} (hl : L.length * 616 ≤ 140737488355328) (hu : ∀ x, x ∈ L → ∃ (u : Hd) (subs : List (List PV)), x = u.e subs ∧ u.wf) :
    ∃ acc b, cW f_celluloidlaw22_tref (h.e L) [] = some (h.e acc ++ [.b b], []) ∧ (b = true → acc = L ∧ ((∃ us : List Hd, L = us.map Hd.s) ∧ (L.length ≤ 300 ∧ h.ok))) := by
  obtain ⟨acc, b, e, hb⟩ := tr_loop h w hl hu L [] rfl (fun x hx => by cases hx)
  refine ⟨acc, b, (tr_enter h L).trans e, fun hh => ?_⟩
  obtain ⟨rfl, h2, h3, h4, h5⟩ := hb hh
  refine ⟨rfl, ?_, h3, fun _ _ _ => ⟨?_, small10_sh h5, w.px⟩⟩
  · clear hb e hl hu h3
    induction acc with
    | nil => exact ⟨[], rfl⟩
    | cons x xs ih =>
      obtain ⟨u, hu⟩ := h2 x (List.mem_cons_self ..)
      obtain ⟨us, h⟩ := ih (fun y hy => h2 y (List.mem_cons_of_mem _ hy))
      exact ⟨u :: us, by rw [List.map_cons, ← h, hu]; rfl⟩
  · obtain ⟨g1, g2⟩ := smallR_r h4
    exact ⟨w.f, w.fs, w.s, Nat.le_trans g1 (by decide), g2⟩
end Go.AI
set_option linter.unusedVariables false
set_option linter.unusedSimpArgs false
set_option maxRecDepth 100000
namespace Go.AI
open Go Go.Proofs

/-- what every tag of a row is -/
def TagOk (x : List PV) : Prop := ∃ (h : Hd) (L : List (List PV)), x = h.e L ∧ (h.wf ∧ (L.length * 616 ≤ 140737488355328 ∧ ∀ y, y ∈ L → ∃ (u : Hd) (subs : List (List PV)), y = u.e subs ∧ u.wf))
/-- what a right one is -/
def TagR (x : List PV) : Prop := ∃ (h : Hd) (us : List Hd), x = h.e (us.map Hd.s) ∧ (h.wf ∧ (us.length ≤ 300 ∧ (h.ok ∧ (DepOk h ∧ cW f_celluloidref13_Right x [] = some ([.b true], [])))))
set_option maxHeartbeats 1000000 in
theorem refs_step (es : List (List PV)) (m n : Int) (acc : List (List PV)) (h : Hd) (L acc' : List (List PV)) (b : Bool) (h1 : decide (n < m) = true) (h2 : inB n es.length = true) (h3 : elemAt es n = h.e L)
    (hr : (acc.length + 1) * 616 ≤ 140737488355328) (hr2 : acc.length + 1 ≤ 4611686018427387904) (ht : cW f_celluloidlaw22_tref (h.e L) [] = some (h.e acc' ++ [.b b], [])) (hb : b = true → acc' = L ∧ TotD h (cW f_celluloidref13_Right (h.e L) [])) :
    rW f_celluloidlaw22_refs [] at_celluloidlaw22_refs_L0 (S_celluloidlaw22_refs_L0 es m n acc) = some ([.l [], .b false], []) ∨
    (b = true ∧ (DepOk h ∧ (cW f_celluloidref13_Right (h.e L) [] = some ([.b true], []) ∧ rW f_celluloidlaw22_refs [] at_celluloidlaw22_refs_L0 (S_celluloidlaw22_refs_L0 es m n acc) = rW f_celluloidlaw22_refs [] at_celluloidlaw22_refs_L0 (S_celluloidlaw22_refs_L0 es m (IntKind.wrap .i64 (n + 1)) (acc ++ [h.e L]))))) := by
  rw [w_celluloidlaw22_refs_L0, h1, h2, h3, cond_true, cond_true]
  cases b with
  | false =>
    refine .inl ?_
    clear hb
    unfold Hd.e itE e9 Mor.e at ht ⊢
    simp only [List.cons_append, List.nil_append] at ht ⊢
    simp only [List.getD_cons_zero, List.getD_cons_succ, toI_i, toL_l]
    rw [ht]
    rfl
  | true =>
    obtain ⟨rfl, b2, e2, hd⟩ := hb rfl
    have e3 := e2
    unfold Hd.e itE e9 Mor.e at ht e2 ⊢
    simp only [List.cons_append, List.nil_append] at ht e2 ⊢
    simp only [List.getD_cons_zero, List.getD_cons_succ, toI_i, toL_l]
    rw [ht]
    simp only [Option.bind_some, List.getD_cons_zero, List.getD_cons_succ, toI_i, toL_l, toB_b, Bool.not_true, cond_false]
    rw [e2]
    cases b2 with
    | false => exact .inl rfl
    | true =>
      refine .inr ⟨by trivial, hd rfl, by trivial, ?_⟩
      simp only [Option.bind_some, List.getD_cons_zero, List.getD_cons_succ, toB_b, Bool.not_true, cond_false]
      rw [room2 _ _ hr hr2, cond_true]
      rfl
theorem refs_loop {es : List (List PV)} (hn : es.length ≤ 60) (ho : ∀ x, x ∈ es → TagOk x) : ∀ (rest pre : List (List PV)), es = pre ++ rest → (∀ x, x ∈ pre → TagR x) →
    ∃ out b, rW f_celluloidlaw22_refs [] at_celluloidlaw22_refs_L0 (S_celluloidlaw22_refs_L0 es (es.length : Nat) (pre.length : Nat) pre) = some ([.l out, .b b], []) ∧ (b = true → out = es ∧ ∀ x, x ∈ es → TagR x)
  | [], pre, he, hp => by
    refine ⟨pre, true, ?_, fun _ => ⟨by rw [he, List.append_nil], by rw [he, List.append_nil]; exact hp⟩⟩
    rw [w_celluloidlaw22_refs_L0, el_end he, cond_false]
  | x :: rest, pre, he, hp => by
    obtain ⟨h1, h2, h3, h4, h5⟩ := el_stepM (id : List PV → List PV) he (by omega)
    rw [List.map_id] at h3
    obtain ⟨h, L, hx, w, hl, hu⟩ := ho x (by rw [he]; simp)
    have hlen : pre.length + 1 ≤ 60 := by rw [he, List.length_append, List.length_cons] at hn; omega
    obtain ⟨acc', b, ht, hb⟩ := tref_c h w hl hu
    rcases refs_step es (es.length : Nat) (pre.length : Nat) pre h L acc' b h1 h2 (h3.trans hx) (by omega) (by omega) ht (fun e => by
      obtain ⟨g1, ⟨us, g2⟩, g3, g4⟩ := hb e
      refine ⟨g1, ?_⟩
      rw [g2]
      exact right_tot h g4 (by rw [g2, List.length_map] at g3; omega)) with e | ⟨rfl, hd, hR, e⟩
    · exact ⟨[], false, e, fun h => by cases h⟩
    · rw [e, h4, ← hx]
      obtain ⟨g1, ⟨us, g2⟩, g3, g4⟩ := hb rfl
      refine refs_loop hn ho rest (pre ++ [x]) h5 (fun y hy => ?_)
      rcases List.mem_append.1 hy with hy | hy
      · exact hp y hy
      · rw [List.mem_singleton] at hy
        refine ⟨h, us, hy.trans (hx.trans (by rw [g2])), w, by rw [g2, List.length_map] at g3; exact g3, g4, hd, ?_⟩
        rw [hy, hx]; exact hR
theorem refs_c {es : List (List PV)} (ho : ∀ x, x ∈ es → TagOk x) (hz : es.length ≤ 9223372036854775807) : ∃ out b, cW f_celluloidlaw22_refs [.l es] [] = some ([.l out, .b b], []) ∧ (b = true → out = es ∧ (es.length ≤ 60 ∧ ∀ x, x ∈ es → TagR x)) := by
  rw [w_celluloidlaw22_refs]
  by_cases hn : es.length ≤ 60
  · rw [show decide (((es.length : Nat) : Int) > 60) = false by rw [decide_eq_false_iff_not]; omega, cond_false]
    obtain ⟨out, b, e, hb⟩ := refs_loop hn ho es [] rfl (fun x hx => by cases hx)
    exact ⟨out, b, e, fun h => ⟨(hb h).1, hn, (hb h).2⟩⟩
  · rw [show decide (((es.length : Nat) : Int) > 60) = true by rw [decide_eq_true_eq]; omega, cond_true]
    exact ⟨[], false, rfl, fun h => by cases h⟩
end Go.AI
set_option linter.unusedVariables false
set_option linter.unusedSimpArgs false
set_option maxRecDepth 100000
namespace Go.AI
open Go Go.Proofs

theorem kd_el (es : List (List PV)) (k : Nat) : ((elemAt es ((k : Nat) : Int)).getD 0 PV.u).toI = kdE es k := by
  unfold elemAt kdE
  rw [Int.toNat_natCast]
theorem in_el {es : List (List PV)} {k : Nat} (h : k < es.length) : decide (((k : Nat) : Int) < ((es.length : Nat) : Int)) = true ∧ inB ((k : Nat) : Int) es.length = true := by
  refine ⟨by rw [decide_eq_true_eq]; omega, ?_⟩
  unfold inB
  simp
  omega
theorem itemsE_len (es : List (List PV)) (fr : Int) : (itemsE es fr).length ≤ 255 := by
  unfold itemsE itemsF
  refine Nat.le_trans (List.length_filterMap_le _ _) ?_
  unfold depths
  rw [List.length_map, List.length_range]
  exact Nat.le_refl _
theorem e_pl (h : Hd) (L : List (List PV)) (j : Nat) (hj : j < 19) : ((h.e L).getD (6 + j) .u).toI = h.pl j := by
  refine cases19 (p := fun j => ((h.e L).getD (6 + j) .u).toI = h.pl j) ?_ j hj
  exact ⟨rfl, rfl, rfl, rfl, rfl, rfl, rfl, rfl, rfl, rfl, rfl, rfl, rfl, rfl, rfl, rfl, rfl, rfl, rfl⟩
theorem wf_of {n : Int} (h : I64 n) : (Lit.int .i64 n).wf = true := by
  have h : -9223372036854775808 ≤ n ∧ n ≤ 9223372036854775807 := h
  simp only [Lit.wf, Bool.and_eq_true, decide_eq_true_eq]
  exact h
theorem okE_of {es : List (List PV)} (hn : es.length ≤ 60) (hR : ∀ x, x ∈ es → TagR x) {fr : Int} (hf : fr ≤ 9223372036854775807) : OkE es fr := by
  have key : ∀ k, k < es.length → ∃ (h : Hd) (us : List Hd), es.getD k [] = h.e (us.map Hd.s) ∧ (h.wf ∧ DepOk h) := fun k hk => by
    have e : es.getD k [] = es[k] := by simp [List.getD, hk]
    obtain ⟨h, us, g1, g2, _, _, g3, _⟩ := hR es[k] (List.getElem_mem hk)
    exact ⟨h, us, e.trans g1, g2, g3⟩
  refine ⟨by omega, hf, fun k hk => ?_, fun k hk => ?_, fun k hk he => ?_⟩
  · obtain ⟨h, us, e, w, _⟩ := key k hk
    unfold dpE
    rw [e]
    exact wf_of w.dep
  · obtain ⟨h, us, e, w, _⟩ := key k hk
    unfold plE
    rw [e, e_pl h _ 1 (by decide)]
    exact wf_of (w.pl 1 (by decide))
  · obtain ⟨h, us, e, w, d⟩ := key k hk
    unfold plE
    unfold kdE at he
    rw [e] at he ⊢
    rw [e_pl h _ 1 (by decide)]
    exact (d.1 he).1
end Go.AI
set_option linter.unusedVariables false
set_option linter.unusedSimpArgs false
set_option maxRecDepth 100000
namespace Go.AI
open Go Go.Proofs

theorem stay_same {pf : PlF} {kd dp : Nat → Int} {pl : Nat → Nat → Int} {d : Int} {n : Nat} : ∀ {m}, n ≤ m → (∀ j, n ≤ j → j < m → ¬ (kd j = 26 ∧ pl j 1 = d) ∧ ¬ (kd j = 28 ∧ dp j = d)) → atS pf kd dp pl d m = atS pf kd dp pl d n
  | 0, h, _ => by rw [Nat.le_zero.1 h]
  | m + 1, h, hj => by
    by_cases e : n = m + 1
    · rw [e]
    · have g := hj m (by omega) (by omega)
      rw [atS, if_neg g.2, if_neg g.1]
      exact stay_same (by omega) (fun j h1 h2 => hj j h1 (by omega))
theorem doneT_spec (kd : Nat → Int) (fr : Int) : ∀ r k, k ≤ doneT kd fr k r ∧ (∀ j, k ≤ j → j < doneT kd fr k r → ¬ (kd j = 1 ∧ (shN kd j : Int) = fr)) ∧ (doneT kd fr k r < k + r → kd (doneT kd fr k r) = 1 ∧ (shN kd (doneT kd fr k r) : Int) = fr)
  | 0, k => ⟨Nat.le_refl _, fun j h1 h2 => by unfold doneT at h2; omega, fun h => by unfold doneT at h; omega⟩
  | r + 1, k => by
    unfold doneT
    by_cases e : kd k = 1 ∧ (shN kd k : Int) = fr
    · rw [if_pos e]
      exact ⟨Nat.le_refl _, fun j h1 h2 => by omega, fun _ => e⟩
    · rw [if_neg e]
      obtain ⟨h1, h2, h3⟩ := doneT_spec kd fr r (k + 1)
      refine ⟨by omega, fun j g1 g2 => ?_, fun g => h3 (by omega)⟩
      by_cases ej : j = k
      · rw [ej]; exact e
      · exact h2 j (by omega) g2
theorem doneN_spec (kd : Nat → Int) {fr : Int} (h0 : 0 ≤ fr) (n : Nat) : (∀ j, j < doneN kd fr n → ¬ (kd j = 1 ∧ (shN kd j : Int) = fr)) ∧ (doneN kd fr n < n → kd (doneN kd fr n) = 1 ∧ (shN kd (doneN kd fr n) : Int) = fr) := by
  have e : frame0 fr = fr := by unfold frame0; rw [if_neg (by omega)]
  unfold doneN
  rw [e]
  obtain ⟨h1, h2, h3⟩ := doneT_spec kd fr n 0
  exact ⟨fun j hj => h2 j (Nat.zero_le _) hj, fun h => h3 (by rw [Nat.zero_add]; exact h)⟩
theorem shN_succ (kd : Nat → Int) (k : Nat) : shN kd (k + 1) = if kd k = 1 then shN kd k + 1 else shN kd k := rfl
/-- numbers of shows are passed one by one -/
theorem shN_pass (kd : Nat → Int) (c : Nat) : ∀ n, c < shN kd n → ∃ j, j < n ∧ (kd j = 1 ∧ shN kd j = c)
  | 0, h => by cases h
  | n + 1, h => by
    rw [shN_succ] at h
    by_cases e : kd n = 1
    · rw [if_pos e] at h
      by_cases e2 : shN kd n = c
      · exact ⟨n, Nat.lt_succ_self _, e, e2⟩
      · obtain ⟨j, h1, h2⟩ := shN_pass kd c n (by omega)
        exact ⟨j, by omega, h2⟩
    · rw [if_neg e] at h
      obtain ⟨j, h1, h2⟩ := shN_pass kd c n h
      exact ⟨j, by omega, h2⟩
theorem doneN_next (kd : Nat → Int) {fr : Int} (h0 : 0 ≤ fr) (n : Nat) : doneN kd fr n ≤ doneN kd (fr + 1) n := by
  obtain ⟨a1, a2⟩ := doneN_spec kd h0 n
  obtain ⟨b1, b2⟩ := doneN_spec kd (show 0 ≤ fr + 1 by omega) n
  have la := doneN_le kd fr n
  refine Nat.le_of_not_lt fun h => ?_
  obtain ⟨_, e⟩ := b2 (by omega)
  obtain ⟨j, g1, g2, g3⟩ := shN_pass kd fr.toNat (doneN kd (fr + 1) n) (by omega)
  exact a1 j (by omega) ⟨g2, by omega⟩
theorem between {kd : Nat → Int} {fr : Int} (h0 : 0 ≤ fr) {n : Nat} : ∀ j, doneN kd fr n < j → j ≤ doneN kd (fr + 1) n → (shN kd j : Int) = fr + 1
  | 0, h, _ => by cases h
  | j + 1, h, h2 => by
    obtain ⟨a1, a2⟩ := doneN_spec kd h0 n
    obtain ⟨b1, b2⟩ := doneN_spec kd (show 0 ≤ fr + 1 by omega) n
    have lb := doneN_le kd (fr + 1) n
    rw [shN_succ]
    by_cases e : j = doneN kd fr n
    · obtain ⟨c1, c2⟩ := a2 (by omega)
      rw [e, if_pos c1]
      omega
    · have ih := between (kd := kd) h0 (n := n) j (by omega) (by omega)
      have := b1 j (by omega)
      rw [if_neg (fun h => this ⟨h, ih⟩)]
      exact ih
/-- does a tag touch a depth, between two frames? -/
def Tch (kd dp : Nat → Int) (pl : Nat → Nat → Int) (fr d : Int) (j : Nat) : Prop := (shN kd (j + 1) : Int) = fr + 1 ∧ ((kd j = 26 ∧ pl j 1 = d) ∨ (kd j = 28 ∧ dp j = d))
theorem stay_next {pf : PlF} {kd dp : Nat → Int} {pl : Nat → Nat → Int} {fr d : Int} (h0 : 0 ≤ fr) {n : Nat} (h : ∀ j, j < n → ¬ Tch kd dp pl fr d j) : atS pf kd dp pl d (doneN kd (fr + 1) n) = atS pf kd dp pl d (doneN kd fr n) := by
  refine stay_same (doneN_next kd h0 n) (fun j h1 h2 => ?_)
  have lb := doneN_le kd (fr + 1) n
  have k1 : kd j ≠ 1 → (shN kd (j + 1) : Int) = fr + 1 := fun hk => by
    exact between (kd := kd) h0 (n := n) (j + 1) (by omega) (by omega)
  exact ⟨fun e => h j (by omega) ⟨k1 (by omega), .inl e⟩, fun e => h j (by omega) ⟨k1 (by omega), .inr e⟩⟩
/-- the touched depths behind so many tags -/
def tchL (kd dp : Nat → Int) (pl : Nat → Nat → Int) (fr : Int) : Nat → List Bool
  | 0 => List.replicate 256 false
  | k + 1 => if (shN kd (k + 1) : Int) = fr + 1 then (if kd k = 26 then (tchL kd dp pl fr k).set (pl k 1).toNat true else if kd k = 28 then (tchL kd dp pl fr k).set (dp k).toNat true else tchL kd dp pl fr k) else tchL kd dp pl fr k
theorem tchL_len (kd dp : Nat → Int) (pl : Nat → Nat → Int) (fr : Int) : ∀ k, (tchL kd dp pl fr k).length = 256
  | 0 => by simp [tchL]
  | k + 1 => by
    have ih := tchL_len kd dp pl fr k
    unfold tchL
    split
    · split
      · rw [List.length_set, ih]
      · split
        · rw [List.length_set, ih]
        · exact ih
    · exact ih
theorem getD_setB (l : List Bool) (i j : Nat) (hi : i < l.length) : (l.set i true).getD j false = (decide (i = j) || l.getD j false) := by
  simp only [List.getD, List.getElem?_set]
  by_cases e : i = j
  · subst e; simp [hi]
  · simp [e]
theorem tchL_spec {kd dp : Nat → Int} {pl : Nat → Nat → Int} {fr : Int} {n : Nat} (hp : ∀ k, k < n → kd k = 26 → 1 ≤ pl k 1 ∧ pl k 1 ≤ 255) (hd : ∀ k, k < n → kd k = 28 → 1 ≤ dp k ∧ dp k ≤ 255) {d : Int} (h1 : 1 ≤ d) (h2 : d ≤ 255) : ∀ k, k ≤ n → ((tchL kd dp pl fr k).getD d.toNat false = true ↔ ∃ j, j < k ∧ Tch kd dp pl fr d j)
  | 0, _ => by
    constructor
    · intro h
      rw [tchL] at h
      simp only [List.getD, List.getElem?_replicate] at h
      split at h <;> cases h
    · rintro ⟨j, h, _⟩; omega
  | k + 1, hk => by
    have ih := tchL_spec (fr := fr) hp hd h1 h2 k (by omega)
    have hl := tchL_len kd dp pl fr k
    have step : (∃ j, j < k + 1 ∧ Tch kd dp pl fr d j) ↔ (Tch kd dp pl fr d k ∨ ∃ j, j < k ∧ Tch kd dp pl fr d j) := by
      constructor
      · rintro ⟨j, g1, g2⟩
        by_cases e : j = k
        · exact .inl (e ▸ g2)
        · exact .inr ⟨j, by omega, g2⟩
      · rintro (g | ⟨j, g1, g2⟩)
        · exact ⟨k, by omega, g⟩
        · exact ⟨j, by omega, g2⟩
    rw [step, ← ih, tchL]
    by_cases e : (shN kd (k + 1) : Int) = fr + 1
    · rw [if_pos e]
      by_cases k1 : kd k = 26
      · have b := hp k (by omega) k1
        rw [if_pos k1, getD_setB _ _ _ (by omega), Bool.or_eq_true, decide_eq_true_eq]
        unfold Tch
        constructor
        · rintro (g | g)
          · exact .inl ⟨e, .inl ⟨k1, by omega⟩⟩
          · exact .inr g
        · rintro (⟨_, g | g⟩ | g)
          · exact .inl (by rw [g.2])
          · omega
          · exact .inr g
      · rw [if_neg k1]
        by_cases k2 : kd k = 28
        · have b := hd k (by omega) k2
          rw [if_pos k2, getD_setB _ _ _ (by omega), Bool.or_eq_true, decide_eq_true_eq]
          unfold Tch
          constructor
          · rintro (g | g)
            · exact .inl ⟨e, .inr ⟨k2, by omega⟩⟩
            · exact .inr g
          · rintro (⟨_, g | g⟩ | g)
            · omega
            · exact .inl (by rw [g.2])
            · exact .inr g
        · rw [if_neg k2]
          unfold Tch
          constructor
          · exact .inr
          · rintro (⟨_, g | g⟩ | g)
            · omega
            · omega
            · exact g
    · rw [if_neg e]
      unfold Tch
      constructor
      · exact .inr
      · rintro (⟨g, _⟩ | g)
        · exact absurd g e
        · exact g
/-- the items of a frame: which -/
theorem mem_items {pf : PlF} {kd dp : Nat → Int} {pl : Nat → Nat → Int} {n : Nat} {x : Nat → Int} : x ∈ itemsF pf kd dp pl n ↔ ∃ d, (1 ≤ d ∧ d ≤ 255) ∧ ((atS pf kd dp pl d n).2 = true ∧ (atS pf kd dp pl d n).1 = x) := by
  unfold itemsF
  rw [List.mem_filterMap]
  constructor
  · rintro ⟨d, hd, h⟩
    rw [mem_depths] at hd
    cases e : (atS pf kd dp pl d n).2 with
    | false => rw [e] at h; cases h
    | true =>
      rw [e, cond_true, Option.some.injEq] at h
      exact ⟨d, hd, e, h⟩
  · rintro ⟨d, hd, h1, h2⟩
    exact ⟨d, (mem_depths d).2 hd, by rw [h1, cond_true, h2]⟩
theorem countP_one {α : Type} (f : α → Int) (p : α → Bool) (x : α) : ∀ {l : List α}, l.Pairwise (fun a b => f a < f b) → x ∈ l → (∀ y, y ∈ l → (p y = true ↔ f y = f x)) → l.countP p = 1
  | [], _, h, _ => by cases h
  | y :: l, hl, hx, hp => by
    rw [List.pairwise_cons] at hl
    rw [List.countP_cons]
    rcases List.mem_cons.1 hx with e | hx
    · subst e
      rw [if_pos ((hp x (by simp)).2 rfl), List.countP_eq_zero.2 (fun z hz h => ?_)]
      have := (hp z (List.mem_cons_of_mem _ hz)).1 h
      have := hl.1 z hz
      omega
    · have := hl.1 x hx
      rw [if_neg (fun h => by have := (hp y (by simp)).1 h; omega), countP_one f p x hl.2 hx (fun z hz => hp z (List.mem_cons_of_mem _ hz))]
end Go.AI
set_option linter.unusedVariables false
set_option linter.unusedSimpArgs false
set_option maxRecDepth 100000
namespace Go.AI
open Go Go.Proofs

abbrev pE (es : List (List PV)) (i : Int) (j : Nat) : Int := ((elemAt es i).getD (6 + j) PV.u).toI
end Go.AI
set_option linter.unusedVariables false
set_option linter.unusedSimpArgs false
set_option maxRecDepth 100000
namespace Go.AI
open Go Go.Proofs

theorem dp_el (es : List (List PV)) (k : Nat) : ((elemAt es ((k : Nat) : Int)).getD 1 PV.u).toI = dpE es k := by
  unfold elemAt dpE
  rw [Int.toNat_natCast]
theorem pl_el (es : List (List PV)) (k : Nat) : pE es ((k : Nat) : Int) = plE es k := by
  funext j
  unfold pE elemAt plE
  rw [Int.toNat_natCast]
end Go.AI
set_option linter.unusedVariables false
set_option linter.unusedSimpArgs false
set_option maxRecDepth 100000
namespace Go.AI
open Go Go.Proofs
theorem awake22 : cP f_celluloidlaw22_awake [] [] = some ([.b true], []) := by
  rw [w_celluloidlaw22_awake]
  have hS : cP f_scene_Shows [.l tags5] [] = some ([.i 2], []) := cP_of (c_at 20 (by kernel_rfl))
  have h0 : cP f_scene_Of (movE ++ [.i 0]) [] = some (sceneE 0, []) := Of_p (.inl rfl)
  have h1 : cP f_scene_Of (movE ++ [.i 1]) [] = some (sceneE 1, []) := Of_p (.inr rfl)
  generalize cP = F at hS h0 h1 ⊢
  refine (congrArg (fun o => Option.bind o _) h0).trans ?_
  refine (congrArg (fun o => Option.bind o _) h1).trans ?_
  refine Eq.trans (b := Option.bind ((F f_scene_Shows [.l tags5] []).bind fun r3 => some [(PV.b (((r3).1.getD 0 PV.u).toI == (2 : Int)))]) fun r4 => some ([(PV.b ((r4.getD 0 PV.u)).toB)], [])) ?_ ?_
  · kernel_rfl
  · rw [hS]; rfl
end Go.AI
set_option linter.unusedVariables false
set_option linter.unusedSimpArgs false
set_option maxRecDepth 100000
namespace Go.AI
open Go Go.Proofs

end Go.AI
set_option linter.unusedVariables false
set_option linter.unusedSimpArgs false
set_option maxRecDepth 100000
namespace Go.AI
open Go Go.Proofs

theorem pl_tag (h : Hd) (L : List (List PV)) {es : List (List PV)} {k : Nat} (e : es.getD k [] = h.e L) (j : Nat) (hj : j < 19) : plE es k j = h.pl j := by
  unfold plE
  rw [e, e_pl h L j hj]
theorem tag_at {es : List (List PV)} (hR : ∀ x, x ∈ es → TagR x) {k : Nat} (hk : k < es.length) : ∃ (h : Hd) (us : List Hd), es.getD k [] = h.e (us.map Hd.s) ∧ (h.wf ∧ DepOk h) := by
  have e : es.getD k [] = es[k] := by simp [List.getD, hk]
  obtain ⟨h, us, g1, g2, _, _, g3, _⟩ := hR es[k] (List.getElem_mem hk)
  exact ⟨h, us, e.trans g1, g2, g3⟩
theorem kd_tag (h : Hd) (L : List (List PV)) {es : List (List PV)} {k : Nat} (e : es.getD k [] = h.e L) : kdE es k = h.kind := by
  unfold kdE
  rw [e]
  rfl
theorem dp_tag (h : Hd) (L : List (List PV)) {es : List (List PV)} {k : Nat} (e : es.getD k [] = h.e L) : dpE es k = h.dep := by
  unfold dpE
  rw [e]
  rfl
end Go.AI
set_option linter.unusedVariables false
set_option linter.unusedSimpArgs false
set_option maxRecDepth 100000
namespace Go.AI
open Go Go.Proofs

def eq19 (y x : Nat → Int) : Bool := ((y 0 == x 0) && ((y 1 == x 1) && ((y 2 == x 2) && ((y 3 == x 3) && ((y 4 == x 4) && ((y 5 == x 5) && ((y 6 == x 6) && ((y 7 == x 7) && ((y 8 == x 8) && ((y 9 == x 9) && ((y 10 == x 10) && ((y 11 == x 11) && ((y 12 == x 12) && ((y 13 == x 13) && ((y 14 == x 14) && ((y 15 == x 15) && ((y 16 == x 16) && ((y 17 == x 17) && (y 18 == x 18)))))))))))))))))))
theorem eq19_refl (x : Nat → Int) : eq19 x x = true := by simp only [eq19, beq_self_eq_true, Bool.and_self]
theorem eq19_0 {y x : Nat → Int} (h : eq19 y x = true) : y 0 = x 0 := by
  unfold eq19 at h
  rw [Bool.and_eq_true] at h
  exact beq_iff_eq.1 h.1
def bL (l : List Bool) : List (List PV) := l.map fun b => [PV.b b]
theorem bL_len (l : List Bool) : (bL l).length = l.length := List.length_map ..
theorem bL_at (l : List Bool) (i : Int) : ((elemAt (bL l) i).getD 0 PV.u).toB = l.getD i.toNat false := by
  unfold elemAt bL
  simp only [List.getD, List.getElem?_map]
  cases l[i.toNat]? <;> rfl
theorem bL_put (l : List Bool) (i : Int) (n : Nat) : List.set (bL l) n (putAt (elemAt (bL l) i) 0 [PV.b true]) = bL (l.set n true) := by
  have : putAt (elemAt (bL l) i) 0 [PV.b true] = [PV.b true] := by
    unfold elemAt bL
    simp only [List.getD, List.getElem?_map]
    cases l[i.toNat]? <;> rfl
  rw [this]
  unfold bL
  rw [List.map_set]
theorem inB_n {i : Int} {n : Nat} (h0 : 0 ≤ i) (h1 : i < n) : inB i n = true := by
  unfold inB
  simp only [Bool.and_eq_true, decide_eq_true_eq]
  exact ⟨h0, h1⟩
abbrev SS := f_celluloidlaw22_SceneSteps
noncomputable def l0 (f : Int) (A B : List (List PV)) (sh : Int) (es : List (List PV)) (k : Int) (T : List (List PV)) : Option Res := rP SS [] at_celluloidlaw22_SceneSteps_L0 (S_celluloidlaw22_SceneSteps_L0 f A B sh es (((List.length es : Nat) : Int)) k T)
noncomputable def l2 (A B : List (List PV)) (k : Int) (T : List (List PV)) : Option Res := rP SS [] at_celluloidlaw22_SceneSteps_L2 (S_celluloidlaw22_SceneSteps_L2 A B (((List.length B : Nat) : Int)) k T)
noncomputable def l4 (A B : List (List PV)) (k : Int) (T : List (List PV)) : Option Res := rP SS [] at_celluloidlaw22_SceneSteps_L4 (S_celluloidlaw22_SceneSteps_L4 A B A (((List.length A : Nat) : Int)) k T)
noncomputable def l6 (A B : List (List PV)) (c k i : Int) (T : List (List PV)) (x : Nat → Int) : Option Res := rP SS [] at_celluloidlaw22_SceneSteps_L6 (S_celluloidlaw22_SceneSteps_L6 A B c A (((List.length A : Nat) : Int)) k B (((List.length B : Nat) : Int)) i T (x 0) (x 1) (x 2) (x 3) (x 4) (x 5) (x 6) (x 7) (x 8) (x 9) (x 10) (x 11) (x 12) (x 13) (x 14) (x 15) (x 16) (x 17) (x 18))
noncomputable def l8 (A B : List (List PV)) (k : Int) (T : List (List PV)) : Option Res := rP SS [] at_celluloidlaw22_SceneSteps_L8 (S_celluloidlaw22_SceneSteps_L8 A B (((List.length B : Nat) : Int)) k T)
noncomputable def l10 (A B : List (List PV)) (c : Bool) (k i : Int) (T : List (List PV)) (x : Nat → Int) : Option Res := rP SS [] at_celluloidlaw22_SceneSteps_L10 (S_celluloidlaw22_SceneSteps_L10 A c B (((List.length B : Nat) : Int)) k A (((List.length A : Nat) : Int)) i T (x 0) (x 1) (x 2) (x 3) (x 4) (x 5) (x 6) (x 7) (x 8) (x 9) (x 10) (x 11) (x 12) (x 13) (x 14) (x 15) (x 16) (x 17) (x 18))
theorem l0_loop {es : List (List PV)} (hl : es.length ≤ 1000000) (hR : ∀ x, x ∈ es → TagR x) {f : Int} (f0 : 0 ≤ f) (f1 : f ≤ 255) (A B : List (List PV)) : ∀ r k, k + r = es.length →
    l0 f A B (shN (kdE es) k : Nat) es (k : Nat) (bL (tchL (kdE es) (dpE es) (plE es) f k)) = l2 A B 0 (bL (tchL (kdE es) (dpE es) (plE es) f es.length))
  | 0, k, h => by
    rw [Nat.add_zero] at h
    subst h
    unfold l0
    rw [w_celluloidlaw22_SceneSteps_L0, decide_eq_false (by omega), cond_false]
    rfl
  | r + 1, k, h => by
    have ih := l0_loop hl hR f0 f1 A B r (k + 1) (by omega)
    obtain ⟨h1, h2⟩ := in_el (es := es) (k := k) (by omega)
    have ew : IntKind.wrap .i64 (((k : Nat) : Int) + 1) = ((k + 1 : Nat) : Int) := by rw [wrap64 (by omega) (by omega)]; omega
    have ef : IntKind.wrap .i64 (IntKind.wrap .i64 f + 1) = f + 1 := by rw [wrap64 (n := f) (by omega) (by omega), wrap64 (by omega) (by omega)]
    have hs := shN_le (kdE es) k
    have es1 : IntKind.wrap .i64 (((shN (kdE es) k : Nat) : Int) + 1) = ((shN (kdE es) k + 1 : Nat) : Int) := by rw [wrap64 (by omega) (by omega)]; omega
    have hT := tchL_len (kdE es) (dpE es) (plE es) f k
    obtain ⟨hh, us, ee, hw, hd⟩ := tag_at hR (show k < es.length by omega)
    have p1 : kdE es k = 26 → 1 ≤ plE es k 1 ∧ plE es k 1 ≤ 255 := fun e => by
      rw [kd_tag hh _ ee] at e
      rw [pl_tag hh _ ee 1 (by decide)]
      exact (hd.1 e).1
    have d1 : kdE es k = 28 → 1 ≤ dpE es k ∧ dpE es k ≤ 255 := fun e => by
      rw [kd_tag hh _ ee] at e
      rw [dp_tag hh _ ee]
      exact hd.2 e
    have e7 : ((elemAt es ((k : Nat) : Int)).getD 7 PV.u).toI = plE es k 1 := congrFun (pl_el es k) 1
    rw [tchL, shN_succ] at ih
    unfold l0 at ih ⊢
    rw [w_celluloidlaw22_SceneSteps_L0, h1, h2, cond_true, cond_true, kd_el, dp_el, e7, ew, ef, es1]
    simp only [bL_put, bL_len]
    by_cases k1 : kdE es k = 1
    · rw [if_pos k1, if_neg (show ¬ kdE es k = 26 by omega), if_neg (show ¬ kdE es k = 28 by omega)] at ih
      rw [show (if ((shN (kdE es) k + 1 : Nat) : Int) = f + 1 then tchL (kdE es) (dpE es) (plE es) f k else tchL (kdE es) (dpE es) (plE es) f k) = tchL (kdE es) (dpE es) (plE es) f k by split <;> rfl] at ih
      rw [show (kdE es k == 1) = true by rw [beq_iff_eq]; exact k1, cond_true, show (kdE es k == 26) = false by rw [beq_eq_false_iff_ne]; omega, show (kdE es k == 28) = false by rw [beq_eq_false_iff_ne]; omega]
      cases ((shN (kdE es) k + 1 : Nat) : Int) == f + 1 <;> exact ih
    · rw [if_neg k1] at ih
      rw [show (kdE es k == 1) = false by rw [beq_eq_false_iff_ne]; exact k1, cond_false]
      by_cases e : ((shN (kdE es) k : Nat) : Int) = f + 1
      · rw [if_pos e] at ih
        rw [show (((shN (kdE es) k : Nat) : Int) == f + 1) = true by rw [beq_iff_eq]; exact e, cond_true]
        by_cases k2 : kdE es k = 26
        · have b := p1 k2
          rw [if_pos k2] at ih
          rw [show (kdE es k == 26) = true by rw [beq_iff_eq]; exact k2, show (kdE es k == 28) = false by rw [beq_eq_false_iff_ne]; omega, inB_n (by omega) (by omega)]
          exact ih
        · rw [if_neg k2] at ih
          rw [show (kdE es k == 26) = false by rw [beq_eq_false_iff_ne]; exact k2]
          by_cases k3 : kdE es k = 28
          · have b := d1 k3
            rw [if_pos k3] at ih
            rw [show (kdE es k == 28) = true by rw [beq_iff_eq]; exact k3, inB_n (i := dpE es k) (n := (tchL (kdE es) (dpE es) (plE es) f k).length) (by omega) (by omega)]
            exact ih
          · rw [if_neg k3] at ih
            rw [show (kdE es k == 28) = false by rw [beq_eq_false_iff_ne]; exact k3]
            exact ih
      · rw [if_neg e] at ih
        rw [show (((shN (kdE es) k : Nat) : Int) == f + 1) = false by rw [beq_eq_false_iff_ne]; exact e, cond_false]
        exact ih
theorem l2_loop {X : List (Nat → Int)} (hl : X.length ≤ 255) (hr : X.Pairwise fun x y => x 0 < y 0) (A T : List (List PV)) : ∀ rest pre, X = pre ++ rest → l2 A (X.map itE) (pre.length : Nat) T = l4 A (X.map itE) 0 T
  | [], pre, he => by
    unfold l2
    rw [w_celluloidlaw22_SceneSteps_L2]
    simp only [List.length_map, el_end he, cond_false]
    rfl
  | x :: rest, pre, he => by
    obtain ⟨h1, h2, h3, h4, h5⟩ := el_stepM itE he (by omega)
    have ih := l2_loop hl hr A T rest (pre ++ [x]) h5
    unfold l2 at ih ⊢
    rw [w_celluloidlaw22_SceneSteps_L2]
    rw [List.length_map] at ih ⊢
    rw [h1, cond_true, h2, h3, h4]
    have key : (bif decide (((pre.length : Nat) : Int) > 0) then bif inB (IntKind.wrap .i64 (((pre.length : Nat) : Int) - 1)) X.length then bif true then some [PV.b (decide (((elemAt (X.map itE) (IntKind.wrap .i64 (((pre.length : Nat) : Int) - 1))).getD 0 PV.u).toI ≥ ((itE x).getD 0 PV.u).toI))] else none else none else some [PV.b false]) = some [PV.b false] := by
      rcases List.eq_nil_or_concat pre with rfl | ⟨p, y, rfl⟩
      · rfl
      · simp only [List.concat_eq_append] at *
        have hp : (p ++ [y]).length = p.length + 1 := by simp
        have hx : (p ++ [y]).length + (x :: rest).length = X.length := by rw [he]; exact List.length_append.symm
        rw [List.length_cons] at hx
        have e1 : IntKind.wrap .i64 ((((p ++ [y]).length : Nat) : Int) - 1) = ((p.length : Nat) : Int) := by rw [wrap64 (by omega) (by omega)]; omega
        have e2 : elemAt (X.map itE) ((p.length : Nat) : Int) = itE y := by
          unfold elemAt
          rw [Int.toNat_natCast, he]
          simp
        have e3 : y 0 < x 0 := by
          rw [he, List.pairwise_append] at hr
          exact hr.2.2 y (by simp) x (by simp)
        rw [e1, e2, inB_n (by omega) (by omega), decide_eq_true (by omega), cond_true, cond_true, cond_true]
        show some [PV.b (decide (y 0 ≥ x 0))] = _
        rw [decide_eq_false (by omega)]
    rw [key]
    exact ih
theorem l6_loop {X : List (Nat → Int)} (hl : X.length ≤ 255) (A T : List (List PV)) (k : Int) (x : Nat → Int) : ∀ rest pre (c : Nat), X = pre ++ rest → c ≤ pre.length → l6 A (X.map itE) (c : Nat) k (pre.length : Nat) T x = l6 A (X.map itE) ((c + rest.countP fun y => eq19 y x : Nat) : Int) k (X.length : Nat) T x
  | [], pre, c, he, hc => by rw [he, List.append_nil]; rfl
  | y :: rest, pre, c, he, hc => by
    obtain ⟨h1, h2, h3, h4, h5⟩ := el_stepM itE he (by omega)
    have ht := l6_loop hl A T k x rest (pre ++ [y]) (c + 1) h5 (by simp; omega)
    have hf := l6_loop hl A T k x rest (pre ++ [y]) c h5 (by simp; omega)
    have hx : pre.length + (y :: rest).length = X.length := by rw [he, List.length_append]
    have ec : IntKind.wrap .i64 (((c : Nat) : Int) + 1) = ((c + 1 : Nat) : Int) := by rw [wrap64 (by omega) (by omega)]; omega
    have step : l6 A (X.map itE) (c : Nat) k (pre.length : Nat) T x = bif eq19 y x then l6 A (X.map itE) ((c + 1 : Nat) : Int) k ((pre ++ [y]).length : Nat) T x else l6 A (X.map itE) (c : Nat) k ((pre ++ [y]).length : Nat) T x := by
      conv => lhs; unfold l6; rw [w_celluloidlaw22_SceneSteps_L6]
      rw [List.length_map, h1, cond_true, h2, cond_true, h3, h4, ec]
      unfold l6
      rw [List.length_map]
      rfl
    rw [step, List.countP_cons]
    cases e : eq19 y x with
    | true =>
      rw [cond_true, ht, if_pos rfl, show c + 1 + List.countP (fun y => eq19 y x) rest = c + (List.countP (fun y => eq19 y x) rest + 1) by omega]
    | false => rw [cond_false, hf, if_neg Bool.false_ne_true, Nat.add_zero]
theorem l10_loop {X : List (Nat → Int)} (hl : X.length ≤ 255) (B T : List (List PV)) (k : Int) (x : Nat → Int) : ∀ rest pre (c : Bool), X = pre ++ rest → l10 (X.map itE) B c k (pre.length : Nat) T x = l10 (X.map itE) B (c || rest.any fun y => eq19 y x) k (X.length : Nat) T x
  | [], pre, c, he => by rw [he, List.append_nil, List.any_nil, Bool.or_false]
  | y :: rest, pre, c, he => by
    obtain ⟨h1, h2, h3, h4, h5⟩ := el_stepM itE he (by omega)
    have ht := l10_loop hl B T k x rest (pre ++ [y]) true h5
    have hf := l10_loop hl B T k x rest (pre ++ [y]) (eq19 y x) h5
    have step : l10 (X.map itE) B c k (pre.length : Nat) T x = bif c then l10 (X.map itE) B true k ((pre ++ [y]).length : Nat) T x else l10 (X.map itE) B (eq19 y x) k ((pre ++ [y]).length : Nat) T x := by
      conv => lhs; unfold l10; rw [w_celluloidlaw22_SceneSteps_L10]
      rw [List.length_map, h1, cond_true, h2, cond_true, h3, h4]
      unfold l10
      rw [List.length_map]
      cases c <;> rfl
    rw [step, List.any_cons]
    cases c with
    | true => rw [cond_true, ht, Bool.true_or, Bool.true_or]
    | false => rw [cond_false, hf, Bool.false_or]
theorem l4_loop {X Y : List (Nat → Int)} (hX : X.length ≤ 255) (hY : Y.length ≤ 255) {T : List Bool} (hT : T.length = 256) (h : ∀ x, x ∈ X → (1 ≤ x 0 ∧ x 0 ≤ 255) ∧ (T.getD (x 0).toNat false = true ∨ (Y.countP fun y => eq19 y x) = 1)) : ∀ rest pre, X = pre ++ rest →
    l4 (X.map itE) (Y.map itE) (pre.length : Nat) (bL T) = l8 (X.map itE) (Y.map itE) 0 (bL T)
  | [], pre, he => by
    unfold l4
    rw [w_celluloidlaw22_SceneSteps_L4]
    simp only [List.length_map, el_end he, cond_false]
    unfold l8
    rw [List.length_map]
  | x :: rest, pre, he => by
    obtain ⟨h1, h2, h3, h4, h5⟩ := el_stepM itE he (by omega)
    have ih := l4_loop hX hY hT h rest (pre ++ [x]) h5
    obtain ⟨⟨b1, b2⟩, hx⟩ := h x (by rw [he]; simp)
    have e1 : l4 (X.map itE) (Y.map itE) (pre.length : Nat) (bL T) = l6 (X.map itE) (Y.map itE) ((0 : Nat) : Int) (pre.length : Nat) (([] : List (Nat → Int)).length : Nat) (bL T) x := by
      conv => lhs; unfold l4; rw [w_celluloidlaw22_SceneSteps_L4]
      rw [List.length_map, h1, cond_true, h2, cond_true, h3]
      unfold l6
      simp only [List.length_map]
      rfl
    rw [e1, l6_loop hY _ _ _ x Y [] 0 rfl (Nat.le_refl _), Nat.zero_add]
    conv => lhs; unfold l6; rw [w_celluloidlaw22_SceneSteps_L6]
    rw [List.length_map, List.length_map, decide_eq_false (by omega), cond_false, decide_eq_false (by omega), cond_false, decide_eq_false (by omega), cond_false, inB_n (by omega) (by rw [bL_len, hT]; omega), cond_true, cond_true, bL_at, h4]
    have key : (bif !(T.getD (x 0).toNat false) then some [PV.b (((Y.countP fun y => eq19 y x : Nat) : Int) != 1)] else some [PV.b false]) = some [PV.b false] := by
      rcases hx with hx | hx
      · rw [hx]; rfl
      · rw [hx]
        cases T.getD (x 0).toNat false <;> rfl
    rw [key]
    unfold l4 at ih
    rw [List.length_map] at ih
    exact ih
theorem l8_loop {X Y : List (Nat → Int)} (hX : X.length ≤ 255) (hY : Y.length ≤ 255) {T : List Bool} (hT : T.length = 256) (h : ∀ y, y ∈ Y → (1 ≤ y 0 ∧ y 0 ≤ 255) ∧ ((X.any fun x => eq19 x y) = true ∨ T.getD (y 0).toNat false = true)) : ∀ rest pre, Y = pre ++ rest →
    l8 (X.map itE) (Y.map itE) (pre.length : Nat) (bL T) = some ([.b true], [])
  | [], pre, he => by
    unfold l8
    rw [w_celluloidlaw22_SceneSteps_L8]
    simp only [List.length_map, el_end he, cond_false, awake22]
    rfl
  | x :: rest, pre, he => by
    obtain ⟨h1, h2, h3, h4, h5⟩ := el_stepM itE he (by omega)
    have ih := l8_loop hX hY hT h rest (pre ++ [x]) h5
    obtain ⟨⟨b1, b2⟩, hx⟩ := h x (by rw [he]; simp)
    have e1 : l8 (X.map itE) (Y.map itE) (pre.length : Nat) (bL T) = l10 (X.map itE) (Y.map itE) false (pre.length : Nat) (([] : List (Nat → Int)).length : Nat) (bL T) x := by
      conv => lhs; unfold l8; rw [w_celluloidlaw22_SceneSteps_L8]
      rw [List.length_map, h1, cond_true, h2, cond_true, h3]
      unfold l10
      simp only [List.length_map]
      rfl
    rw [e1, l10_loop hX _ _ _ x X [] false rfl, Bool.false_or]
    conv => lhs; unfold l10; rw [w_celluloidlaw22_SceneSteps_L10]
    rw [List.length_map, List.length_map, decide_eq_false (by omega), cond_false, decide_eq_false (by omega), cond_false, decide_eq_false (by omega), cond_false, inB_n (by omega) (by rw [bL_len, hT]; omega), cond_true, cond_true, bL_at, h4]
    have key : (bif !(X.any fun y => eq19 y x) then some [PV.b !(T.getD (x 0).toNat false)] else some [PV.b false]) = some [PV.b false] := by
      rcases hx with hx | hx
      · rw [hx]; rfl
      · rw [hx]
        cases X.any fun y => eq19 y x <;> rfl
    rw [key]
    unfold l8 at ih
    rw [List.length_map] at ih
    exact ih
theorem same_depth {pf : PlF} (hk : KeepsD pf) {kd dp : Nat → Int} {pl : Nat → Nat → Int} {n : Nat} {x y : Nat → Int} (hx : x ∈ itemsF pf kd dp pl n) (hy : y ∈ itemsF pf kd dp pl n) (h : y 0 = x 0) : y = x := by
  obtain ⟨d, _, a1, a2⟩ := mem_items.1 hx
  obtain ⟨e, _, b1, b2⟩ := mem_items.1 hy
  have c1 := at_depth hk d n a1
  have c2 := at_depth hk e n b1
  rw [a2] at c1
  rw [b2] at c2
  have : e = d := by rw [← c1, ← c2, h]
  subst this
  rw [← a2, ← b2]
theorem SceneSteps_c {es : List (List PV)} (hz : es.length ≤ 9223372036854775807) (ho : ∀ x, x ∈ es → TagOk x) {f : Int} (f0 : 0 ≤ f) (f1 : f ≤ 255) : cP f_celluloidlaw22_SceneSteps [.l es, .i f] [] = some ([.b true], []) := by
  obtain ⟨out, b, e, hb⟩ := refs_c ho hz
  rw [w_celluloidlaw22_SceneSteps, cP_of e]
  cases b with
  | false =>
    simp only [Option.bind_some, List.getD_cons_zero, List.getD_cons_succ, toB_b, Bool.not_false, cond_true, awake22]
  | true =>
    obtain ⟨_, hn, hR⟩ := hb rfl
    have c1 : IntKind.wrap .i64 f = f := wrap64 (by omega) (by omega)
    have c2 : IntKind.wrap .i64 (f + 1) = f + 1 := wrap64 (by omega) (by omega)
    rw [c1, c2, Items_p (okE_of hn hR (by omega)), Items_p (okE_of hn hR (by omega))]
    simp only [Option.bind_some, List.getD_cons_zero, List.getD_cons_succ, toB_b, toI_i, toL_l, Bool.not_true, cond_false]
    have hp : ∀ k, k < es.length → kdE es k = 26 → 1 ≤ plE es k 1 ∧ plE es k 1 ≤ 255 := fun k hk h26 => by
      obtain ⟨h, us, e, _, d⟩ := tag_at hR hk
      rw [kd_tag h _ e] at h26
      rw [pl_tag h _ e 1 (by decide)]
      exact (d.1 h26).1
    have hd : ∀ k, k < es.length → kdE es k = 28 → 1 ≤ dpE es k ∧ dpE es k ≤ 255 := fun k hk h28 => by
      obtain ⟨h, us, e, _, d⟩ := tag_at hR hk
      rw [kd_tag h _ e] at h28
      rw [dp_tag h _ e]
      exact d.2 h28
    have a0 := l0_loop (by omega) hR f0 f1 ((itemsE es f).map itE) ((itemsE es (f + 1)).map itE) es.length 0 (by omega)
    have a2 := l2_loop (itemsE_len es (f + 1)) (items_rise keeps_place _) ((itemsE es f).map itE) (bL (tchL (kdE es) (dpE es) (plE es) f es.length)) (itemsE es (f + 1)) [] rfl
    have hT := tchL_len (kdE es) (dpE es) (plE es) f es.length
    have touch : ∀ d, 1 ≤ d → d ≤ 255 → (tchL (kdE es) (dpE es) (plE es) f es.length).getD d.toNat false = true ∨ atS placeF (kdE es) (dpE es) (plE es) d (doneN (kdE es) (f + 1) es.length) = atS placeF (kdE es) (dpE es) (plE es) d (doneN (kdE es) f es.length) := fun d h1 h2 => by
      by_cases c : ∃ j, j < es.length ∧ Tch (kdE es) (dpE es) (plE es) f d j
      · exact .inl ((tchL_spec hp hd h1 h2 es.length (Nat.le_refl _)).2 c)
      · exact .inr (stay_next f0 fun j hj ht => c ⟨j, hj, ht⟩)
    have a4 := l4_loop (itemsE_len es f) (itemsE_len es (f + 1)) hT (fun x hx => by
      obtain ⟨d, hd, x1, x2⟩ := mem_items.1 hx
      have x0 := at_depth keeps_place d _ x1
      rw [x2] at x0
      refine ⟨by omega, ?_⟩
      rw [x0]
      refine (touch d hd.1 hd.2).imp id fun t => ?_
      have hx' : x ∈ itemsE es (f + 1) := mem_items.2 ⟨d, hd, by rw [t]; exact x1, by rw [t]; exact x2⟩
      exact countP_one (fun x => x 0) _ x (items_rise keeps_place _) hx' fun y hy => ⟨fun h => eq19_0 h, fun h => by
        rw [same_depth keeps_place hx' hy h]
        exact eq19_refl x⟩) (itemsE es f) [] rfl
    have a8 := l8_loop (itemsE_len es f) (itemsE_len es (f + 1)) hT (fun x hx => by
      obtain ⟨d, hd, x1, x2⟩ := mem_items.1 hx
      have x0 := at_depth keeps_place d _ x1
      rw [x2] at x0
      refine ⟨by omega, ?_⟩
      rw [x0]
      refine (touch d hd.1 hd.2).symm.imp (fun t => ?_) id
      rw [List.any_eq_true]
      exact ⟨x, mem_items.2 ⟨d, hd, by rw [← t]; exact x1, by rw [← t]; exact x2⟩, eq19_refl x⟩) (itemsE es (f + 1)) [] rfl
    exact a0.trans (a2.trans (a4.trans a8))
end Go.AI
set_option linter.unusedVariables false
set_option linter.unusedSimpArgs false
set_option maxRecDepth 100000
namespace Go.AI
open Go Go.Proofs

abbrev LTag : List LTy := [.int .i64, .int .i64, .int .i64, .int .i64, .int .i64, .int .i64, .int .i64, .int .i64, .int .i64, .int .i64, .int .i64, .int .i64, .int .i64, .int .i64, .int .i64, .int .i64, .int .i64, .int .i64, .int .i64, .int .i64, .int .i64, .int .i64, .int .i64, .int .i64, .int .i64, .int .i64, .int .i64, .int .i64, .int .i64, .int .i64, .sl 169, .sl 173, .sl 176, .int .i64, .int .i64, .int .i64, .int .i64, .int .i64, .int .i64, .int .i64, .int .i64, .int .i64, .sl 169, .sl 169, .sl 173, .sl 173, .sl 176, .sl 176, .int .i64, .int .i64, .int .i64, .sl 43, .int .i64, .int .i64, .sl 80]
theorem leafTag2 : leaves Tryz.prog 80 = some LTag := by kernel_rfl
theorem bytesTag : Tryz.prog.bytesOf 80 = 616 := by kernel_rfl
theorem rows_any {P : Program} {ts : List LTy} {t : TypeId} (hl : leaves P t = some ts) {p : PV} (h : PW P (.sl t) p) : ∃ es, p = .l es ∧ (es.length ≤ maxLen ∧ (es.length * P.bytesOf t ≤ reachBytes ∧ ∀ x, x ∈ es → PWL P ts x)) := by
  obtain ⟨es, ts', rfl, h1, h2, h3⟩ := h.sl_of
  rw [hl] at h1
  cases h1
  exact ⟨es, rfl, h2, h.sl_size, h3⟩
theorem tag_of {x : List PV} (h : PWL Tryz.prog LTag x) : ∃ (d : Hd) (L : List (List PV)), x = d.e L ∧ (d.wf ∧ (L.length * 616 ≤ 140737488355328 ∧ ∀ y, y ∈ L → PWL Tryz.prog LTag y)) := by
  obtain ⟨k, q, rfl, wk, h⟩ := int_cons h
  obtain ⟨d, q, rfl, wd, h⟩ := int_cons h
  obtain ⟨c1, q, rfl, wc1, h⟩ := int_cons h
  obtain ⟨c2, q, rfl, wc2, h⟩ := int_cons h
  obtain ⟨c3, q, rfl, wc3, h⟩ := int_cons h
  obtain ⟨c4, q, rfl, wc4, h⟩ := int_cons h
  obtain ⟨p0, q, rfl, wp0, h⟩ := int_cons h
  obtain ⟨p1, q, rfl, wp1, h⟩ := int_cons h
  obtain ⟨p2, q, rfl, wp2, h⟩ := int_cons h
  obtain ⟨p3, q, rfl, wp3, h⟩ := int_cons h
  obtain ⟨p4, q, rfl, wp4, h⟩ := int_cons h
  obtain ⟨p5, q, rfl, wp5, h⟩ := int_cons h
  obtain ⟨p6, q, rfl, wp6, h⟩ := int_cons h
  obtain ⟨p7, q, rfl, wp7, h⟩ := int_cons h
  obtain ⟨p8, q, rfl, wp8, h⟩ := int_cons h
  obtain ⟨p9, q, rfl, wp9, h⟩ := int_cons h
  obtain ⟨p10, q, rfl, wp10, h⟩ := int_cons h
  obtain ⟨p11, q, rfl, wp11, h⟩ := int_cons h
  obtain ⟨p12, q, rfl, wp12, h⟩ := int_cons h
  obtain ⟨p13, q, rfl, wp13, h⟩ := int_cons h
  obtain ⟨p14, q, rfl, wp14, h⟩ := int_cons h
  obtain ⟨p15, q, rfl, wp15, h⟩ := int_cons h
  obtain ⟨p16, q, rfl, wp16, h⟩ := int_cons h
  obtain ⟨p17, q, rfl, wp17, h⟩ := int_cons h
  obtain ⟨p18, q, rfl, wp18, h⟩ := int_cons h
  obtain ⟨i, q, rfl, wi, h⟩ := int_cons h
  obtain ⟨b1, q, rfl, wb1, h⟩ := int_cons h
  obtain ⟨b2, q, rfl, wb2, h⟩ := int_cons h
  obtain ⟨b3, q, rfl, wb3, h⟩ := int_cons h
  obtain ⟨b4, q, rfl, wb4, h⟩ := int_cons h
  obtain ⟨f, q, rfl, lf, wf, h⟩ := sl_cons (e := Fill.e) (wf := Fill.wf) (t := 169) (by kernel_rfl) (fill_of (t := 231) (by kernel_rfl)) h
  obtain ⟨s, q, rfl, ls, ws, h⟩ := sl_cons (e := Strk.e) (wf := Strk.wf) (t := 173) (by kernel_rfl) strk_of h
  obtain ⟨r, q, rfl, lr, wr, h⟩ := sl_cons (e := Rec.e) (wf := Rec.wf) (t := 176) (by kernel_rfl) (rec_of (f := 169) (t := 173) (k := 231) (by kernel_rfl) (by kernel_rfl) (by kernel_rfl)) h
  obtain ⟨n, q, rfl, wn, h⟩ := int_cons h
  obtain ⟨g1, q, rfl, wg1, h⟩ := int_cons h
  obtain ⟨g2, q, rfl, wg2, h⟩ := int_cons h
  obtain ⟨g3, q, rfl, wg3, h⟩ := int_cons h
  obtain ⟨g4, q, rfl, wg4, h⟩ := int_cons h
  obtain ⟨o1, q, rfl, wo1, h⟩ := int_cons h
  obtain ⟨o2, q, rfl, wo2, h⟩ := int_cons h
  obtain ⟨o3, q, rfl, wo3, h⟩ := int_cons h
  obtain ⟨o4, q, rfl, wo4, h⟩ := int_cons h
  obtain ⟨mf, q, rfl, lmf, wmf, h⟩ := sl_cons (e := Fill.e) (wf := Fill.wf) (t := 169) (by kernel_rfl) (fill_of (t := 231) (by kernel_rfl)) h
  obtain ⟨mg, q, rfl, lmg, wmg, h⟩ := sl_cons (e := Fill.e) (wf := Fill.wf) (t := 169) (by kernel_rfl) (fill_of (t := 231) (by kernel_rfl)) h
  obtain ⟨ms, q, rfl, lms, wms, h⟩ := sl_cons (e := Strk.e) (wf := Strk.wf) (t := 173) (by kernel_rfl) strk_of h
  obtain ⟨mt, q, rfl, lmt, wmt, h⟩ := sl_cons (e := Strk.e) (wf := Strk.wf) (t := 173) (by kernel_rfl) strk_of h
  obtain ⟨mr, q, rfl, lmr, wmr, h⟩ := sl_cons (e := Rec.e) (wf := Rec.wf) (t := 176) (by kernel_rfl) (rec_of (f := 169) (t := 173) (k := 231) (by kernel_rfl) (by kernel_rfl) (by kernel_rfl)) h
  obtain ⟨mv, q, rfl, lmv, wmv, h⟩ := sl_cons (e := Rec.e) (wf := Rec.wf) (t := 176) (by kernel_rfl) (rec_of (f := 169) (t := 173) (k := 231) (by kernel_rfl) (by kernel_rfl) (by kernel_rfl)) h
  obtain ⟨bi, q, rfl, wbi, h⟩ := int_cons h
  obtain ⟨bw, q, rfl, wbw, h⟩ := int_cons h
  obtain ⟨bh, q, rfl, wbh, h⟩ := int_cons h
  obtain ⟨p, q, rfl, hp, h2⟩ := h.cons
  clear h
  obtain ⟨px, rfl, lpx, _, _⟩ := rows_any (ts := (leaves Tryz.prog 43).getD []) (by kernel_rfl) hp
  have h := h2
  clear h2
  obtain ⟨si, q, rfl, wsi, h⟩ := int_cons h
  obtain ⟨sf, q, rfl, wsf, h⟩ := int_cons h
  obtain ⟨p, q, rfl, hp, h2⟩ := h.cons
  obtain ⟨L, rfl, _, hz, hL⟩ := rows_any leafTag2 hp
  obtain rfl := h2.nil
  rw [bytesTag] at hz
  refine ⟨⟨k, d, (c1, c2, c3, c4), fun j => [p0, p1, p2, p3, p4, p5, p6, p7, p8, p9, p10, p11, p12, p13, p14, p15, p16, p17, p18].getD j 0, (i, (b1, b2, b3, b4), f, s, r), ⟨n, (g1, g2, g3, g4), (o1, o2, o3, o4), mf, mg, ms, mt, mr, mv⟩, bi, bw, bh, px, si, sf⟩, L, rfl, ?_, Nat.le_trans hz (by decide), hL⟩
  refine ⟨wk, wd, fun j hj => ?_, lf, fun x hx => (wf x hx).2.2.2.2.1, ls, lr, fun x hx => (wr x hx).1, ⟨lmf, lmg, lmr, lmv, fun x hx => (wmr x hx).1, fun x hx => (wmv x hx).1⟩, lpx⟩
  refine cases19 (p := fun j => I64 ([p0, p1, p2, p3, p4, p5, p6, p7, p8, p9, p10, p11, p12, p13, p14, p15, p16, p17, p18].getD j 0)) ?_ j hj
  exact ⟨wp0, wp1, wp2, wp3, wp4, wp5, wp6, wp7, wp8, wp9, wp10, wp11, wp12, wp13, wp14, wp15, wp16, wp17, wp18⟩
theorem tags_of {p : PV} (h : PW Tryz.prog (.sl 80) p) : ∃ es, p = .l es ∧ (es.length ≤ 9223372036854775807 ∧ ∀ x, x ∈ es → TagOk x) := by
  obtain ⟨es, rfl, h1, _, h2⟩ := rows_any leafTag2 h
  refine ⟨es, rfl, h1, fun x hx => ?_⟩
  obtain ⟨d, L, e, w, hl, hL⟩ := tag_of (h2 x hx)
  refine ⟨d, L, e, w, hl, fun y hy => ?_⟩
  obtain ⟨u, M, e, w, _, _⟩ := tag_of (hL y hy)
  exact ⟨u, M, e, w⟩
end Go.AI
