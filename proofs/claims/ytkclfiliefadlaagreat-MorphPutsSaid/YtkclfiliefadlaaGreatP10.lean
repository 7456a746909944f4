/- Morphs: what is right. -/
import Derived.Test.YtkclfiliefadlaaGreatU10
import Derived.Test.YtkclfiliefadlaaGreatP09
import Derived.Test.YtkclfiliefadlaaGreatP02
import Derived.Test.YtkclfiliefadlaaGreatW
import Derived.Test.YtkclfiliefadlaaGreatP08
set_option linter.unusedVariables false
set_option linter.unusedSimpArgs false
set_option maxRecDepth 100000
namespace Go.AI
open Go Go.Proofs

structure Mor where
  id : Int
  fr : I4
  to : I4
  fills : List Fill
  tofl : List Fill
  strks : List Strk
  tost : List Strk
  recs : List Rec
  targ : List Rec
def Mor.e (m : Mor) : List PV := [.i m.id, .i m.fr.1, .i m.fr.2.1, .i m.fr.2.2.1, .i m.fr.2.2.2, .i m.to.1, .i m.to.2.1, .i m.to.2.2.1, .i m.to.2.2.2, .l (m.fills.map Fill.e), .l (m.tofl.map Fill.e), .l (m.strks.map Strk.e), .l (m.tost.map Strk.e), .l (m.recs.map Rec.e), .l (m.targ.map Rec.e)]
/-- short enough -/
structure Mor.sh (m : Mor) : Prop where
  f : m.fills.length ≤ 2 ^ 40
  tf : m.tofl.length ≤ 2 ^ 40
  ff : Shorts m.fills
  tff : Shorts m.tofl
  s : m.strks.length ≤ 2 ^ 40
  ts : m.tost.length ≤ 2 ^ 40
  r : m.recs.length ≤ 2 ^ 40
  t : m.targ.length ≤ 2 ^ 40
  rr : Shs m.recs
  tt : Shs m.targ
def pairB (a b : Fill) : Bool := (a.kind == b.kind) && ((a.spread == b.spread) && ((a.id == b.id) && (((a.stops.length : Nat) : Int) == ((b.stops.length : Nat) : Int))))
def pairsB : List Fill → List Fill → Bool
  | [], [] => true
  | a :: l, b :: m => pairB a b && pairsB l m
  | _, _ => false
def frB4 (c : I4) : Bool := rectB c.1 c.2.1 c.2.2.1 c.2.2.2
def right10 (m : Mor) : Bool := decide (m.id ≥ 0) && (decide (m.id < 65536) && (frB4 m.fr && (frB4 m.to && (listsB m.fills m.strks && (listsB m.tofl m.tost && (pairsB m.fills m.tofl && ((((m.strks.length : Nat) : Int) == ((m.tost.length : Nat) : Int)) && (rightRecs (m.fills.length : Nat) (m.strks.length : Nat) m.recs 1 && rightRecs 0 0 m.targ 2))))))))
theorem pair_c (a b : Fill) : cW f_q205 (a.e ++ b.e) [] = some ([.b (pairB a b)], []) := by
  simp only [Fill.e, List.cons_append, List.nil_append]
  rw [w_q205]
  simp only [zcf]
  rfl
theorem pairs_loop {l m : List Fill} (hl : l.length ≤ 2 ^ 40) : ∀ (r r' p p' : List Fill), l = p ++ r → m = p' ++ r' → p.length = p'.length → r.length = r'.length →
    rW f_q6 [] at_q3 (S_q3 (m.map Fill.e) (l.map Fill.e) l.length p.length) = some ([.b (pairsB r r')], [])
  | [], [], p, p', h, h', hp, hr => by
    rw [w_q3]; simp only [el_end h, zcf]; rfl
  | [], y :: r', p, p', h, h', hp, hr => by simp at hr
  | x :: r, [], p, p', h, h', hp, hr => by simp at hr
  | x :: r, y :: r', p, p', h, h', hp, hr => by
    have hm : m.length ≤ 2 ^ 40 := by rw [h']; rw [h] at hl; simp at hl hr ⊢; omega
    obtain ⟨h1, h2, h3, h4, h5⟩ := el_step Fill.e h hl
    obtain ⟨_, k2, k3, _, k5⟩ := el_step Fill.e h' hm
    rw [← hp] at k2 k3
    have e := pair_c x y
    simp only [Fill.e, List.cons_append, List.nil_append] at e
    rw [w_q3]
    simp only [h1, h2, h3, h4, k2, k3, Fill.e, e, pairsB, zcf]
    cases pairB x y with
    | false => simp only [zq17, zq5, zq11]
    | true =>
      rw [Bool.not_true, cond_false, Bool.true_and]
      exact pairs_loop hl r r' _ _ h5 k5 (by simp [hp]) (by simpa using hr)
theorem pairsB_len : ∀ {l m : List Fill}, pairsB l m = true → l.length = m.length
  | [], [], _ => rfl
  | a :: l, b :: m, h => by
    unfold pairsB at h
    rw [Bool.and_eq_true] at h
    simp [pairsB_len h.2]
  | [], b :: m, h => by cases h
  | a :: l, [], h => by cases h
theorem pairsB_ne {l m : List Fill} (h : l.length ≠ m.length) : pairsB l m = false := by
  cases e : pairsB l m with
  | false => rfl
  | true => exact absurd (pairsB_len e) h
theorem pairs_c {l m : List Fill} (hl : l.length ≤ 2 ^ 40) : cW f_q6 [.l (l.map Fill.e), .l (m.map Fill.e), .f f_q205 0] [] = some ([.b (pairsB l m)], []) := by
  rw [w_q6]
  simp only [zq7]
  by_cases h : l.length = m.length
  · rw [show (((l.length : Nat) : Int) != ((m.length : Nat) : Int)) = false by simp [h], cond_false]
    exact pairs_loop hl l m [] [] rfl rfl rfl h
  · rw [show (((l.length : Nat) : Int) != ((m.length : Nat) : Int)) = true by simp [h]; omega, cond_true, pairsB_ne h]
theorem Right10_c (m : Mor) (h : m.sh) : cW f_q209 m.e [] = some ([.b (right10 m)], []) := by
  unfold Mor.e
  rw [w_q209]
  simp only [(rightRect_ans _ _ _ _).c, right_c h.f h.s h.ff, right_c h.tf h.ts h.tff, pairs_c h.f, rightRecs_c h.r h.rr, rightRecs_c h.t h.tt, zcf]
  unfold right10 frB4
  rfl
/-- the document's -/
theorem qpairs_loop (m : Mor) (hl : m.fills.length ≤ 2 ^ 40) (b : Bool)
    (hb : ((bif listsB m.fills m.strks then some [PV.b (listsB m.tofl m.tost)] else some [PV.b false]).bind fun r7 =>
      (bif (r7.getD 0 PV.u).toB then (bif rightRecs (m.fills.length : Nat) (m.strks.length : Nat) m.recs 1 then some [PV.b (rightRecs 0 0 m.targ 2)] else some [PV.b false]) else some [PV.b false]).bind fun r10 => some ([PV.b (r10.getD 0 PV.u).toB], ([] : List BX))) = some ([PV.b b], []))
    (h : m.sh) : ∀ (r r' p p' : List Fill), m.fills = p ++ r → m.tofl = p' ++ r' → p.length = p'.length → r.length = r'.length →
    rW f_q139 [] at_q89 (S_q89 p.length m.id m.fr.1 m.fr.2.1 m.fr.2.2.1 m.fr.2.2.2 m.to.1 m.to.2.1 m.to.2.2.1 m.to.2.2.2 (m.fills.map Fill.e) (m.tofl.map Fill.e) (m.strks.map Strk.e) (m.tost.map Strk.e) (m.recs.map Rec.e) (m.targ.map Rec.e)) = some ([.b (pairsB r r' && b)], [])
  | [], [], p, p', h1, h', hp, hr => by
    rw [w_q89]
    simp only [el_end h1, qRight_c h.f h.s h.ff, qRight_c h.tf h.ts h.tff, qRecords_c h.r h.rr, qRecords_c h.t h.tt, zcf]
    simp only [zcf] at hb
    rw [hb]; rfl
  | [], y :: r', p, p', h1, h', hp, hr => by simp at hr
  | x :: r, [], p, p', h1, h', hp, hr => by simp at hr
  | x :: r, y :: r', p, p', hh, h', hp, hr => by
    have hm : m.tofl.length ≤ 2 ^ 40 := h.tf
    obtain ⟨h1, h2, h3, h4, h5⟩ := el_step Fill.e hh hl
    obtain ⟨_, k2, k3, _, k5⟩ := el_step Fill.e h' hm
    rw [← hp] at k2 k3
    rw [w_q89]
    simp only [h1, h2, h3, h4, k2, k3, Fill.e, zcf]
    have e : ((x.kind != y.kind) || ((x.spread != y.spread) || ((x.id != y.id) || (((x.stops.length : Nat) : Int) != ((y.stops.length : Nat) : Int))))) = !pairB x y := by
      unfold pairB; simp only [bne, Bool.not_and]
    rw [e]
    unfold pairsB
    cases pairB x y with
    | false => simp only [zq17, zq5, zq11]
    | true =>
      rw [Bool.not_true, cond_false, Bool.true_and]
      exact qpairs_loop m hl b hb h r r' _ _ h5 k5 (by simp [hp]) (by simpa using hr)
theorem qRight10_c (m : Mor) (h : m.sh) : cW f_q139 m.e [] = some ([.b (right10 m)], []) := by
  unfold Mor.e
  rw [w_q139]
  simp only [(qRect_ans _ _ _ _).c, zcf]
  have e1 : (decide (m.id < 0)) = !decide (m.id ≥ 0) := by rw [Bool.eq_iff_iff]; simp
  have e2 : (decide (m.id > 65535)) = !decide (m.id < 65536) := by rw [Bool.eq_iff_iff]; simp; omega
  rw [e1, e2]
  unfold right10 frB4
  cases c1 : decide (m.id ≥ 0) with
  | false => rfl
  | true =>
    cases c2 : decide (m.id < 65536) with
    | false => rfl
    | true =>
      cases c3 : rectB m.fr.1 m.fr.2.1 m.fr.2.2.1 m.fr.2.2.2 with
      | false => rfl
      | true =>
        cases c4 : rectB m.to.1 m.to.2.1 m.to.2.2.1 m.to.2.2.2 with
        | false => rfl
        | true =>
          by_cases hn : m.fills.length = m.tofl.length
          · by_cases hs : m.strks.length = m.tost.length
            · have e3 : (((m.fills.length : Nat) : Int) != ((m.tofl.length : Nat) : Int)) = false := by simp [hn]
              have e4 : (((m.strks.length : Nat) : Int) != ((m.tost.length : Nat) : Int)) = false := by simp [hs]
              have e5 : (((m.strks.length : Nat) : Int) == ((m.tost.length : Nat) : Int)) = true := by simp [hs]
              simp only [e3, e4, e5, zbc, zcf]
              have key := qpairs_loop m h.f (listsB m.fills m.strks && (listsB m.tofl m.tost && (rightRecs (m.fills.length : Nat) (m.strks.length : Nat) m.recs 1 && rightRecs 0 0 m.targ 2))) (by
                cases listsB m.fills m.strks <;> cases listsB m.tofl m.tost <;> cases rightRecs (m.fills.length : Nat) (m.strks.length : Nat) m.recs 1 <;> rfl) h m.fills m.tofl [] [] rfl rfl rfl hn
              refine Eq.trans key ?_
              cases listsB m.fills m.strks <;> cases listsB m.tofl m.tost <;> cases pairsB m.fills m.tofl <;> cases rightRecs (m.fills.length : Nat) (m.strks.length : Nat) m.recs 1 <;> rfl
            · have e3 : (((m.fills.length : Nat) : Int) != ((m.tofl.length : Nat) : Int)) = false := by simp [hn]
              have e4 : (((m.strks.length : Nat) : Int) != ((m.tost.length : Nat) : Int)) = true := by simp; omega
              have e5 : (((m.strks.length : Nat) : Int) == ((m.tost.length : Nat) : Int)) = false := by simp; omega
              simp only [e3, e4, e5, zbc, zcf]
          · have e3 : (((m.fills.length : Nat) : Int) != ((m.tofl.length : Nat) : Int)) = true := by simp; omega
            simp only [e3, pairsB_ne hn, zbc, zcf]
end Go.AI
set_option linter.unusedVariables false
set_option linter.unusedSimpArgs false
set_option maxRecDepth 100000
namespace Go.AI
open Go Go.Proofs

abbrev P2 (α : Type) := (α × α) × Rs
def rc (σ : Rs) : I4 × Rs := if σ.2.2 ≠ 0 then ((0, 0, 0, 0), σ) else takeRectF (beginP σ.1 σ.2.1)
def rcs (σ : Rs) (f s kind : Int) : List Rec × Rs := if σ.2.2 ≠ 0 then ([], σ) else takeRecsF σ.1 σ.2.1 f s kind
theorem rc_len {σ : Rs} (h : LenOk σ) : LenOk (rc σ).2 := by
  unfold rc
  split
  · exact h
  · exact rect_len (begin_len h _).1
theorem mlit_c {σ : Rs} (h : LenOk σ) (n : Int) : cW f_q26 [.u, .i n] [(t_q2, [.s σ.1, .i σ.2.1, .i σ.2.2])] = some ([.i (lit σ n).1], [(t_q2, [.s (lit σ n).2.1, .i (lit σ n).2.2.1, .i (lit σ n).2.2.2])]) := by
  rw [w_q26]
  unfold lit
  by_cases he : σ.2.2 = 0
  · rw [show (σ.2.2 != 0) = false by simp [he], (little_ans h σ.2.1 n).c, if_neg (by simp [he])]
    rfl
  · rw [show (σ.2.2 != 0) = true by simp [he], if_pos he]; rfl
theorem mcol_c {σ : Rs} (h : LenOk σ) : cW f_q59 [.u] [(t_q2, [.s σ.1, .i σ.2.1, .i σ.2.2])] = some ([.i (col σ).1.1, .i (col σ).1.2.1, .i (col σ).1.2.2.1, .i (col σ).1.2.2.2], [(t_q2, [.s (col σ).2.1, .i (col σ).2.2.1, .i (col σ).2.2.2])]) := by
  rw [w_q59]
  unfold col
  by_cases he : σ.2.2 = 0
  · rw [show (σ.2.2 != 0) = false by simp [he], (takeK_ans h σ.2.1).c, if_neg (by simp [he])]
    rfl
  · rw [show (σ.2.2 != 0) = true by simp [he], if_pos he]; rfl
theorem mmt_c {σ : Rs} (h : LenOk σ) : cW f_q52 [.u] [(t_q2, [.s σ.1, .i σ.2.1, .i σ.2.2])] = some ([.i (mt σ).1.1, .i (mt σ).1.2.1, .i (mt σ).1.2.2.1, .i (mt σ).1.2.2.2.1, .i (mt σ).1.2.2.2.2.1, .i (mt σ).1.2.2.2.2.2], [(t_q2, [.s (mt σ).2.1, .i (mt σ).2.2.1, .i (mt σ).2.2.2])]) := by
  rw [w_q52]
  unfold mt
  by_cases he : σ.2.2 = 0
  · rw [show (σ.2.2 != 0) = false by simp [he], (takeMat_ans h σ.2.1).c, if_neg (by simp [he])]
    rfl
  · rw [show (σ.2.2 != 0) = true by simp [he], if_pos he]; rfl
theorem mfail_c (σ : Rs) (e : Int) : cW f_q61 [.u, .i e] [(t_q2, [.s σ.1, .i σ.2.1, .i σ.2.2])] = some ([], [(t_q2, [.s (failR σ e).1, .i (failR σ e).2.1, .i (failR σ e).2.2])]) := by
  rw [w_q61]
  unfold failR
  by_cases he : σ.2.2 = 0
  · rw [show (σ.2.2 == 0) = true by simp [he], if_pos he]; rfl
  · rw [show (σ.2.2 == 0) = false by simp [he], if_neg he]; rfl
theorem mrc_c {σ : Rs} (h : LenOk σ) : cW f_q136 [.u] [(t_q2, [.s σ.1, .i σ.2.1, .i σ.2.2])] = some ([.i (rc σ).1.1, .i (rc σ).1.2.1, .i (rc σ).1.2.2.1, .i (rc σ).1.2.2.2], [(t_q2, [.s (rc σ).2.1, .i (rc σ).2.2.1, .i (rc σ).2.2.2])]) := by
  rw [w_q136]
  unfold rc
  by_cases he : σ.2.2 = 0
  · rw [show (σ.2.2 != 0) = false by simp [he], (takeRect_ans h σ.2.1).c, if_neg (by simp [he])]
    rfl
  · rw [show (σ.2.2 != 0) = true by simp [he], if_pos he]; rfl
theorem mrcs_c {σ : Rs} (h : LenOk σ) (f s kind : Int) : cW f_q124 [.u, .i f, .i s, .i kind] [(t_q2, [.s σ.1, .i σ.2.1, .i σ.2.2])] = some ([.l ((rcs σ f s kind).1.map Rec.e)], [(t_q2, [.s (rcs σ f s kind).2.1, .i (rcs σ f s kind).2.2.1, .i (rcs σ f s kind).2.2.2])]) := by
  rw [w_q124]
  unfold rcs
  by_cases he : σ.2.2 = 0
  · rw [show (σ.2.2 != 0) = false by simp [he], TakeRecords_c h, if_neg (by simp [he])]
    rfl
  · rw [show (σ.2.2 != 0) = true by simp [he], if_pos he]; rfl
theorem mmany_c {σ : Rs} (h : LenOk σ) : cW f_q137 [.u] [(t_q2, [.s σ.1, .i σ.2.1, .i σ.2.2])] = some ([.i (manyP σ).1], [(t_q2, [.s (manyP σ).2.1, .i (manyP σ).2.2.1, .i (manyP σ).2.2.2])]) := by
  rw [w_q137]
  unfold manyP
  simp only [mlit_c h, zcf]
  cases decide ((lit σ 1).1 > 15)
  · rfl
  · simp only [mfail_c, zcf]
/-! ### stops -/
def ps1 (u v : Int) (σ : Rs) : P2 Stop :=
  let r := lit σ 1
  let c := col r.2
  let q := lit c.2 1
  let d := col (bif (q.2.2.2 == 0) && (decide (r.1 < u) || decide (q.1 < v)) then failR q.2 3 else q.2)
  ((⟨r.1, c.1⟩, ⟨q.1, d.1⟩), d.2)
def psP : Nat → Int → Int → Rs → (List Stop × List Stop) × Rs
  | 0, _, _, σ => (([], []), σ)
  | n + 1, u, v, σ => let a := ps1 u v σ; let b := psP n a.1.1.ratio a.1.2.ratio a.2; ((a.1.1 :: b.1.1, a.1.2 :: b.1.2), b.2)
theorem ps1_len {u v : Int} {σ : Rs} (h : LenOk σ) : LenOk (ps1 u v σ).2 := by
  unfold ps1
  dsimp only
  apply col_len
  have h3 := lit_len (col_len (lit_len h 1)) 1
  cases ((lit (col (lit σ 1).2).2 1).2.2.2 == 0) && (decide ((lit σ 1).1 < u) || decide ((lit (col (lit σ 1).2).2 1).1 < v))
  · exact h3
  · exact fail_len h3 3
theorem psP_len : ∀ (n : Nat) (u v : Int) (σ : Rs), LenOk σ → LenOk (psP n u v σ).2
  | 0, _, _, _, h => h
  | n + 1, u, v, σ, h => psP_len n _ _ _ (ps1_len h)
theorem loopM1 {n : Nat} (hn : n ≤ 15) (b1 b2 b3 b4 b5 b6 b7 b8 b9 b10 b11 b12 b13 d1 d2 d3 d4 d5 d6 d7 d8 d9 d10 d11 d12 d13 : Int) : ∀ (j i : Nat) (pre qre : List Stop) (u v : Int) (σ : Rs), i + j = n → pre.length = i → qre.length = i → LenOk σ →
    rW f_q28 [t_q2] at_q7 (S_q7 u v n i σ.1 σ.2.1 σ.2.2 [] 0 0 0 0 0 0 0 0 0 0 0 0 0 [] 0 0 0 0 0 0 0 0 0 0 0 0 0 (pre.map Stop.e) b1 b2 b3 b4 b5 b6 b7 b8 b9 b10 b11 b12 b13 (qre.map Stop.e) d1 d2 d3 d4 d5 d6 d7 d8 d9 d10 d11 d12 d13) =
      some ([.i b1, .i b2, .i b3, .i b4, .i b5, .i b6, .i b7, .i b8, .i b9, .i b10, .i b11, .i b12, .l ((pre ++ (psP j u v σ).1.1).map Stop.e), .i b13, .i d1, .i d2, .i d3, .i d4, .i d5, .i d6, .i d7, .i d8, .i d9, .i d10, .i d11, .i d12, .l ((qre ++ (psP j u v σ).1.2).map Stop.e), .i d13], [(t_q2, [.s (psP j u v σ).2.1, .i (psP j u v σ).2.2.1, .i (psP j u v σ).2.2.2])])
  | 0, i, pre, qre, u, v, σ, hi, hp, hq, hσ => by
    obtain rfl : i = n := hi
    rw [w_q7, decide_eq_false (by omega)]
    simp only [psP, List.append_nil, zbc, zcf]
  | j + 1, i, pre, qre, u, v, σ, hi, hp, hq, hσ => by
    obtain ⟨h1, h2⟩ := step_i (i := i) (n := n) (by omega) (by omega)
    have l1 := lit_len hσ 1
    have l2 := col_len l1
    have l3 := lit_len l2 1
    have ih := loopM1 hn b1 b2 b3 b4 b5 b6 b7 b8 b9 b10 b11 b12 b13 d1 d2 d3 d4 d5 d6 d7 d8 d9 d10 d11 d12 d13 j (i + 1) (pre ++ [(ps1 u v σ).1.1]) (qre ++ [(ps1 u v σ).1.2]) (ps1 u v σ).1.1.ratio (ps1 u v σ).1.2.ratio (ps1 u v σ).2 (by omega) (by simp [hp]) (by simp [hq]) (ps1_len hσ)
    have room : (pre.length + 1001) * 41 ≤ 1099511627776 := by omega
    have room2 : (qre.length + 1001) * 41 ≤ 1099511627776 := by omega
    rw [w_q7]
    simp only [h1, h2, mlit_c hσ, mcol_c l1, mlit_c l2, room1 _ _ room, zbc, zcf]
    have fin : ∀ τ : Rs, ps1 u v σ = ((⟨(lit σ 1).1, (col (lit σ 1).2).1⟩, ⟨(lit (col (lit σ 1).2).2 1).1, (col τ).1⟩), (col τ).2) → LenOk τ →
        rW f_q28 [t_q2] at_q7 (S_q7 (lit σ 1).1 (lit (col (lit σ 1).2).2 1).1 n ((i + 1 : Nat) : Int) (col τ).2.1 (col τ).2.2.1 (col τ).2.2.2 [] 0 0 0 0 0 0 0 0 0 0 0 0 0 [] 0 0 0 0 0 0 0 0 0 0 0 0 0
          (pre.map Stop.e ++ List.set [[PV.i 0, PV.i 0, PV.i 0, PV.i 0, PV.i 0]] 0 [PV.i (lit σ 1).1, PV.i (col (lit σ 1).2).1.1, PV.i (col (lit σ 1).2).1.2.1, PV.i (col (lit σ 1).2).1.2.2.1, PV.i (col (lit σ 1).2).1.2.2.2]) b1 b2 b3 b4 b5 b6 b7 b8 b9 b10 b11 b12 b13
          (qre.map Stop.e ++ List.set [[PV.i 0, PV.i 0, PV.i 0, PV.i 0, PV.i 0]] 0 [PV.i (lit (col (lit σ 1).2).2 1).1, PV.i (col τ).1.1, PV.i (col τ).1.2.1, PV.i (col τ).1.2.2.1, PV.i (col τ).1.2.2.2]) d1 d2 d3 d4 d5 d6 d7 d8 d9 d10 d11 d12 d13) =
        some ([.i b1, .i b2, .i b3, .i b4, .i b5, .i b6, .i b7, .i b8, .i b9, .i b10, .i b11, .i b12, .l ((pre ++ (psP (j + 1) u v σ).1.1).map Stop.e), .i b13, .i d1, .i d2, .i d3, .i d4, .i d5, .i d6, .i d7, .i d8, .i d9, .i d10, .i d11, .i d12, .l ((qre ++ (psP (j + 1) u v σ).1.2).map Stop.e), .i d13], [(t_q2, [.s (psP (j + 1) u v σ).2.1, .i (psP (j + 1) u v σ).2.2.1, .i (psP (j + 1) u v σ).2.2.2])]) := by
      intro τ e hτ
      rw [e] at ih
      rw [stops_row pre ⟨(lit σ 1).1, (col (lit σ 1).2).1⟩, stops_row qre ⟨(lit (col (lit σ 1).2).2 1).1, (col τ).1⟩, ih]
      simp only [psP, e, List.append_assoc, List.cons_append, List.nil_append]
    have hdef : ∀ b : Bool, b = ((lit (col (lit σ 1).2).2 1).2.2.2 == 0 && (decide ((lit σ 1).1 < u) || decide ((lit (col (lit σ 1).2).2 1).1 < v))) → ps1 u v σ = ((⟨(lit σ 1).1, (col (lit σ 1).2).1⟩, ⟨(lit (col (lit σ 1).2).2 1).1, (col (bif b then failR (lit (col (lit σ 1).2).2 1).2 3 else (lit (col (lit σ 1).2).2 1).2)).1⟩), (col (bif b then failR (lit (col (lit σ 1).2).2 1).2 3 else (lit (col (lit σ 1).2).2 1).2)).2) := by rintro b rfl; rfl
    cases hb : ((lit (col (lit σ 1).2).2 1).2.2.2 == 0 && (decide ((lit σ 1).1 < u) || decide ((lit (col (lit σ 1).2).2 1).1 < v))) with
    | true =>
      simp only [mfail_c, mcol_c (fail_len l3 3), room1 _ _ room2, zbc, zcf]
      exact fin _ (hdef true hb.symm) (fail_len l3 3)
    | false =>
      simp only [mcol_c l3, room1 _ _ room2, zbc, zcf]
      exact fin _ (hdef false hb.symm) l3
/-! ### a pair -/
def pfP (σ : Rs) : P2 Fill :=
  let r := lit σ 1
  bif kindS r.1 then ((⟨r.1, (col r.2).1, (0, 0, 0, 0, 0, 0), 0, [], 0⟩, ⟨r.1, (col (col r.2).2).1, (0, 0, 0, 0, 0, 0), 0, [], 0⟩), (col (col r.2).2).2)
  else bif kindP r.1 then
    let i := lit r.2 2
    ((⟨r.1, (0, 0, 0, 0), (mt i.2).1, 0, [], i.1⟩, ⟨r.1, (0, 0, 0, 0), (mt (mt i.2).2).1, 0, [], i.1⟩), (mt (mt i.2).2).2)
  else bif kindG r.1 then
    let m := mt r.2
    let k := mt m.2
    let n := (lit k.2 1).1
    let st := psP (n % 16).toNat 0 0 (gradS k.2)
    ((⟨r.1, (0, 0, 0, 0), m.1, n / 64, st.1.1, 0⟩, ⟨r.1, (0, 0, 0, 0), k.1, n / 64, st.1.2, 0⟩), st.2)
  else ((⟨r.1, (0, 0, 0, 0), (0, 0, 0, 0, 0, 0), 0, [], 0⟩, ⟨r.1, (0, 0, 0, 0), (0, 0, 0, 0, 0, 0), 0, [], 0⟩), failR r.2 3)
theorem pfP_len {σ : Rs} (h : LenOk σ) : LenOk (pfP σ).2 := by
  have h1 := lit_len h 1
  unfold pfP
  dsimp only
  cases kindS (lit σ 1).1
  · cases kindP (lit σ 1).1
    · cases kindG (lit σ 1).1
      · exact fail_len h1 3
      · exact psP_len _ _ _ _ (gradS_len (mt_len (mt_len h1)))
    · exact mt_len (mt_len (lit_len h1 2))
  · exact col_len (col_len h1)
theorem pfP_c {σ : Rs} (h : LenOk σ) : cW f_q28 [.u] [(t_q2, [.s σ.1, .i σ.2.1, .i σ.2.2])] = some ((pfP σ).1.1.e ++ (pfP σ).1.2.e, [(t_q2, [.s (pfP σ).2.1, .i (pfP σ).2.2.1, .i (pfP σ).2.2.2])]) := by
  have h1 := lit_len h 1
  rw [w_q28]
  unfold pfP
  simp only [mlit_c h, zcf]
  show (bif kindS (lit σ 1).1 then _ else _) = _
  cases ks : kindS (lit σ 1).1 with
  | true => simp only [mcol_c h1, mcol_c (col_len h1), Fill.e, List.map_nil, List.cons_append, List.nil_append, zcf]
  | false =>
    simp only [zq6]
    have grad : kindG (lit σ 1).1 = true → ∀ b : Bool, b = badN (lit (mt (mt (lit σ 1).2).2).2 1).1 →
        ((bif (lit (mt (mt (lit σ 1).2).2).2 1).2.2.2 == 0 then some [PV.b b] else some [PV.b false]).bind fun r13 =>
          (bif (r13.getD 0 PV.u).toB then (cW f_q61 [.u, .i 3] [(t_q2, [.s (lit (mt (mt (lit σ 1).2).2).2 1).2.1, .i (lit (mt (mt (lit σ 1).2).2).2 1).2.2.1, .i (lit (mt (mt (lit σ 1).2).2).2 1).2.2.2])]).bind fun r14 =>
              rW f_q28 [t_q2] at_q7 (S_q7 0 0 ((lit (mt (mt (lit σ 1).2).2).2 1).1 % 16) 0 ((r14.2.getD 0 (0, [])).2.getD 0 PV.u).toS ((r14.2.getD 0 (0, [])).2.getD 1 PV.u).toI ((r14.2.getD 0 (0, [])).2.getD 2 PV.u).toI [] 0 0 0 0 0 0 0 0 0 0 0 0 0 [] 0 0 0 0 0 0 0 0 0 0 0 0 0 [] (lit σ 1).1 0 0 0 0 (mt (lit σ 1).2).1.1 (mt (lit σ 1).2).1.2.1 (mt (lit σ 1).2).1.2.2.1 (mt (lit σ 1).2).1.2.2.2.1 (mt (lit σ 1).2).1.2.2.2.2.1 (mt (lit σ 1).2).1.2.2.2.2.2 ((lit (mt (mt (lit σ 1).2).2).2 1).1 / 64) 0 [] (lit σ 1).1 0 0 0 0 (mt (mt (lit σ 1).2).2).1.1 (mt (mt (lit σ 1).2).2).1.2.1 (mt (mt (lit σ 1).2).2).1.2.2.1 (mt (mt (lit σ 1).2).2).1.2.2.2.1 (mt (mt (lit σ 1).2).2).1.2.2.2.2.1 (mt (mt (lit σ 1).2).2).1.2.2.2.2.2 ((lit (mt (mt (lit σ 1).2).2).2 1).1 / 64) 0)
          else rW f_q28 [t_q2] at_q7 (S_q7 0 0 ((lit (mt (mt (lit σ 1).2).2).2 1).1 % 16) 0 (lit (mt (mt (lit σ 1).2).2).2 1).2.1 (lit (mt (mt (lit σ 1).2).2).2 1).2.2.1 (lit (mt (mt (lit σ 1).2).2).2 1).2.2.2 [] 0 0 0 0 0 0 0 0 0 0 0 0 0 [] 0 0 0 0 0 0 0 0 0 0 0 0 0 [] (lit σ 1).1 0 0 0 0 (mt (lit σ 1).2).1.1 (mt (lit σ 1).2).1.2.1 (mt (lit σ 1).2).1.2.2.1 (mt (lit σ 1).2).1.2.2.2.1 (mt (lit σ 1).2).1.2.2.2.2.1 (mt (lit σ 1).2).1.2.2.2.2.2 ((lit (mt (mt (lit σ 1).2).2).2 1).1 / 64) 0 [] (lit σ 1).1 0 0 0 0 (mt (mt (lit σ 1).2).2).1.1 (mt (mt (lit σ 1).2).2).1.2.1 (mt (mt (lit σ 1).2).2).1.2.2.1 (mt (mt (lit σ 1).2).2).1.2.2.2.1 (mt (mt (lit σ 1).2).2).1.2.2.2.2.1 (mt (mt (lit σ 1).2).2).1.2.2.2.2.2 ((lit (mt (mt (lit σ 1).2).2).2 1).1 / 64) 0))) =
        some ((⟨(lit σ 1).1, (0, 0, 0, 0), (mt (lit σ 1).2).1, (lit (mt (mt (lit σ 1).2).2).2 1).1 / 64, (psP ((lit (mt (mt (lit σ 1).2).2).2 1).1 % 16).toNat 0 0 (gradS (mt (mt (lit σ 1).2).2).2)).1.1, 0⟩ : Fill).e ++ (⟨(lit σ 1).1, (0, 0, 0, 0), (mt (mt (lit σ 1).2).2).1, (lit (mt (mt (lit σ 1).2).2).2 1).1 / 64, (psP ((lit (mt (mt (lit σ 1).2).2).2 1).1 % 16).toNat 0 0 (gradS (mt (mt (lit σ 1).2).2).2)).1.2, 0⟩ : Fill).e, [(t_q2, [.s (psP ((lit (mt (mt (lit σ 1).2).2).2 1).1 % 16).toNat 0 0 (gradS (mt (mt (lit σ 1).2).2).2)).2.1, .i (psP ((lit (mt (mt (lit σ 1).2).2).2 1).1 % 16).toNat 0 0 (gradS (mt (mt (lit σ 1).2).2).2)).2.2.1, .i (psP ((lit (mt (mt (lit σ 1).2).2).2 1).1 % 16).toNat 0 0 (gradS (mt (mt (lit σ 1).2).2).2)).2.2.2])]) := by
      intro kg b hb
      have h2 := mt_len (mt_len h1)
      have n0 := lit_pos (mt (mt (lit σ 1).2).2).2 1
      have n1 := lit1_lt (mt (mt (lit σ 1).2).2).2
      have hg := gradS_len h2
      have hn : ((((lit (mt (mt (lit σ 1).2).2).2 1).1 % 16).toNat : Nat) : Int) = (lit (mt (mt (lit σ 1).2).2).2 1).1 % 16 := by omega
      have e := loopM1 (n := ((lit (mt (mt (lit σ 1).2).2).2 1).1 % 16).toNat) (by omega) (lit σ 1).1 0 0 0 0 (mt (lit σ 1).2).1.1 (mt (lit σ 1).2).1.2.1 (mt (lit σ 1).2).1.2.2.1 (mt (lit σ 1).2).1.2.2.2.1 (mt (lit σ 1).2).1.2.2.2.2.1 (mt (lit σ 1).2).1.2.2.2.2.2 ((lit (mt (mt (lit σ 1).2).2).2 1).1 / 64) 0 (lit σ 1).1 0 0 0 0 (mt (mt (lit σ 1).2).2).1.1 (mt (mt (lit σ 1).2).2).1.2.1 (mt (mt (lit σ 1).2).2).1.2.2.1 (mt (mt (lit σ 1).2).2).1.2.2.2.1 (mt (mt (lit σ 1).2).2).1.2.2.2.2.1 (mt (mt (lit σ 1).2).2).1.2.2.2.2.2 ((lit (mt (mt (lit σ 1).2).2).2 1).1 / 64) 0 ((lit (mt (mt (lit σ 1).2).2).2 1).1 % 16).toNat 0 [] [] 0 0 (gradS (mt (mt (lit σ 1).2).2).2) (by omega) rfl rfl hg
      rw [hn] at e
      have hgd : gradS (mt (mt (lit σ 1).2).2).2 = (bif ((lit (mt (mt (lit σ 1).2).2).2 1).2.2.2 == 0) && b then failR (lit (mt (mt (lit σ 1).2).2).2 1).2 3 else (lit (mt (mt (lit σ 1).2).2).2 1).2) := by rw [hb]; rfl
      rw [hgd] at e ⊢
      cases hc : ((lit (mt (mt (lit σ 1).2).2).2 1).2.2.2 == 0) with
      | false =>
        rw [hc] at e
        simp only [zq11, zq6] at e ⊢
        simpa [Fill.e, toB_b] using e
      | true =>
        cases b with
        | false =>
          rw [hc] at e
          simp only [zq10, zq6, zq5] at e ⊢
          simpa [Fill.e, toB_b] using e
        | true =>
          rw [hc] at e
          simp only [Bool.and_self, zq5, mfail_c, zcf] at e ⊢
          simpa [Fill.e, toB_b] using e
    cases kp : kindP (lit σ 1).1 with
    | true =>
      have k0 : (lit σ 1).1 = 64 ∨ (lit σ 1).1 = 65 := by unfold kindP at kp; simpa using kp
      have l2 := lit_len h1 2
      rcases k0 with k0 | k0
      · rw [show ((lit σ 1).1 == 64) = true by rw [k0]; rfl]
        simp only [mlit_c h1, mmt_c l2, mmt_c (mt_len l2), Fill.e, List.map_nil, List.cons_append, List.nil_append, zcf]
      · rw [show ((lit σ 1).1 == 64) = false by rw [k0]; rfl, show ((lit σ 1).1 == 65) = true by rw [k0]; rfl]
        simp only [mlit_c h1, mmt_c l2, mmt_c (mt_len l2), Fill.e, List.map_nil, List.cons_append, List.nil_append, zcf]
    | false =>
      have k1 : ((lit σ 1).1 == 64) = false ∧ ((lit σ 1).1 == 65) = false := by unfold kindP at kp; simpa using kp
      rw [k1.1, k1.2]
      simp only [zq6]
      have n0 := lit_pos (mt (mt (lit σ 1).2).2).2 1
      have n1 := lit1_lt (mt (mt (lit σ 1).2).2).2
      cases kg : kindG (lit σ 1).1 with
      | true =>
        have g := grad kg (badN (lit (mt (mt (lit σ 1).2).2).2 1).1) rfl
        unfold badN at g
        simp only [Fill.e, List.cons_append, List.nil_append, zcf] at g
        have k0 : (lit σ 1).1 = 16 ∨ (lit σ 1).1 = 18 := by unfold kindG at kg; simpa using kg
        rcases k0 with k0 | k0
        · rw [show ((lit σ 1).1 == 16) = true by rw [k0]; rfl]
          simp only [mmt_c h1, mmt_c (mt_len h1), mlit_c (mt_len (mt_len h1)), and15 n0 n1, and48 n0 n1, div64 n0 n1, Fill.e, List.cons_append, List.nil_append, zcf]
          exact g
        · rw [show ((lit σ 1).1 == 16) = false by rw [k0]; rfl, show ((lit σ 1).1 == 18) = true by rw [k0]; rfl]
          simp only [mmt_c h1, mmt_c (mt_len h1), mlit_c (mt_len (mt_len h1)), and15 n0 n1, and48 n0 n1, div64 n0 n1, Fill.e, List.cons_append, List.nil_append, zcf]
          exact g
      | false =>
        have k2 : ((lit σ 1).1 == 16) = false ∧ ((lit σ 1).1 == 18) = false := by unfold kindG at kg; simpa using kg
        rw [k2.1, k2.2]
        simp only [mfail_c, Fill.e, List.map_nil, List.cons_append, List.nil_append, zcf]
end Go.AI
set_option linter.unusedVariables false
set_option linter.unusedSimpArgs false
set_option maxRecDepth 100000
namespace Go.AI
open Go Go.Proofs

/-- at the beginning of a byte -/
def Al (σ : Rs) : Prop := σ.2.2 = 0 → 0 ≤ σ.2.1 ∧ σ.2.1 % 8 = 0 ∧ σ.2.1 ≤ 8 * (σ.1.length : Int)
theorem loopR_end (kind : Int) : ∀ (n : Nat) (x : RS), Fuel n x.σ → (loopR kind n x).σ.2.2 = 0 → x.σ.2.2 = 0 ∧ (loopR kind n x).σ.1 = x.σ.1 ∧ x.σ.2.1 ≤ (loopR kind n x).σ.2.1 ∧ (loopR kind n x).σ.2.1 ≤ 8 * (x.σ.1.length : Int)
  | 0, x, hF, e => by
    have := (hF e).1
    omega
  | n + 1, x, hF, e => by
    unfold loopR at e ⊢
    cases hz : (x.σ.2.2 == 0) with
    | false =>
      rw [hz, cond_false] at e
      rw [e] at hz; cases hz
    | true =>
      rw [hz] at e
      simp only [zq5] at e ⊢
      cases h1 : ((plR x 1).1 == 1) with
      | true =>
        rw [h1] at e
        simp only [zq5] at e ⊢
        have A := edgeR_adv (plR x 1).2
        obtain ⟨a, b, c, d⟩ := loopR_end kind n (edgeR (plR x 1).2) (fuel_next hF rfl A) e
        obtain ⟨a', b', c'⟩ := A a
        obtain ⟨p1, p2, p3, p4⟩ := pl_adv1 (σ := x.σ) (n := 1) (by decide) a'
        have q1 : (edgeR (plR x 1).2).σ.1 = x.σ.1 := b'.trans p2
        refine ⟨p1, b.trans q1, ?_, ?_⟩
        · have c' : (pl x.σ 1).2.2.1 ≤ (edgeR (plR x 1).2).σ.2.1 := c'
          omega
        · rw [← q1]; exact d
      | false =>
        rw [h1] at e
        simp only [zq6] at e ⊢
        cases h2 : ((plR (plR x 1).2 5).1 == 0) with
        | true =>
          rw [h2] at e
          simp only [zq5] at e ⊢
          obtain ⟨a, b, c, d⟩ := pl_adv1 (σ := (pl x.σ 1).2) (n := 5) (by decide) e
          obtain ⟨p1, p2, p3, p4⟩ := pl_adv1 (σ := x.σ) (n := 1) (by decide) a
          have c : (pl x.σ 1).2.2.1 + 5 = (plR (plR x 1).2 5).2.σ.2.1 := c
          refine ⟨p1, b.trans p2, by omega, ?_⟩
          rw [p2] at d
          omega
        | false =>
          rw [h2] at e
          simp only [zq6] at e ⊢
          have A := (plR_adv (plR x 1).2 5).trans (sevR_adv (plR (plR x 1).2 5).2 (plR (plR x 1).2 5).1 kind)
          obtain ⟨a, b, c, d⟩ := loopR_end kind n _ (fuel_next hF rfl A) e
          obtain ⟨a', b', c'⟩ := A a
          obtain ⟨p1, p2, p3, p4⟩ := pl_adv1 (σ := x.σ) (n := 1) (by decide) a'
          have q1 := b'.trans p2
          refine ⟨p1, b.trans q1, ?_, ?_⟩
          · have c' : (pl x.σ 1).2.2.1 ≤ (sevR (plR (plR x 1).2 5).2 (plR (plR x 1).2 5).1 kind).σ.2.1 := c'
            omega
          · rw [← q1]; exact d
theorem begin_right {s : List UInt8} {a : Int} (e : (beginP s a).2.2 = 0) : 0 ≤ (beginP s a).2.1 := by
  have hr : rightB s a = true := by
    unfold beginP at e
    by_cases hr : rightB s a = true
    · exact hr
    · rw [if_neg hr] at e; exact absurd e (by show (1 : Int) ≠ 0; decide)
  obtain ⟨q1, q2⟩ := rightB_iff.1 hr
  show 0 ≤ alignF s a
  unfold alignF; rw [if_pos hr]; omega
theorem takeRecsX_al {s : List UInt8} (h : s.length ≤ 2 ^ 40) (a fs ss kind : Int) : Al (takeRecsX s a fs ss kind).2 ∧ LenOk (takeRecsX s a fs ss kind).2 ∧ ((takeRecsX s a fs ss kind).2.2.2 = 0 → (takeRecsX s a fs ss kind).2.1 = s) := by
  have hb := (begin_len h a).1
  have F : Fuel (8 * s.length + 1) (startR (beginP s a) fs ss).σ := start_fuel (a := a) rfl (fun e => begin_right e) hb
  have E := loopR_end kind _ _ F
  obtain ⟨s1, s2, s3⟩ := start_ok hb fs ss
  unfold takeRecsX finX
  split
  · rename_i k
    exact ⟨fun e => absurd e k, Nat.zero_le _, fun e => absurd e k⟩
  · rename_i k
    have k : (loopR kind (8 * s.length + 1) (startR (beginP s a) fs ss)).σ.2.2 = 0 := by simpa using k
    obtain ⟨a1, b1, c1, d1⟩ := E k
    obtain ⟨a2, b2, c2⟩ := s3 a1
    have b3 : (loopR kind (8 * s.length + 1) (startR (beginP s a) fs ss)).σ.1 = s := b1.trans b2
    have z := begin_right (s := s) (a := a) a2
    have d2 : (loopR kind (8 * s.length + 1) (startR (beginP s a) fs ss)).σ.2.1 ≤ 8 * (s.length : Int) := by
      have : (startR (beginP s a) fs ss).σ.1 = s := b2
      rw [this] at d1; exact d1
    rw [b3]
    refine ⟨fun _ => ?_, h, fun _ => rfl⟩
    have hr : rightB s (loopR kind (8 * s.length + 1) (startR (beginP s a) fs ss)).σ.2.1 = true := rightB_iff.2 ⟨by omega, d2⟩
    show 0 ≤ alignF s _ ∧ alignF s _ % 8 = 0 ∧ alignF s _ ≤ 8 * (s.length : Int)
    unfold alignF
    rw [if_pos hr]
    omega
theorem takeRecsF_len {s : List UInt8} (h : s.length ≤ 2 ^ 40) (a fs ss kind : Int) : LenOk (takeRecsF s a fs ss kind).2 := by
  unfold takeRecsF
  cases okArg fs ss kind
  · exact Nat.zero_le _
  · exact (takeRecsX_al h a fs ss kind).2.1
theorem rcs_len {σ : Rs} (h : LenOk σ) (f s kind : Int) : LenOk (rcs σ f s kind).2 := by
  unfold rcs
  split
  · exact h
  · exact takeRecsF_len h ..
/-! ### pairs -/
def pairsN {α : Type} (f : Rs → P2 α) : Nat → Rs → (List α × List α) × Rs
  | 0, σ => (([], []), σ)
  | n + 1, σ => let a := f σ; let b := pairsN f n a.2; ((a.1.1 :: b.1.1, a.1.2 :: b.1.2), b.2)
def spP (σ : Rs) : P2 Strk :=
  let a := lit σ 2
  let b := lit a.2 2
  let c := col b.2
  let d := col c.2
  ((⟨a.1, c.1⟩, ⟨b.1, d.1⟩), d.2)
theorem spP_len {σ : Rs} (h : LenOk σ) : LenOk (spP σ).2 := col_len (col_len (lit_len (lit_len h 2) 2))
def mor0 : Mor := ⟨0, (0, 0, 0, 0), (0, 0, 0, 0), [], [], [], [], [], []⟩
def enc10 (r : Mor × Rs) : Res := (r.1.e ++ [.s r.2.1, .i r.2.2.1, .i r.2.2.2], [])
def bad10 (e : Int) : Mor × Rs := (mor0, ([], 0, e))
def fin10 (id : Int) (fr to : I4) (size start : Int) (fl : List Fill × List Fill) (st : List Strk × List Strk) (σ : Rs) : Mor × Rs :=
  let u := rcs σ (fl.1.length : Nat) (st.1.length : Nat) 1
  let v := rcs u.2 0 0 2
  let w := bif (IntKind.wrap .i64 (IntKind.wrap .i64 (Int.tdiv u.2.2.1 8) - start) != size) then failR v.2 3 else v.2
  bif w.2.2 != 0 then bad10 w.2.2 else (⟨id, fr, to, fl.1, fl.2, st.1, st.2, u.1, v.1⟩, (w.1, w.2.1, 0))
def tail10 (id : Int) (fr to : I4) (size start : Int) (fl : List Fill × List Fill) (σ : Rs) : Mor × Rs :=
  let k := manyP σ
  let st := pairsN spP k.1.toNat k.2
  fin10 id fr to size start fl st.1 st.2
def take10 (s : List UInt8) (a : Int) : Mor × Rs :=
  let i := lit (s, a, 0) 2
  let r := rc i.2
  let q := rc r.2
  let z := lit q.2 4
  let m := manyP z.2
  let fl := pairsN pfP m.1.toNat m.2
  tail10 i.1 r.1 q.1 z.1 (IntKind.wrap .i64 (Int.tdiv z.2.2.1 8)) fl.1 fl.2
theorem mtake_loop2 {n : Nat} (hn : n ≤ 15) (id : Int) (fr to : I4) (size start : Int) (L L' : List Fill) (o1 : List UInt8) (o2 : Int) : ∀ (j i : Nat) (pre qre : List Strk) (σ : Rs), i + j = n → pre.length = i → qre.length = i → LenOk σ →
    rW f_q168 [] at_q153 (S_q153 size start n i [] [] [] [] [] [] 0 0 0 0 0 0 0 0 0 o1 o2 σ.1 σ.2.1 σ.2.2 (L.map Fill.e) (L'.map Fill.e) (pre.map Strk.e) (qre.map Strk.e) [] [] id fr.1 fr.2.1 fr.2.2.1 fr.2.2.2 to.1 to.2.1 to.2.2.1 to.2.2.2) =
      some (enc10 (fin10 id fr to size start (L, L') (pre ++ (pairsN spP j σ).1.1, qre ++ (pairsN spP j σ).1.2) (pairsN spP j σ).2))
  | 0, i, pre, qre, σ, hi, hp, hq, hσ => by
    obtain rfl : i = n := hi
    have h1 := rcs_len hσ (L.length : Nat) (pre.length : Nat) 1
    rw [w_q153, decide_eq_false (by omega)]
    simp only [mrcs_c hσ, mrcs_c h1, zbc, zcf]
    unfold fin10
    simp only [pairsN, List.append_nil]
    generalize (IntKind.wrap .i64 (IntKind.wrap .i64 (Int.tdiv (rcs σ (L.length : Nat) (pre.length : Nat) 1).2.2.1 8) - start) != size) = b
    cases b with
    | true =>
      simp only [mfail_c, zbc, zcf]
      generalize failR (rcs (rcs σ (L.length : Nat) (pre.length : Nat) 1).2 0 0 2).2 3 = w
      cases w.2.2 != 0 <;> rfl
    | false =>
      simp only [zbc, zcf]
      generalize rcs (rcs σ (L.length : Nat) (pre.length : Nat) 1).2 0 0 2 = w
      cases w.2.2.2 != 0 <;> rfl
  | j + 1, i, pre, qre, σ, hi, hp, hq, hσ => by
    obtain ⟨h1, h2⟩ := step_i (i := i) (n := n) (by omega) (by omega)
    have l1 := lit_len hσ 2
    have l2 := lit_len l1 2
    have l3 := col_len l2
    have room : (pre.length + 1001) * 41 ≤ 1099511627776 := by omega
    have room2 : (qre.length + 1001) * 41 ≤ 1099511627776 := by omega
    have ih := mtake_loop2 hn id fr to size start L L' o1 o2 j (i + 1) (pre ++ [(spP σ).1.1]) (qre ++ [(spP σ).1.2]) (spP σ).2 (by omega) (by simp [hp]) (by simp [hq]) (spP_len hσ)
    rw [w_q153]
    simp only [h1, h2, mlit_c hσ, mlit_c l1, mcol_c l2, mcol_c l3, room1 _ _ room, room1 _ _ room2, zbc, zcf]
    rw [strk_row pre ⟨(lit σ 2).1, (col (lit (lit σ 2).2 2).2).1⟩, strk_row qre ⟨(lit (lit σ 2).2 2).1, (col (col (lit (lit σ 2).2 2).2).2).1⟩]
    refine Eq.trans ih ?_
    rw [List.append_assoc, List.append_assoc]; rfl
theorem mtake_loop0 {n : Nat} (hn : n ≤ 15) (id : Int) (fr to : I4) (size start : Int) (o1 : List UInt8) (o2 : Int) : ∀ (j i : Nat) (pre qre : List Fill) (σ : Rs), i + j = n → pre.length = i → qre.length = i → LenOk σ →
    rW f_q168 [] at_q152 (S_q152 size start n i [] [] [] [] [] [] 0 0 0 0 0 0 0 0 0 o1 o2 σ.1 σ.2.1 σ.2.2 (pre.map Fill.e) (qre.map Fill.e) [] [] [] [] id fr.1 fr.2.1 fr.2.2.1 fr.2.2.2 to.1 to.2.1 to.2.2.1 to.2.2.2) =
      some (enc10 (tail10 id fr to size start (pre ++ (pairsN pfP j σ).1.1, qre ++ (pairsN pfP j σ).1.2) (pairsN pfP j σ).2)) := by
  intro j
  induction j with
  | zero =>
    intro i pre qre σ hi hp hq hσ
    obtain rfl : i = n := hi
    obtain ⟨m0, m1⟩ := many_bound σ
    have e := mtake_loop2 (n := (manyP σ).1.toNat) (by omega) id fr to size start pre qre o1 o2 (manyP σ).1.toNat 0 [] [] (manyP σ).2 (by omega) rfl rfl (many_len hσ)
    rw [w_q152, decide_eq_false (by omega)]
    rw [show (((manyP σ).1.toNat : Nat) : Int) = (manyP σ).1 by omega] at e
    simp only [mmany_c hσ, pairsN, List.append_nil, zbc, zcf]
    exact e
  | succ j IH =>
    intro i pre qre σ hi hp hq hσ
    obtain ⟨h1, h2⟩ := step_i (i := i) (n := n) (by omega) (by omega)
    have hi15 : i ≤ 15 := by omega
    have room : (pre.length + 1001) * 129 ≤ 1099511627776 := by rw [hp]; exact Nat.le_trans (Nat.mul_le_mul_right 129 (Nat.add_le_add_right hi15 1001)) (by decide)
    have room2 : (qre.length + 1001) * 129 ≤ 1099511627776 := by rw [hq]; exact Nat.le_trans (Nat.mul_le_mul_right 129 (Nat.add_le_add_right hi15 1001)) (by decide)
    have ih := IH (i + 1) (pre ++ [(pfP σ).1.1]) (qre ++ [(pfP σ).1.2]) (pfP σ).2 (by omega) (by simp [hp]) (by simp [hq]) (pfP_len hσ)
    rw [w_q152]
    simp only [h1, h2, pfP_c hσ, Fill.e, List.cons_append, List.nil_append, room1 _ _ room, room1 _ _ room2, zbc, zcf]
    rw [fill_row pre (pfP σ).1.1, fill_row qre (pfP σ).1.2]
    refine Eq.trans ih ?_
    simp only [pairsN, List.append_assoc, List.cons_append, List.nil_append]
theorem Take10_c {s : List UInt8} (h : s.length ≤ 2 ^ 40) (a : Int) : cW f_q168 [.s s, .i a] [] = some (enc10 (take10 s a)) := by
  have h0 : LenOk ((s, a, 0) : Rs) := h
  have h1 := lit_len h0 2
  have h2 := rc_len h1
  have h3 := rc_len h2
  have h4 := lit_len h3 4
  have h5 := many_len h4
  obtain ⟨m0, m1⟩ := many_bound (lit (rc (rc (lit (s, a, 0) 2).2).2).2 4).2
  have e1 := mlit_c h0 2
  rw [w_q168]
  simp only at e1
  simp only [e1, mrc_c h1, mrc_c h2, mlit_c h3, mmany_c h4, zbc, zcf]
  have e := mtake_loop0 (n := (manyP (lit (rc (rc (lit (s, a, 0) 2).2).2).2 4).2).1.toNat) (by omega) (lit (s, a, 0) 2).1 (rc (lit (s, a, 0) 2).2).1 (rc (rc (lit (s, a, 0) 2).2).2).1 (lit (rc (rc (lit (s, a, 0) 2).2).2).2 4).1 (IntKind.wrap .i64 (Int.tdiv (lit (rc (rc (lit (s, a, 0) 2).2).2).2 4).2.2.1 8)) [] 0 (manyP (lit (rc (rc (lit (s, a, 0) 2).2).2).2 4).2).1.toNat 0 [] [] (manyP (lit (rc (rc (lit (s, a, 0) 2).2).2).2 4).2).2 (by omega) rfl rfl h5
  rw [show (((manyP (lit (rc (rc (lit (s, a, 0) 2).2).2).2 4).2).1.toNat : Nat) : Int) = (manyP (lit (rc (rc (lit (s, a, 0) 2).2).2).2 4).2).1 by omega] at e
  exact e
end Go.AI
set_option linter.unusedVariables false
set_option linter.unusedSimpArgs false
set_option maxRecDepth 100000
namespace Go.AI
open Go Go.Proofs

end Go.AI
set_option linter.unusedVariables false
set_option linter.unusedSimpArgs false
set_option maxRecDepth 100000
namespace Go.AI
open Go Go.Proofs

/-! ### it is the program's -/
end Go.AI
set_option linter.unusedVariables false
set_option linter.unusedSimpArgs false
set_option maxRecDepth 100000
namespace Go.AI
open Go Go.Proofs

def clT (t : Int) : Int := if t < 0 then 0 else if t > 65535 then 65535 else t
def inW (a : Int) : Prop := -1099511627776 ≤ a ∧ a ≤ 1099511627776
instance (a : Int) : Decidable (inW a) := by unfold inW; infer_instance
def betw (a b t : Int) : Int := if inW a ∧ inW b then a + ((b - a) * clT t) / 65535 else 0
theorem clT_r (t : Int) : 0 ≤ clT t ∧ clT t ≤ 65535 := by
  unfold clT
  split
  · omega
  · split <;> omega
theorem prod_r {d c : Int} (c0 : 0 ≤ c) (c1 : c ≤ 65535) : (0 ≤ d → 0 ≤ d * c ∧ d * c ≤ d * 65535) ∧ (d ≤ 0 → d * 65535 ≤ d * c ∧ d * c ≤ 0) := by
  refine ⟨fun h => ⟨Int.mul_nonneg h c0, Int.mul_le_mul_of_nonneg_left c1 h⟩, fun h => ⟨Int.mul_le_mul_of_nonpos_left h c1, Int.mul_nonpos_of_nonpos_of_nonneg h c0⟩⟩
theorem betw_mid {a b t : Int} (ha : inW a) (hb : inW b) : (a ≤ b → a ≤ betw a b t ∧ betw a b t ≤ b) ∧ (b ≤ a → b ≤ betw a b t ∧ betw a b t ≤ a) := by
  unfold betw
  rw [if_pos ⟨ha, hb⟩]
  obtain ⟨c0, c1⟩ := clT_r t
  obtain ⟨p, q⟩ := prod_r (d := b - a) c0 c1
  generalize (b - a) * clT t = x at *
  refine ⟨fun h => ?_, fun h => ?_⟩
  · have := p (by omega); omega
  · have := q (by omega); omega
theorem betw_rng {a b t lo hi : Int} (ha : inW a) (hb : inW b) (h1 : lo ≤ a ∧ a ≤ hi) (h2 : lo ≤ b ∧ b ≤ hi) : lo ≤ betw a b t ∧ betw a b t ≤ hi := by
  obtain ⟨p, q⟩ := betw_mid (t := t) ha hb
  rcases Int.le_total a b with h | h
  · have := p h; omega
  · have := q h; omega
theorem betw_same {a : Int} (ha : inW a) (t : Int) : betw a a t = a := by
  unfold betw
  rw [if_pos ⟨ha, ha⟩, Int.sub_self, Int.zero_mul]
  simp
end Go.AI
set_option linter.unusedVariables false
set_option linter.unusedSimpArgs false
set_option maxRecDepth 100000
namespace Go.AI
open Go Go.Proofs

end Go.AI
set_option linter.unusedVariables false
set_option linter.unusedSimpArgs false
set_option maxRecDepth 100000
namespace Go.AI
open Go Go.Proofs

theorem awake10 : cW f_q203 [] [] = some ([.b true], []) := c_at 100 (by kernel_rfl)
end Go.AI
set_option linter.unusedVariables false
set_option linter.unusedSimpArgs false
set_option maxRecDepth 100000
namespace Go.AI
open Go Go.Proofs

theorem ref10_m (m : Mor) : cW f_q147 m.e [] = some (m.e, []) := by
  unfold Mor.e
  rw [w_q147]
theorem eq10_refl (m : Mor) (h : m.sh) : cW f_q190 (m.e ++ m.e) [] = some ([.b true], []) := by
  unfold Mor.e
  simp only [List.cons_append, List.nil_append]
  rw [w_q190]
  simp only [sameLists_c h.f h.ff h.s, sameLists_c h.tf h.tff h.ts, rsame_c h.r h.rr, rsame_c h.t h.tt, beq_self_eq_true, decide_true, Bool.and_self, zbc, zcf]
end Go.AI
set_option linter.unusedVariables false
set_option linter.unusedSimpArgs false
set_option maxRecDepth 100000
namespace Go.AI
open Go Go.Proofs

/-- the same behind bytes -/
def Beh (g : Wt → Wt) : Prop := ∀ (s : List UInt8) (w : Wt), WOk w → g (s ++ w.1, w.2) = (s ++ (g w).1, (g w).2) ∧ WOk (g w)
theorem Beh.comp {g h : Wt → Wt} (hg : Beh g) (hh : Beh h) : Beh (fun w => h (g w)) := fun s w hw => by
  obtain ⟨a, b⟩ := hg s w hw
  obtain ⟨c, d⟩ := hh s (g w) b
  refine ⟨?_, d⟩
  show h (g (s ++ w.1, w.2)) = _
  rw [a, c]
theorem beh_putN (v n : Nat) : Beh (putN v n) := fun s w hw => ⟨putN_pre s v n w hw, (putN_go v n hw).1⟩
theorem beh_numsW (n : Nat) (l : List Int) : Beh (numsW n l) := fun s w hw => ⟨numsW_pre s n l w hw, (numsW_go n l hw).1⟩
theorem beh_id : Beh (fun w => w) := fun s w hw => ⟨rfl, hw⟩
theorem beh_optP (v : Int) (n : Nat) : Beh (optP v n) := by
  unfold optP
  split
  · exact beh_putN _ _
  · exact beh_id
theorem beh_move (r : Rec) : Beh (moveW r) := by
  unfold moveW
  generalize WL [r.x, r.y] = n
  exact ((beh_putN 1 6).comp (beh_putN n 5)).comp (beh_numsW n [r.x, r.y])
theorem beh_set (a b : Nat) (r : Rec) : Beh (setW a b r) := by
  unfold setW
  generalize flagsR r = n
  exact (((beh_putN n 6).comp (beh_optP r.left a)).comp (beh_optP r.right a)).comp (beh_optP r.line b)
theorem beh_line (r : Rec) : Beh (lineW r) := by
  unfold lineW
  dsimp only
  generalize edgeN [r.x, r.y] = n
  have g := (beh_putN 3 2).comp (beh_putN (n - 2) 4)
  by_cases h : r.x = 0
  · simp only [if_pos h]
    exact (g.comp (beh_putN 1 2)).comp (beh_numsW n [r.y])
  · simp only [if_neg h]
    by_cases k : r.y = 0
    · simp only [if_pos k]
      exact (g.comp (beh_putN 0 2)).comp (beh_numsW n [r.x])
    · simp only [if_neg k]
      exact (g.comp (beh_putN 1 1)).comp (beh_numsW n [r.x, r.y])
theorem beh_curve (r : Rec) : Beh (curveW r) := by
  unfold curveW
  generalize edgeN [r.cx, r.cy, r.x, r.y] = n
  exact ((beh_putN 2 2).comp (beh_putN (n - 2) 4)).comp (beh_numsW n [r.cx, r.cy, r.x, r.y])
theorem beh_bytes (t : List UInt8) : Beh (fun w => (w.1 ++ t, 0)) := fun s w hw => ⟨by simp, ok_zero _⟩
theorem beh_fresh (r : Rec) : Beh (freshW r) := by
  unfold freshW
  generalize listsS r.fills r.strks = t
  generalize blen r.fills.length = a
  generalize blen r.strks.length = b
  exact (((beh_putN 16 6).comp (beh_bytes t)).comp (beh_putN a 4)).comp (beh_putN b 4)
theorem beh_rec (a b : Nat) (r : Rec) : Beh (recW a b r) := by
  unfold recW
  cases (r.kind == 1) with
  | true => exact beh_move r
  | false =>
    cases (r.kind == 2) with
    | true => exact beh_set a b r
    | false =>
      cases (r.kind == 3) with
      | true => exact beh_fresh r
      | false =>
        cases (r.kind == 4) with
        | true => exact beh_line r
        | false => exact beh_curve r
theorem beh_recs : ∀ (l : List Rec) (a b : Nat), Beh (recsW a b l)
  | [], _, _ => beh_id
  | r :: l, a, b => (beh_rec a b r).comp (beh_recs l (nextA r a) (nextB r b))
theorem recsT_behind (f s : Nat) (l : List Rec) (A S : List UInt8) : (recsT f s l (A ++ S)).1 = A ++ (recsT f s l S).1 := by
  unfold recsT headW
  generalize blen f = a
  generalize blen s = b
  have g : Beh (fun w => putN 0 6 (recsW a b l (putN b 4 (putN a 4 w)))) := (((beh_putN a 4).comp (beh_putN b 4)).comp (beh_recs l a b)).comp (beh_putN 0 6)
  have := (g A (S, 0) (ok_zero S)).1
  exact congrArg Prod.fst this
/-- what records are -/
def recsS (f s : Nat) (l : List Rec) : List UInt8 := (recsT f s l []).1
theorem recsT_S (f s : Nat) (l : List Rec) (S : List UInt8) : (recsT f s l S).1 = S ++ recsS f s l := by
  have := recsT_behind f s l S []
  rwa [List.append_nil] at this
theorem recsS_len {f s kind : Int} {l : List Rec} (h : rightRecs f s l kind = true) : (recsS f.toNat s.toNat l).length ≤ 9000 * 512 + 100 := by
  have := recsT_len h []
  show (recsT f.toNat s.toNat l []).1.length ≤ _
  simpa using this
theorem rcs_back {l : List Rec} {f s kind : Int} (h : rightRecs f s l kind = true) (S t : List UInt8) : rcs (rdAt S (recsS f.toNat s.toNat l ++ t)) f s kind = (l, rdAt (S ++ recsS f.toNat s.toNat l) t) := by
  have hb := takeRecs_back h S t
  obtain ⟨⟨f0, f1⟩, ⟨s0, s1⟩, k0, _⟩ := rightRecs_r h
  have ok : okArg f s kind = true := by
    unfold okArg
    simp only [Bool.and_eq_true, inR_iff, inR]
    exact ⟨⟨f0, f1⟩, ⟨s0, s1⟩, k0⟩
  unfold rcs rdAt
  rw [if_neg (by simp)]
  unfold takeRecsF
  rw [ok, cond_true]
  rw [recsT_S] at hb
  dsimp only
  rw [← List.append_assoc, hb]
def rectS (c : I4) : List UInt8 := (rectW c.1 c.2.1 c.2.2.1 c.2.2.2 ([], 0)).1
theorem rect_behind (c : I4) (s : List UInt8) : (rectW c.1 c.2.1 c.2.2.1 c.2.2.2 (s, 0)).1 = s ++ rectS c := by
  unfold rectS rectW
  have := nums_behind s (h := 5) (l := [c.1, c.2.1, c.2.2.1, c.2.2.2]) (w := ([], 0)) (ok_zero [])
  rw [this, List.append_nil]
theorem rectS_len {c : I4} (h : frB4 c = true) : (rectS c).length ≤ 200 := by
  unfold rectS rectW
  obtain ⟨_, _, _, d⟩ := nums_ok 5 [c.1, c.2.1, c.2.2.1, c.2.2.2] ([], 0) (ok_zero _)
  have := (rectB_fits h).wl
  refine Nat.le_trans d ?_
  show (0 : Nat) + 5 + _ * 4 ≤ 200
  omega
theorem rc_back {c : I4} (h : frB4 c = true) (s t : List UInt8) : rc (rdAt s (rectS c ++ t)) = (c, rdAt (s ++ rectS c) t) := by
  unfold rc rdAt
  rw [if_neg (by simp)]
  have hm := rect_behind c s
  have he : WExt (rectW c.1 c.2.1 c.2.2.1 c.2.2.2 (s, 0)) (s ++ (rectS c ++ t), 0) := by
    have := append_ext (s ++ rectS c) t (rectW c.1 c.2.1 c.2.2.1 c.2.2.2 (s, 0)).2
    rw [List.append_assoc, ← hm] at this
    exact this
  have hb := begin_back (W := (s ++ (rectS c ++ t), 0)) (s := s) (append_ext s (rectS c ++ t) 0)
  dsimp only at hb ⊢
  rw [hb, rect_back (ok_zero s) h he, hm, List.append_assoc]
def fourS (n : Int) : List UInt8 := twoS (n % 65536) ++ twoS (n / 65536)
theorem littleB_four {n : Int} (h0 : 0 ≤ n) (h1 : n < 4294967296) : littleB n.toNat 4 = fourS n := by
  obtain ⟨k, rfl⟩ := Int.eq_ofNat_of_zero_le h0
  have a := littleB_two (n := ((k : Nat) : Int) % 65536) (by omega) (by omega)
  have b := littleB_two (n := ((k : Nat) : Int) / 65536) (by omega) (by omega)
  unfold fourS
  rw [← a, ← b]
  have e1 : (((k : Nat) : Int) % 65536).toNat = k % 65536 := by omega
  have e2 : (((k : Nat) : Int) / 65536).toNat = k / 65536 := by omega
  rw [e1, e2, Int.toNat_natCast]
  show [UInt8.ofNat (k / 256 ^ 0 % 256), UInt8.ofNat (k / 256 ^ 1 % 256), UInt8.ofNat (k / 256 ^ 2 % 256), UInt8.ofNat (k / 256 ^ 3 % 256)] = [UInt8.ofNat (k % 65536 / 256 ^ 0 % 256), UInt8.ofNat (k % 65536 / 256 ^ 1 % 256)] ++ [UInt8.ofNat (k / 65536 / 256 ^ 0 % 256), UInt8.ofNat (k / 65536 / 256 ^ 1 % 256)]
  have p0 : 256 ^ 0 = 1 := rfl
  have p1 : 256 ^ 1 = 256 := rfl
  have p2 : 256 ^ 2 = 65536 := rfl
  have p3 : 256 ^ 3 = 16777216 := rfl
  rw [p0, p1, p2, p3, show k % 65536 / 1 % 256 = k / 1 % 256 by omega, show k % 65536 / 256 % 256 = k / 256 % 256 by omega, show k / 65536 / 1 % 256 = k / 65536 % 256 by omega, show k / 65536 / 256 % 256 = k / 16777216 % 256 by omega]
  rfl
theorem lit4_back {n : Int} (h0 : 0 ≤ n) (h1 : n < 4294967296) (s t : List UInt8) : lit (rdAt s (fourS n ++ t)) 4 = (n, rdAt (s ++ fourS n) t) := by
  have e := bytes_back s (fourS n) t
  unfold lit rdAt
  rw [if_neg (by simp)]
  unfold littleF
  rw [if_neg (by decide)]
  rw [show (4 : Int) = (((fourS n).length : Nat) : Int) from rfl, e]
  refine Prod.ext ?_ rfl
  have e1 : Int.tmod (n % 65536) 256 = n % 65536 % 256 := Int.tmod_eq_emod_of_nonneg (by omega)
  have e2 : IntKind.wrap .i64 (Int.tdiv (n % 65536) 256) = n % 65536 / 256 := by rw [Int.tdiv_eq_ediv_of_nonneg (by omega), wrap64 (by omega) (by omega)]
  have e3 : Int.tmod (n / 65536) 256 = n / 65536 % 256 := Int.tmod_eq_emod_of_nonneg (by omega)
  have e4 : IntKind.wrap .i64 (Int.tdiv (n / 65536) 256) = n / 65536 / 256 := by rw [Int.tdiv_eq_ediv_of_nonneg (by omega), wrap64 (by omega) (by omega)]
  show (((UInt8.ofNat (Int.tmod (n % 65536) 256 % 256).toNat).toNat + 256 * ((UInt8.ofNat (IntKind.wrap .i64 (Int.tdiv (n % 65536) 256) % 256).toNat).toNat + 256 * ((UInt8.ofNat (Int.tmod (n / 65536) 256 % 256).toNat).toNat + 256 * ((UInt8.ofNat (IntKind.wrap .i64 (Int.tdiv (n / 65536) 256) % 256).toNat).toNat + 256 * 0))) : Nat) : Int) = n
  rw [e1, e2, e3, e4, byte_nat _ (by omega), byte_nat _ (by omega), byte_nat _ (by omega), byte_nat _ (by omega)]; omega
end Go.AI
set_option linter.unusedVariables false
set_option linter.unusedSimpArgs false
set_option maxRecDepth 100000
namespace Go.AI
open Go Go.Proofs

def curv (r : Rec) : Rec := if r.kind = 4 then ⟨5, r.x - r.x / 2, r.y - r.y / 2, r.x / 2, r.y / 2, 0, 0, 0, [], []⟩ else r
theorem inW0 : inW 0 := by unfold inW; omega
theorem inW_of {a lo hi : Int} (h : lo ≤ a ∧ a ≤ hi) (h1 : -1099511627776 ≤ lo) (h2 : hi ≤ 1099511627776) : inW a := by unfold inW; omega
/-! ### the same -/
/-! ### the ends -/
/-! ### what is right stays right -/
theorem pairB_r {a b : Fill} (h : pairB a b = true) : a.kind = b.kind ∧ a.spread = b.spread ∧ a.id = b.id ∧ a.stops.length = b.stops.length := by
  unfold pairB at h
  simp only [Bool.and_eq_true, beq_iff_eq] at h
  exact ⟨h.1, h.2.1, h.2.2.1, by omega⟩
end Go.AI
set_option linter.unusedVariables false
set_option linter.unusedSimpArgs false
set_option maxRecDepth 100000
namespace Go.AI
open Go Go.Proofs

structure Pen (r : Rec) : Prop where
  k : r.kind = 1 ∨ r.kind = 4 ∨ r.kind = 5
  el : r.left = 0
  er : r.right = 0
  en : r.line = 0
  ef : r.fills = []
  es : r.strks = []
  c : r.kind ≠ 5 → r.cx = 0 ∧ r.cy = 0
  x : (r.kind = 1 → -1048576 ≤ r.x ∧ r.x ≤ 1048576) ∧ (r.kind ≠ 1 → -65536 ≤ r.x ∧ r.x ≤ 65535)
  y : (r.kind = 1 → -1048576 ≤ r.y ∧ r.y ≤ 1048576) ∧ (r.kind ≠ 1 → -65536 ≤ r.y ∧ r.y ≤ 65535)
  cx : -65536 ≤ r.cx ∧ r.cx ≤ 65535
  cy : -65536 ≤ r.cy ∧ r.cy ≤ 65535
theorem noLi_r {r : Rec} (h : noLi r) : r.fills = [] ∧ r.strks = [] := by
  unfold noLi at h
  simpa [List.length_eq_zero_iff] using h
theorem pen_of {r : Rec} {f s : Int} (h : recB r f s = true) (k2 : r.kind ≠ 2) (k3 : r.kind ≠ 3) : Pen r := by
  rcases recB_kind h with k | k | k | k | k
  · obtain ⟨⟨⟨a1, a2, a3⟩, b, c1, c2⟩, hx, hy⟩ := recB_move h k
    obtain ⟨d1, d2⟩ := noLi_r b
    exact ⟨.inl k, a1, a2, a3, d1, d2, fun _ => ⟨c1, c2⟩, ⟨fun _ => hx, fun n => absurd k n⟩, ⟨fun _ => hy, fun n => absurd k n⟩, by omega, by omega⟩
  · exact absurd k k2
  · exact absurd k k3
  · obtain ⟨⟨⟨a1, a2, a3⟩, b, c1, c2⟩, hx, hy⟩ := recB_line h k
    obtain ⟨d1, d2⟩ := noLi_r b
    exact ⟨.inr (.inl k), a1, a2, a3, d1, d2, fun _ => ⟨c1, c2⟩, ⟨fun n => by omega, fun _ => hx⟩, ⟨fun n => by omega, fun _ => hy⟩, by omega, by omega⟩
  · obtain ⟨⟨⟨a1, a2, a3⟩, b⟩, hx, hy, hcx, hcy⟩ := recB_curve h k
    obtain ⟨d1, d2⟩ := noLi_r b
    exact ⟨.inr (.inr k), a1, a2, a3, d1, d2, fun n => absurd k n, ⟨fun n => by omega, fun _ => hx⟩, ⟨fun n => by omega, fun _ => hy⟩, hcx, hcy⟩
theorem Pen.recB {r : Rec} (h : Pen r) (f s : Int) : recB r f s = true := by
  have hst : noSt r := ⟨h.el, h.er, h.en⟩
  have hli : noLi r := by unfold noLi; rw [h.ef, h.es]; exact ⟨rfl, rfl⟩
  unfold Go.AI.recB
  rcases h.k with k | k | k
  · rw [k]
    exact decide_eq_true ⟨hst, hli, h.c (by omega), h.x.1 k, h.y.1 k⟩
  · rw [k]
    exact decide_eq_true ⟨hst, hli, h.c (by omega), h.x.2 (by omega), h.y.2 (by omega)⟩
  · rw [k]
    exact decide_eq_true ⟨hst, hli, h.x.2 (by omega), h.y.2 (by omega), h.cx, h.cy⟩
structure wRec (r : Rec) : Prop where
  x : -1048576 ≤ r.x ∧ r.x ≤ 1048576
  y : -1048576 ≤ r.y ∧ r.y ≤ 1048576
  cx : -1048576 ≤ r.cx ∧ r.cx ≤ 1048576
  cy : -1048576 ≤ r.cy ∧ r.cy ≤ 1048576
theorem Pen.w {r : Rec} (h : Pen r) : wRec r := by
  have cx := h.cx
  have cy := h.cy
  rcases h.k with k | k | k
  · exact ⟨h.x.1 k, h.y.1 k, by omega, by omega⟩
  · have hx := h.x.2 (by omega); have hy := h.y.2 (by omega)
    exact ⟨by omega, by omega, by omega, by omega⟩
  · have hx := h.x.2 (by omega); have hy := h.y.2 (by omega)
    exact ⟨by omega, by omega, by omega, by omega⟩
theorem wRec.inX {r : Rec} (h : wRec r) : inW r.x ∧ inW r.y ∧ inW r.cx ∧ inW r.cy :=
  ⟨inW_of h.x (by decide) (by decide), inW_of h.y (by decide) (by decide), inW_of h.cx (by decide) (by decide), inW_of h.cy (by decide) (by decide)⟩
theorem Pen.curv {r : Rec} (h : Pen r) : Pen (curv r) := by
  unfold Go.AI.curv
  split
  · rename_i k
    have hx := h.x.2 (by omega)
    have hy := h.y.2 (by omega)
    exact ⟨.inr (.inr rfl), rfl, rfl, rfl, rfl, rfl, fun n => absurd rfl n, ⟨fun n => (by cases n), fun _ => (by dsimp only; omega)⟩, ⟨fun n => (by cases n), fun _ => (by dsimp only; omega)⟩, (by dsimp only; omega), (by dsimp only; omega)⟩
  · exact h
def btRec (t : Int) (a b : Rec) : Rec := ⟨a.kind, betw a.x b.x t, betw a.y b.y t, betw a.cx b.cx t, betw a.cy b.cy t, 0, 0, 0, [], []⟩
theorem Pen.bt {a b : Rec} (ha : Pen a) (hb : Pen b) (hk : a.kind = b.kind) (t : Int) : Pen (btRec t a b) := by
  obtain ⟨a1, a2, a3, a4⟩ := ha.w.inX
  obtain ⟨b1, b2, b3, b4⟩ := hb.w.inX
  refine ⟨ha.k, rfl, rfl, rfl, rfl, rfl, fun n => ?_, ⟨fun k => betw_rng a1 b1 (ha.x.1 k) (hb.x.1 (hk ▸ k)), fun k => betw_rng a1 b1 (ha.x.2 k) (hb.x.2 (fun e => k (hk.trans e)))⟩, ⟨fun k => betw_rng a2 b2 (ha.y.1 k) (hb.y.1 (hk ▸ k)), fun k => betw_rng a2 b2 (ha.y.2 k) (hb.y.2 (fun e => k (hk.trans e)))⟩, betw_rng a3 b3 ha.cx hb.cx, betw_rng a4 b4 ha.cy hb.cy⟩
  obtain ⟨x1, x2⟩ := ha.c n
  obtain ⟨y1, y2⟩ := hb.c (fun e => n (hk.trans e))
  show betw a.cx b.cx t = 0 ∧ betw a.cy b.cy t = 0
  rw [x1, x2, y1, y2, betw_same inW0]
  exact ⟨rfl, rfl⟩
/-! ### both -/
def both (a b : Rec) : Rec × Rec := if a.kind = b.kind then (a, b) else (curv a, curv b)
def ptAt (t : Int) (p : Rec × Rec) : Rec := if p.1.kind = 2 then p.1 else btRec t p.1 p.2
theorem pen2 {r : Rec} (h : Pen r) : r.kind ≠ 2 := by rcases h.k with k | k | k <;> omega
theorem pen3 {r : Rec} (h : Pen r) : r.kind ≠ 3 := by rcases h.k with k | k | k <;> omega
/-- what stands at a place, by the record there -/
inductive Duo (f s : Int) (o : Rec) (p : Rec × Rec) : Prop
  | set (k : o.kind = 2) (e : p = (o, o)) (h : recB o f s = true) : Duo f s o p
  | pen (k : o.kind ≠ 2) (a : Pen p.1) (b : Pen p.2) (e : p.1.kind = p.2.kind) (h : p.1.kind = o.kind → p.1 = o) : Duo f s o p
inductive Duos (f s : Int) : List Rec → List (Rec × Rec) → Prop
  | nil : Duos f s [] []
  | cons {o : Rec} {p : Rec × Rec} {l : List Rec} {d : List (Rec × Rec)} (h : Duo f s o p) (t : Duos f s l d) : Duos f s (o :: l) (p :: d)
theorem recsB_1 {f s : Int} : ∀ {l : List Rec}, recsB f s l 1 = true → ∀ r, r ∈ l → recB r f s = true ∧ r.kind ≠ 3
  | [], _, r, hr => by cases hr
  | x :: l, h, r, hr => by
    unfold recsB at h
    simp only [Bool.and_eq_true] at h
    obtain ⟨⟨h1, h2⟩, h3⟩ := h
    have k3 : (x.kind == 3) = false := by
      unfold kindB at h2
      simp only [Bool.and_eq_true, Bool.not_eq_true'] at h2
      simpa using h2.1
    unfold nextF at h3
    rw [k3, cond_false] at h3
    rcases List.mem_cons.1 hr with rfl | hr
    · exact ⟨h1, by simpa using k3⟩
    · exact recsB_1 h3 r hr
theorem recsB_2 {f s : Int} : ∀ {l : List Rec}, recsB f s l 2 = true → ∀ r, r ∈ l → Pen r
  | [], _, r, hr => by cases hr
  | x :: l, h, r, hr => by
    unfold recsB at h
    simp only [Bool.and_eq_true] at h
    obtain ⟨⟨h1, h2⟩, h3⟩ := h
    have k : (x.kind == 3) = false ∧ (x.kind == 2) = false := by
      unfold kindB at h2
      simpa using h2
    unfold nextF at h3
    rw [k.1, cond_false] at h3
    rcases List.mem_cons.1 hr with rfl | hr
    · exact pen_of h1 (by simpa using k.2) (by simpa using k.1)
    · exact recsB_2 h3 r hr
theorem pt_ok {f s : Int} {o : Rec} {p : Rec × Rec} (h : Duo f s o p) (t : Int) : recB (ptAt t p) f s = true ∧ (ptAt t p).kind ≠ 3 ∧ (ptAt t p).sh := by
  unfold ptAt
  cases h with
  | set k e h =>
    rw [e, if_pos k]
    refine ⟨h, by show o.kind ≠ 3; omega, ?_⟩
    obtain ⟨⟨a, _⟩, _⟩ := recB_set h k
    obtain ⟨a1, a2⟩ := noLi_r a
    refine ⟨by rw [a1]; exact Nat.zero_le _, by rw [a2]; exact Nat.zero_le _, ?_⟩
    show Shorts o.fills
    rw [a1]; intro f hf; cases hf
  | pen k a b e h =>
    rw [if_neg (pen2 a)]
    have q := Pen.bt a b e t
    exact ⟨q.recB f s, pen3 q, Nat.zero_le _, Nat.zero_le _, fun f hf => by cases hf⟩
theorem Duos.right {f s : Int} : ∀ {l : List Rec} {d : List (Rec × Rec)}, Duos f s l d → ∀ t : Int, recsB f s (d.map (ptAt t)) 0 = true ∧ Shs (d.map (ptAt t)) ∧ d.length = l.length
  | _, _, .nil, t => ⟨rfl, (fun r hr => by cases hr), rfl⟩
  | _, _, .cons (o := o) (p := p) (l := l) (d := d) h q, t => by
    obtain ⟨a1, a2, a3⟩ := pt_ok h t
    obtain ⟨b1, b2, b3⟩ := Duos.right q t
    refine ⟨?_, ?_, by simp [b3]⟩
    · rw [List.map_cons]
      unfold recsB
      have k3 : ((ptAt t p).kind == 3) = false := by simpa using a2
      rw [a1]
      unfold kindB nextF
      rw [k3, cond_false]
      simp only [zq11, zq17, zq9]
      rw [b1, Bool.and_true]
      simp
    · intro r hr
      rw [List.map_cons] at hr
      rcases List.mem_cons.1 hr with rfl | hr
      · exact a3
      · exact b2 r hr
end Go.AI
set_option linter.unusedVariables false
set_option linter.unusedSimpArgs false
set_option maxRecDepth 100000
namespace Go.AI
open Go Go.Proofs

/-! ### the loops -/
structure Rt (m : Mor) : Prop where
  id : 0 ≤ m.id ∧ m.id ≤ 65535
  fr : frB4 m.fr = true
  to : frB4 m.to = true
  l1 : listsB m.fills m.strks = true
  l2 : listsB m.tofl m.tost = true
  p : pairsB m.fills m.tofl = true
  n : m.strks.length = m.tost.length
  r : rightRecs (m.fills.length : Nat) (m.strks.length : Nat) m.recs 1 = true
  t : rightRecs 0 0 m.targ 2 = true
theorem right10_r {m : Mor} (h : right10 m = true) : Rt m := by
  unfold right10 at h
  simp only [Bool.and_eq_true, decide_eq_true_eq, beq_iff_eq] at h
  obtain ⟨h1, h2, h3, h4, h5, h6, h7, h8, h9, h10⟩ := h
  exact ⟨by omega, h3, h4, h5, h6, h7, by omega, h9, h10⟩
theorem Rt.recs {m : Mor} (h : Rt m) : m.recs.length ≤ 512 ∧ m.targ.length ≤ 512 ∧ (∀ r, r ∈ m.recs → recB r (m.fills.length : Nat) (m.strks.length : Nat) = true ∧ r.kind ≠ 3) ∧ (∀ r, r ∈ m.targ → Pen r) := by
  obtain ⟨_, _, _, a, b⟩ := rightRecs_r h.r
  obtain ⟨_, _, _, c, d⟩ := rightRecs_r h.t
  exact ⟨a, c, recsB_1 b, recsB_2 d⟩
end Go.AI
set_option linter.unusedVariables false
set_option linter.unusedSimpArgs false
set_option maxRecDepth 100000
namespace Go.AI
open Go Go.Proofs

def psS : List Stop → List Stop → List UInt8
  | x :: l, y :: m => oneS x.ratio ++ (rgbaS x.color ++ (oneS y.ratio ++ (rgbaS y.color ++ psS l m)))
  | _, _ => []
def pfS (a b : Fill) : List UInt8 := oneS a.kind ++ (bif kindS a.kind then rgbaS a.color ++ rgbaS b.color else bif kindP a.kind then twoS a.id ++ (matS a.mat ++ matS b.mat) else matS a.mat ++ (matS b.mat ++ (oneS (64 * a.spread + a.stops.length) ++ psS a.stops b.stops)))
def pfsS : List Fill → List Fill → List UInt8
  | x :: l, y :: m => pfS x y ++ pfsS l m
  | _, _ => []
def spS (a b : Strk) : List UInt8 := twoS a.width ++ (twoS b.width ++ (rgbaS a.color ++ rgbaS b.color))
def spsS : List Strk → List Strk → List UInt8
  | x :: l, y :: m => spS x y ++ spsS l m
  | _, _ => []
theorem psS_len : ∀ l m : List Stop, (psS l m).length ≤ 10 * l.length
  | [], _ => by simp [psS]
  | _ :: _, [] => by simp [psS]
  | x :: l, y :: m => by
    have := psS_len l m
    simp only [psS, List.length_append, List.length_cons]
    show 1 + (4 + (1 + (4 + _))) ≤ _
    omega
theorem pfS_len {a b : Fill} (ha : fillB a = true) (hb : fillB b = true) (hp : pairB a b = true) : (pfS a b).length ≤ 900 := by
  obtain ⟨p1, p2, p3, p4⟩ := pairB_r hp
  unfold pfS
  cases k : kindS a.kind with
  | true => simp only [zq5, List.length_append]; show 1 + (4 + 4) ≤ _; omega
  | false =>
    have k1 : kindS b.kind = false := by rw [← p1]; exact k
    cases k' : kindP a.kind with
    | true =>
      have := matS_len (fillB_pic ha k k').1
      have := matS_len (fillB_pic hb k1 (by rw [← p1]; exact k')).1
      simp only [zq5, zq6, List.length_append]; show 1 + (2 + _) ≤ _; omega
    | false =>
      obtain ⟨_, _, _, hm, _, _, _, h8⟩ := fillB_grad ha k k'
      obtain ⟨_, _, _, hm', _⟩ := fillB_grad hb k1 (by rw [← p1]; exact k')
      have := matS_len hm
      have := matS_len hm'
      have := psS_len a.stops b.stops
      simp only [zq6, List.length_append]; show 1 + (_ + (_ + (1 + _))) ≤ _; omega
theorem pfsS_len : ∀ (l m : List Fill), (∀ f, f ∈ l → fillB f = true) → (∀ f, f ∈ m → fillB f = true) → pairsB l m = true → (pfsS l m).length ≤ 900 * l.length
  | [], _, _, _, _ => by simp [pfsS]
  | _ :: _, [], _, _, _ => by simp [pfsS]
  | x :: l, y :: m, hl, hm, h => by
    unfold pairsB at h
    rw [Bool.and_eq_true] at h
    have a := pfS_len (hl x (by simp)) (hm y (by simp)) h.1
    have b := pfsS_len l m (fun f hf => hl f (by simp [hf])) (fun f hf => hm f (by simp [hf])) h.2
    simp only [pfsS, List.length_append, List.length_cons]; omega
theorem spsS_len : ∀ l m : List Strk, (spsS l m).length ≤ 12 * l.length
  | [], _ => by simp [spsS]
  | _ :: _, [] => by simp [spsS]
  | x :: l, y :: m => by
    have := spsS_len l m
    simp only [spsS, spS, List.length_append, List.length_cons]
    show 2 + (2 + (4 + 4)) + _ ≤ _
    omega
def styS (m : Mor) : List UInt8 := oneS m.fills.length ++ (pfsS m.fills m.tofl ++ (oneS m.strks.length ++ spsS m.strks m.tost))
/-- what stands in the middle -/
def innS (m : Mor) : List UInt8 := styS m ++ recsS m.fills.length m.strks.length m.recs
def frontS (m : Mor) : List UInt8 := twoS m.id ++ (rectS m.fr ++ (rectS m.to ++ fourS (innS m).length))
def put10 (m : Mor) : List UInt8 := frontS m ++ (innS m ++ recsS 0 0 m.targ)
theorem Rt.sizes {m : Mor} (R : Rt m) : (styS m).length ≤ 20000 ∧ (innS m).length ≤ 5000000 ∧ (frontS m).length ≤ 500 ∧ (put10 m).length ≤ 10000000 := by
  obtain ⟨l1, l2, l3, l4⟩ := listsB_r R.l1
  obtain ⟨k1, k2, k3, k4⟩ := listsB_r R.l2
  have a := pfsS_len m.fills m.tofl l3 k3 R.p
  have b := spsS_len m.strks m.tost
  have h1 : (styS m).length ≤ 20000 := by
    unfold styS
    simp only [List.length_append]
    show 1 + (_ + (1 + _)) ≤ _
    omega
  have c := recsS_len R.r
  simp only [Int.toNat_natCast] at c
  have h2 : (innS m).length ≤ 5000000 := by
    unfold innS
    rw [List.length_append]
    omega
  have d := rectS_len R.fr
  have e := rectS_len R.to
  have h3 : (frontS m).length ≤ 500 := by
    unfold frontS
    simp only [List.length_append]
    show 2 + (_ + (_ + 4)) ≤ _
    omega
  have g := recsS_len R.t
  have g : (recsS 0 0 m.targ).length ≤ 9000 * 512 + 100 := g
  refine ⟨h1, h2, h3, ?_⟩
  unfold put10
  simp only [List.length_append]
  omega
/-! ### read back -/
theorem ps_back : ∀ (l m : List Stop) (u v : Int), 0 ≤ u → 0 ≤ v → stopsB u l = true → stopsB v m = true → l.length = m.length → ∀ s t : List UInt8, psP l.length u v (rdAt s (psS l m ++ t)) = ((l, m), rdAt (s ++ psS l m) t)
  | [], [], _, _, _, _, _, _, _, s, t => by simp [psP, psS]
  | [], _ :: _, _, _, _, _, _, _, h, _, _ => by cases h
  | _ :: _, [], _, _, _, _, _, _, h, _, _ => by cases h
  | x :: l, y :: m, u, v, u0, v0, h, k, hl, s, t => by
    obtain ⟨hc, hr, h1, h2⟩ := stopsB_cons h
    obtain ⟨kc, kr, k1, k2⟩ := stopsB_cons k
    have e1 := lit1_back (n := x.ratio) (by omega) (by omega) s (rgbaS x.color ++ (oneS y.ratio ++ (rgbaS y.color ++ (psS l m ++ t))))
    have e2 := col_back hc (s ++ oneS x.ratio) (oneS y.ratio ++ (rgbaS y.color ++ (psS l m ++ t)))
    have e3 := lit1_back (n := y.ratio) (by omega) (by omega) (s ++ oneS x.ratio ++ rgbaS x.color) (rgbaS y.color ++ (psS l m ++ t))
    have e4 := col_back kc (s ++ oneS x.ratio ++ rgbaS x.color ++ oneS y.ratio) (psS l m ++ t)
    have e5 := ps_back l m x.ratio y.ratio (by omega) (by omega) hr kr (by simpa using hl) (s ++ oneS x.ratio ++ rgbaS x.color ++ oneS y.ratio ++ rgbaS y.color) t
    have e : ps1 u v (rdAt s (psS (x :: l) (y :: m) ++ t)) = ((x, y), rdAt (s ++ oneS x.ratio ++ rgbaS x.color ++ oneS y.ratio ++ rgbaS y.color) (psS l m ++ t)) := by
      unfold ps1
      simp only [psS, List.append_assoc] at e1 e2 e3 e4 ⊢
      rw [e1]
      dsimp only
      rw [e2]
      dsimp only
      rw [e3]
      dsimp only
      rw [decide_eq_false (p := x.ratio < u) (by omega), decide_eq_false (p := y.ratio < v) (by omega)]
      simp only [Bool.or_self, zq10, zq6]
      rw [e4]
    unfold psP
    simp only [List.length_cons]
    rw [e]
    dsimp only
    rw [e5]
    simp [psS]
theorem pf_back {a b : Fill} (ha : fillB a = true) (hb : fillB b = true) (hp : pairB a b = true) (s t : List UInt8) : pfP (rdAt s (pfS a b ++ t)) = ((a, b), rdAt (s ++ pfS a b) t) := by
  obtain ⟨p1, p2, p3, p4⟩ := pairB_r hp
  have k0 : 0 ≤ a.kind ∧ a.kind < 256 := by
    cases k : kindS a.kind with
    | true => unfold kindS at k; simp only [beq_iff_eq] at k; omega
    | false =>
      cases k' : kindP a.kind with
      | true => unfold kindP at k'; simp only [Bool.or_eq_true, beq_iff_eq] at k'; omega
      | false => have := (fillB_grad ha k k').1; unfold kindG at this; simp only [Bool.or_eq_true, beq_iff_eq] at this; omega
  unfold pfP
  cases k : kindS a.kind with
  | true =>
    have kb : kindS b.kind = true := by rw [← p1]; exact k
    obtain ⟨hc, hf⟩ := fillB_solid ha k
    obtain ⟨kc, kf⟩ := fillB_solid hb kb
    have e0 : pfS a b = oneS a.kind ++ (rgbaS a.color ++ rgbaS b.color) := by unfold pfS; rw [k]; rfl
    have e1 := lit1_back k0.1 k0.2 s (rgbaS a.color ++ (rgbaS b.color ++ t))
    have e2 := col_back hc (s ++ oneS a.kind) (rgbaS b.color ++ t)
    have e3 := col_back kc (s ++ oneS a.kind ++ rgbaS a.color) t
    rw [e0]
    simp only [List.append_assoc] at e1 e2 e3 ⊢
    rw [e1]
    dsimp only
    rw [k, cond_true, e2]
    dsimp only
    rw [e3]
    have q1 : (⟨a.kind, a.color, (0, 0, 0, 0, 0, 0), 0, [], 0⟩ : Fill) = a := by rw [show a.kind = 0 by rw [hf]]; exact hf.symm
    have q2 : (⟨a.kind, b.color, (0, 0, 0, 0, 0, 0), 0, [], 0⟩ : Fill) = b := by rw [show a.kind = 0 by rw [hf]]; exact kf.symm
    simp only [q1, q2]
  | false =>
    have kb : kindS b.kind = false := by rw [← p1]; exact k
    cases k' : kindP a.kind with
    | true =>
      have kb' : kindP b.kind = true := by rw [← p1]; exact k'
      obtain ⟨hm, h1, h2, hf⟩ := fillB_pic ha k k'
      obtain ⟨km, k1, k2, kf⟩ := fillB_pic hb kb kb'
      have e0 : pfS a b = oneS a.kind ++ (twoS a.id ++ (matS a.mat ++ matS b.mat)) := by unfold pfS; rw [k, k']; rfl
      have e1 := lit1_back k0.1 k0.2 s (twoS a.id ++ (matS a.mat ++ (matS b.mat ++ t)))
      have e2 := lit2_back h1 h2 (s ++ oneS a.kind) (matS a.mat ++ (matS b.mat ++ t))
      have e3 := mt_back hm (s ++ oneS a.kind ++ twoS a.id) (matS b.mat ++ t)
      have e4 := mt_back km (s ++ oneS a.kind ++ twoS a.id ++ matS a.mat) t
      rw [e0]
      simp only [List.append_assoc] at e1 e2 e3 e4 ⊢
      rw [e1]
      dsimp only
      rw [k, cond_false, k', cond_true, e2]
      dsimp only
      rw [e3]
      dsimp only
      rw [e4]
      have q1 : (⟨a.kind, (0, 0, 0, 0), a.mat, 0, [], a.id⟩ : Fill) = a := hf.symm
      have q2 : (⟨a.kind, (0, 0, 0, 0), b.mat, 0, [], a.id⟩ : Fill) = b := by rw [p1, p3]; exact kf.symm
      simp only [q1, q2]
    | false =>
      have kb' : kindP b.kind = false := by rw [← p1]; exact k'
      obtain ⟨kg, hf, hs, hm, h1, h2, h3, h4⟩ := fillB_grad ha k k'
      obtain ⟨_, kf, ks, km, _, _, _, _⟩ := fillB_grad hb kb kb'
      have e0 : pfS a b = oneS a.kind ++ (matS a.mat ++ (matS b.mat ++ (oneS (64 * a.spread + a.stops.length) ++ psS a.stops b.stops))) := by unfold pfS; rw [k, k']; rfl
      have e1 := lit1_back k0.1 k0.2 s (matS a.mat ++ (matS b.mat ++ (oneS (64 * a.spread + a.stops.length) ++ (psS a.stops b.stops ++ t))))
      have e2 := mt_back hm (s ++ oneS a.kind) (matS b.mat ++ (oneS (64 * a.spread + a.stops.length) ++ (psS a.stops b.stops ++ t)))
      have e2' := mt_back km (s ++ oneS a.kind ++ matS a.mat) (oneS (64 * a.spread + a.stops.length) ++ (psS a.stops b.stops ++ t))
      have e3 := lit1_back (n := 64 * a.spread + a.stops.length) (by omega) (by omega) (s ++ oneS a.kind ++ matS a.mat ++ matS b.mat) (psS a.stops b.stops ++ t)
      have e4 := ps_back a.stops b.stops 0 0 (by omega) (by omega) hs ks p4 (s ++ oneS a.kind ++ matS a.mat ++ matS b.mat ++ oneS (64 * a.spread + a.stops.length)) t
      have hbd : badN (64 * a.spread + a.stops.length) = false := by
        unfold badN
        simp only [Bool.or_eq_false_iff, decide_eq_false_iff_not, beq_eq_false_iff_ne]
        omega
      rw [e0]
      simp only [List.append_assoc] at e1 e2 e2' e3 e4 ⊢
      rw [e1]
      dsimp only
      rw [k, cond_false, k', cond_false, kg, cond_true, e2]
      dsimp only
      rw [e2']
      dsimp only
      unfold gradS
      rw [e3]
      dsimp only
      rw [hbd, Bool.and_false, cond_false, show ((64 * a.spread + (a.stops.length : Int)) % 16).toNat = a.stops.length by omega, show (64 * a.spread + (a.stops.length : Int)) / 64 = a.spread by omega, e4]
      have q1 : (⟨a.kind, (0, 0, 0, 0), a.mat, a.spread, a.stops, 0⟩ : Fill) = a := hf.symm
      have q2 : (⟨a.kind, (0, 0, 0, 0), b.mat, a.spread, b.stops, 0⟩ : Fill) = b := by rw [p1, p2]; exact kf.symm
      simp only [q1, q2]
theorem pfs_back : ∀ (l m : List Fill), (∀ f, f ∈ l → fillB f = true) → (∀ f, f ∈ m → fillB f = true) → pairsB l m = true → ∀ s t : List UInt8, pairsN pfP l.length (rdAt s (pfsS l m ++ t)) = ((l, m), rdAt (s ++ pfsS l m) t)
  | [], [], _, _, _, s, t => by simp [pairsN, pfsS]
  | [], _ :: _, _, _, h, _, _ => by cases h
  | _ :: _, [], _, _, h, _, _ => by cases h
  | x :: l, y :: m, hl, hm, h, s, t => by
    unfold pairsB at h
    rw [Bool.and_eq_true] at h
    have e1 := pf_back (hl x (by simp)) (hm y (by simp)) h.1 s (pfsS l m ++ t)
    have e2 := pfs_back l m (fun f hf => hl f (by simp [hf])) (fun f hf => hm f (by simp [hf])) h.2 (s ++ pfS x y) t
    simp only [pfsS, List.length_cons, pairsN, List.append_assoc] at e1 e2 ⊢
    rw [e1]
    dsimp only
    rw [e2]
theorem sps_back : ∀ (l m : List Strk), (∀ f, f ∈ l → strkB f = true) → (∀ f, f ∈ m → strkB f = true) → l.length = m.length → ∀ s t : List UInt8, pairsN spP l.length (rdAt s (spsS l m ++ t)) = ((l, m), rdAt (s ++ spsS l m) t)
  | [], [], _, _, _, s, t => by simp [pairsN, spsS]
  | [], _ :: _, _, _, h, _, _ => by cases h
  | _ :: _, [], _, _, h, _, _ => by cases h
  | x :: l, y :: m, hl, hm, h, s, t => by
    obtain ⟨w0, w1, hc⟩ := strkB_r (hl x (by simp))
    obtain ⟨v0, v1, kc⟩ := strkB_r (hm y (by simp))
    have e0 := lit2_back w0 w1 s (twoS y.width ++ (rgbaS x.color ++ (rgbaS y.color ++ (spsS l m ++ t))))
    have e1 := lit2_back v0 v1 (s ++ twoS x.width) (rgbaS x.color ++ (rgbaS y.color ++ (spsS l m ++ t)))
    have e2 := col_back hc (s ++ twoS x.width ++ twoS y.width) (rgbaS y.color ++ (spsS l m ++ t))
    have e3 := col_back kc (s ++ twoS x.width ++ twoS y.width ++ rgbaS x.color) (spsS l m ++ t)
    have e4 := sps_back l m (fun f hf => hl f (by simp [hf])) (fun f hf => hm f (by simp [hf])) (by simpa using h) (s ++ twoS x.width ++ twoS y.width ++ rgbaS x.color ++ rgbaS y.color) t
    simp only [spsS, spS, List.length_cons, pairsN, spP, List.append_assoc] at e0 e1 e2 e3 e4 ⊢
    rw [e0]
    dsimp only
    rw [e1]
    dsimp only
    rw [e2]
    dsimp only
    rw [e3]
    dsimp only
    rw [e4]
theorem take10_back {m : Mor} (R : Rt m) : take10 (put10 m) 0 = (m, (put10 m, ((8 * (put10 m).length : Nat) : Int), 0)) := by
  obtain ⟨z1, z2, z3, z4⟩ := R.sizes
  obtain ⟨l1, l2, l3, l4⟩ := listsB_r R.l1
  obtain ⟨k1, k2, k3, k4⟩ := listsB_r R.l2
  have id0 := R.id
  have e1 := lit2_back (n := m.id) (by omega) (by omega) [] (rectS m.fr ++ (rectS m.to ++ (fourS (innS m).length ++ (innS m ++ recsS 0 0 m.targ))))
  have e2 := rc_back R.fr (twoS m.id) (rectS m.to ++ (fourS (innS m).length ++ (innS m ++ recsS 0 0 m.targ)))
  have e3 := rc_back R.to (twoS m.id ++ rectS m.fr) (fourS (innS m).length ++ (innS m ++ recsS 0 0 m.targ))
  have e4 := lit4_back (n := ((innS m).length : Nat)) (by omega) (by omega) (twoS m.id ++ rectS m.fr ++ rectS m.to) (innS m ++ recsS 0 0 m.targ)
  have hfr : frontS m = twoS m.id ++ rectS m.fr ++ rectS m.to ++ fourS (innS m).length := by unfold frontS; simp
  rw [← hfr] at e4
  have hin : innS m ++ recsS 0 0 m.targ = oneS m.fills.length ++ (pfsS m.fills m.tofl ++ (oneS m.strks.length ++ (spsS m.strks m.tost ++ (recsS m.fills.length m.strks.length m.recs ++ recsS 0 0 m.targ)))) := by unfold innS styS; simp
  have e5 := many_back l1 (frontS m) (pfsS m.fills m.tofl ++ (oneS m.strks.length ++ (spsS m.strks m.tost ++ (recsS m.fills.length m.strks.length m.recs ++ recsS 0 0 m.targ))))
  have e6 := pfs_back m.fills m.tofl l3 k3 R.p (frontS m ++ oneS m.fills.length) (oneS m.strks.length ++ (spsS m.strks m.tost ++ (recsS m.fills.length m.strks.length m.recs ++ recsS 0 0 m.targ)))
  have e7 := many_back l2 (frontS m ++ oneS m.fills.length ++ pfsS m.fills m.tofl) (spsS m.strks m.tost ++ (recsS m.fills.length m.strks.length m.recs ++ recsS 0 0 m.targ))
  have e8 := sps_back m.strks m.tost l4 k4 R.n (frontS m ++ oneS m.fills.length ++ pfsS m.fills m.tofl ++ oneS m.strks.length) (recsS m.fills.length m.strks.length m.recs ++ recsS 0 0 m.targ)
  have e9 := rcs_back R.r (frontS m ++ oneS m.fills.length ++ pfsS m.fills m.tofl ++ oneS m.strks.length ++ spsS m.strks m.tost) (recsS 0 0 m.targ)
  simp only [Int.toNat_natCast] at e9
  have hA : frontS m ++ oneS m.fills.length ++ pfsS m.fills m.tofl ++ oneS m.strks.length ++ spsS m.strks m.tost ++ recsS m.fills.length m.strks.length m.recs = frontS m ++ innS m := by unfold innS styS; simp
  rw [hA] at e9
  have e10 := rcs_back R.t (frontS m ++ innS m) []
  rw [List.append_nil] at e10
  have e10 : rcs (rdAt (frontS m ++ innS m) (recsS 0 0 m.targ)) 0 0 2 = (m.targ, rdAt (frontS m ++ innS m ++ recsS 0 0 m.targ) []) := e10
  have hst : ((put10 m, 0, 0) : Rs) = rdAt [] (twoS m.id ++ (rectS m.fr ++ (rectS m.to ++ (fourS (innS m).length ++ (innS m ++ recsS 0 0 m.targ))))) := by
    unfold rdAt put10 frontS
    simp
  unfold take10 tail10 fin10
  dsimp only
  rw [hst, e1]
  dsimp only
  rw [List.nil_append, e2]
  dsimp only
  rw [e3]
  dsimp only
  rw [e4]
  dsimp only
  rw [hin, e5]
  dsimp only
  rw [Int.toNat_natCast, e6]
  dsimp only
  rw [e7]
  dsimp only
  rw [Int.toNat_natCast, e8]
  dsimp only
  rw [e9]
  dsimp only
  rw [e10]
  dsimp only
  have c1 : Int.tdiv (rdAt (frontS m ++ innS m) (recsS 0 0 m.targ)).2.1 8 = ((frontS m ++ innS m).length : Nat) := by
    show Int.tdiv (((8 * (frontS m ++ innS m).length : Nat)) : Int) 8 = _
    rw [Int.tdiv_eq_ediv_of_nonneg (by omega)]; omega
  have c2 : ∀ t, Int.tdiv (rdAt (frontS m) t).2.1 8 = ((frontS m).length : Nat) := fun t => by
    show Int.tdiv (((8 * (frontS m).length : Nat)) : Int) 8 = _
    rw [Int.tdiv_eq_ediv_of_nonneg (by omega)]; omega
  rw [c1, c2]
  have hl : (frontS m ++ innS m).length = (frontS m).length + (innS m).length := List.length_append
  rw [hl, wrap64 (n := (((frontS m).length + (innS m).length : Nat) : Int)) (by omega) (by omega), wrap64 (n := (((frontS m).length : Nat) : Int)) (by omega) (by omega), wrap64 (by omega) (by omega)]
  have hne : (((((frontS m).length + (innS m).length : Nat) : Int) - (((frontS m).length : Nat) : Int)) != (((innS m).length : Nat) : Int)) = false := by simp; omega
  rw [hne, cond_false]
  have hz : ((rdAt (frontS m ++ innS m ++ recsS 0 0 m.targ) []).2.2 != 0) = false := rfl
  rw [hz, cond_false]
  unfold rdAt put10
  simp
end Go.AI
set_option linter.unusedVariables false
set_option linter.unusedSimpArgs false
set_option maxRecDepth 100000
namespace Go.AI
open Go Go.Proofs

theorem mbyte_c {s : List UInt8} (hs : s.length ≤ 500000000) (f n : Int) : cW f_q169 [.s s, .i f, .i n] [] = some ([.s (s ++ oneS n), .i 0], []) := by
  rw [w_q169, toBytes_oneS, (putBytes_ans (t := oneS n) (by show _ + 1 ≤ _; omega) f).c]
  rfl
theorem mfill_loop {l m : List Stop} (hl : l.length ≤ 8) (b1 b2 b3 b4 b5 b6 b7 b8 b9 b10 b11 b12 b13 : Int) : ∀ (rest pre g q : List Stop) (s : List UInt8) (u v : Int), l = pre ++ rest → m = q ++ g → q.length = pre.length → rest.length = g.length → stopsB u rest = true → stopsB v g = true → s.length + 10 * rest.length ≤ 440000000 →
    rW f_q192 [] at_q132 (S_q132 (l.map Stop.e) l.length pre.length s 0 b1 b2 b3 b4 b5 b6 b7 b8 b9 b10 b11 b12 (m.map Stop.e) b13 [] 0) = some ([.s (s ++ psS rest g), .i 0], [])
  | [], pre, [], q, s, u, v, h, h', hq, hn, hb, kb, hs => by
    rw [w_q132]
    simp only [el_end h, psS, List.append_nil, zcf]
  | [], pre, y :: g, q, s, u, v, h, h', hq, hn, hb, kb, hs => by cases hn
  | x :: rest, pre, [], q, s, u, v, h, h', hq, hn, hb, kb, hs => by cases hn
  | x :: rest, pre, y :: g, q, s, u, v, h, h', hq, hn, hb, kb, hs => by
    have hm : m.length ≤ 2 ^ 40 := by rw [h']; rw [h] at hl; simp at hl hn ⊢; omega
    obtain ⟨h1, h2, h3, h4, h5⟩ := el_step Stop.e h (Nat.le_trans hl (by decide))
    obtain ⟨_, k2, k3, _, k5⟩ := el_step Stop.e h' hm
    rw [hq] at k2 k3
    obtain ⟨hc, hr, _, _⟩ := stopsB_cons hb
    obtain ⟨kc, kr, _, _⟩ := stopsB_cons kb
    simp only [List.length_cons] at hs
    have e1 := mbyte_c (s := s) (by omega) 0 x.ratio
    have e2 := putK_c (s := s ++ oneS x.ratio) (by simp [oneS]; omega) 0 hc
    have e3 := mbyte_c (s := s ++ oneS x.ratio ++ rgbaS x.color) (by simp [oneS, rgbaS]; omega) 0 y.ratio
    have e4 := putK_c (s := s ++ oneS x.ratio ++ rgbaS x.color ++ oneS y.ratio) (by simp [oneS, rgbaS]; omega) 0 kc
    rw [w_q132]
    simp only [h1, h2, h3, h4, k2, k3, Stop.e, e1, e2, e3, e4, zcf]
    have := mfill_loop hl b1 b2 b3 b4 b5 b6 b7 b8 b9 b10 b11 b12 b13 rest _ g (q ++ [y]) (s ++ oneS x.ratio ++ rgbaS x.color ++ oneS y.ratio ++ rgbaS y.color) x.ratio y.ratio h5 k5 (by simp [hq]) (by simpa using hn) hr kr (by simp [oneS, rgbaS]; omega)
    simpa [psS] using this
theorem mfill_c {a b : Fill} (ha : fillB a = true) (hb : fillB b = true) (hp : pairB a b = true) {s : List UInt8} (hs : s.length ≤ 400000000) (fr : Int) : cW f_q192 ([.s s, .i fr] ++ (a.e ++ b.e)) [] = some ([.s (s ++ pfS a b), .i 0], []) := by
  obtain ⟨p1, p2, p3, p4⟩ := pairB_r hp
  simp only [Fill.e, List.cons_append, List.nil_append]
  rw [w_q192]
  have hs1 : (s ++ oneS a.kind).length ≤ 400000001 := by simp [oneS]; omega
  simp only [mbyte_c (s := s) (by omega), zcf]
  unfold pfS
  show (bif kindS a.kind then _ else _) = _
  cases k : kindS a.kind with
  | true =>
    have kb : kindS b.kind = true := by rw [← p1]; exact k
    have e1 := putK_c (s := s ++ oneS a.kind) (by omega) 0 (fillB_solid ha k).1
    have e2 := putK_c (s := s ++ oneS a.kind ++ rgbaS a.color) (by simp [oneS, rgbaS]; omega) 0 (fillB_solid hb kb).1
    simp only [e1, e2, zcf]
    simp
  | false =>
    have kb : kindS b.kind = false := by rw [← p1]; exact k
    have hcond : (bif a.kind == 64 then some [PV.b true] else some [PV.b (a.kind == 65)]) = some [PV.b (kindP a.kind)] := by
      unfold kindP
      cases (a.kind == 64) <;> rfl
    simp only [zq6]
    have hor : ((a.kind == 64) || (a.kind == 65)) = kindP a.kind := rfl
    cases k' : kindP a.kind with
    | true =>
      have kb' : kindP b.kind = true := by rw [← p1]; exact k'
      rw [k'] at hor
      obtain ⟨hm, h0, h1, _⟩ := fillB_pic ha k k'
      obtain ⟨km, _⟩ := fillB_pic hb kb kb'
      have e0 := putLittle2_c (s := s ++ oneS a.kind) (by omega) 0 h0 h1
      have e1 := putMat_c (s := s ++ oneS a.kind ++ twoS a.id) (by simp [oneS, twoS]; omega) 0 hm
      have hml := matS_len hm
      have e2 := putMat_c (s := s ++ oneS a.kind ++ twoS a.id ++ matS a.mat) (by simp [oneS, twoS]; omega) 0 km
      simp only [hor, e0, e1, e2, zcf]
      simp
    | false =>
      have kb' : kindP b.kind = false := by rw [← p1]; exact k'
      rw [k'] at hor
      obtain ⟨_, _, hsb, hm, h0, h2, _, h8⟩ := fillB_grad ha k k'
      obtain ⟨_, _, ksb, km, _⟩ := fillB_grad hb kb kb'
      have hml := matS_len hm
      have kml := matS_len km
      have e1 := putMat_c (s := s ++ oneS a.kind) (by omega) 0 hm
      have e2 := putMat_c (s := s ++ oneS a.kind ++ matS a.mat) (by simp [oneS]; omega) 0 km
      have e3 := mbyte_c (s := s ++ oneS a.kind ++ matS a.mat ++ matS b.mat) (by simp [oneS]; omega) 0 (64 * a.spread + a.stops.length)
      have e4 := mfill_loop (l := a.stops) (m := b.stops) h8 b.kind b.color.1 b.color.2.1 b.color.2.2.1 b.color.2.2.2 b.mat.1 b.mat.2.1 b.mat.2.2.1 b.mat.2.2.2.1 b.mat.2.2.2.2.1 b.mat.2.2.2.2.2 b.spread b.id a.stops [] b.stops [] (s ++ oneS a.kind ++ matS a.mat ++ matS b.mat ++ oneS (64 * a.spread + a.stops.length)) 0 0 rfl rfl rfl p4 hsb ksb (by simp [oneS]; omega)
      rw [show IntKind.wrap .i64 ((IntKind.wrap .i64 (a.spread * 64)) + ((a.stops.length : Nat) : Int)) = 64 * a.spread + a.stops.length by rw [wrap64 (n := a.spread * 64) (by omega) (by omega), wrap64 (by omega) (by omega)]; omega]
      simp only [hor, e1, e2, e3, zcf]
      rw [show ((([] : List Stop).length : Nat) : Int) = 0 from rfl] at e4
      rw [e4]
      simp
theorem putRect_S {s : List UInt8} (hs : s.length ≤ 400000000) (fr : Int) {c : I4} (h : frB4 c = true) : cW f_q194 [.s s, .i fr, .i c.1, .i c.2.1, .i c.2.2.1, .i c.2.2.2] [] = some ([.s (s ++ rectS c), .i 0, .i 0], []) := by
  rw [(putRect_ans (s := s) (by omega) fr c.1 c.2.1 c.2.2.1 c.2.2.2).c]
  unfold putRectF
  rw [if_pos (show rectB c.1 c.2.1 c.2.2.1 c.2.2.2 = true from h), rect_behind]
  rfl
noncomputable abbrev B0 (m : Mor) (i : Int) (a : List UInt8) (x : List UInt8) : St := S_q161 (m.fills.map Fill.e) (m.fills.length : Nat) i a 0 m.id m.fr.1 m.fr.2.1 m.fr.2.2.1 m.fr.2.2.2 m.to.1 m.to.2.1 m.to.2.2.1 m.to.2.2.2 (m.fills.map Fill.e) (m.tofl.map Fill.e) (m.strks.map Strk.e) (m.tost.map Strk.e) (m.recs.map Rec.e) (m.targ.map Rec.e) [] 0 x 0
noncomputable abbrev B2 (m : Mor) (i : Int) (a : List UInt8) (x : List UInt8) : St := S_q162 (m.strks.map Strk.e) (m.strks.length : Nat) i a 0 m.id m.fr.1 m.fr.2.1 m.fr.2.2.1 m.fr.2.2.2 m.to.1 m.to.2.1 m.to.2.2.1 m.to.2.2.2 (m.fills.map Fill.e) (m.tofl.map Fill.e) (m.strks.map Strk.e) (m.tost.map Strk.e) (m.recs.map Rec.e) (m.targ.map Rec.e) [] 0 x 0
theorem mput_loop2 {m : Mor} (R : Rt m) (h : m.sh) (A : List UInt8) (hA : A.length ≤ 1000) (S0 : List UInt8) (hS : S0 ++ spsS m.strks m.tost = styS m) : ∀ (rest pre g q : List Strk) (x : List UInt8), m.strks = pre ++ rest → m.tost = q ++ g → q.length = pre.length → rest.length = g.length → x ++ spsS rest g = styS m →
    rW f_q177 [] at_q162 (B2 m pre.length A x) = some ([.s (A ++ fourS (innS m).length ++ innS m ++ recsS 0 0 m.targ), .i 0, .i 0], [])
  | [], pre, [], q, x, h1, h', hq, hn, hx => by
    obtain ⟨z1, z2, z3, z4⟩ := R.sizes
    have hx : x = styS m := by simpa [spsS] using hx
    subst hx
    have e1 := PutRecords_c (S := styS m) (by omega) h.r h.rr 0 (m.fills.length : Nat) (m.strks.length : Nat) 1
    unfold putRecsF at e1
    rw [R.r, cond_true, recsT_S] at e1
    simp only [Int.toNat_natCast] at e1
    rw [show styS m ++ recsS m.fills.length m.strks.length m.recs = innS m from rfl] at e1
    have e2 : cW f_q102 [.s A, .i 0, .i (((innS m).length : Nat) : Int), .i 4] [] = some ([.s (A ++ fourS (innS m).length), .i 0, .i 0], []) := by
      rw [(putLittle_ans (s := A) (by omega) 0 (((innS m).length : Nat) : Int) 4 (by omega)).c]
      unfold putLittleF encW
      have p4 : (2 : Int) ^ (8 * (4 : Int).toNat) = 4294967296 := rfl
      rw [if_neg (by rw [p4]; omega)]
      simp only
      rw [show ((4 : Int).toNat) = 4 from rfl, littleB_four (by omega) (by omega)]
    have hf4 : (fourS ((innS m).length : Nat)).length = 4 := rfl
    have e3 := (putBytes_ans (s := A ++ fourS (innS m).length) (t := innS m) (by simp only [List.length_append]; omega) 0).c
    have e4 := PutRecords_c (S := A ++ fourS (innS m).length ++ innS m) (by simp only [List.length_append]; omega) h.t h.tt 0 0 0 2
    unfold putRecsF at e4
    rw [R.t, cond_true, recsT_S] at e4
    rw [w_q162]
    simp only [el_end h1, e1, e2, e3, encW, zcf]
    simp only [e4, zcf]
    rfl
  | [], pre, y :: g, q, x, h1, h', hq, hn, hx => by cases hn
  | r :: rest, pre, [], q, x, h1, h', hq, hn, hx => by cases hn
  | r :: rest, pre, y :: g, q, x, hh, h', hq, hn, hx => by
    obtain ⟨z1, z2, z3, z4⟩ := R.sizes
    obtain ⟨_, l2, _, l4⟩ := listsB_r R.l1
    obtain ⟨_, k2', _, k4'⟩ := listsB_r R.l2
    obtain ⟨h1, h2, h3, h4, h5⟩ := el_step Strk.e hh (Nat.le_trans l2 (by decide))
    obtain ⟨_, k2, k3, _, k5⟩ := el_step Strk.e h' (Nat.le_trans k2' (by decide))
    rw [hq] at k2 k3
    obtain ⟨w0, w1, hc⟩ := strkB_r (l4 r (by rw [hh]; simp))
    obtain ⟨v0, v1, kc⟩ := strkB_r (k4' y (by rw [h']; simp))
    have hxl : x.length ≤ 20000 := by rw [← hx, List.length_append] at z1; omega
    have e1 := putLittle2_c (s := x) (by omega) 0 w0 w1
    have e2 := putLittle2_c (s := x ++ twoS r.width) (by simp [twoS]; omega) 0 v0 v1
    have e3 := putK_c (s := x ++ twoS r.width ++ twoS y.width) (by simp [twoS]; omega) 0 hc
    have e4 := putK_c (s := x ++ twoS r.width ++ twoS y.width ++ rgbaS r.color) (by simp [twoS, rgbaS]; omega) 0 kc
    rw [w_q162]
    simp only [h1, h2, h3, h4, k2, k3, Strk.e, e1, e2, e3, e4, zcf]
    exact mput_loop2 R h A hA S0 hS rest (pre ++ [r]) g (q ++ [y]) (x ++ twoS r.width ++ twoS y.width ++ rgbaS r.color ++ rgbaS y.color) h5 k5 (by simp [hq]) (by simpa using hn) (by rw [← hx]; simp [spsS, spS])
theorem mput_loop0 {m : Mor} (R : Rt m) (h : m.sh) (A : List UInt8) (hA : A.length ≤ 1000) : ∀ (rest pre g q : List Fill) (x : List UInt8), m.fills = pre ++ rest → m.tofl = q ++ g → q.length = pre.length → pairsB rest g = true → x ++ (pfsS rest g ++ (oneS m.strks.length ++ spsS m.strks m.tost)) = styS m →
    rW f_q177 [] at_q161 (B0 m pre.length A x) = some ([.s (A ++ fourS (innS m).length ++ innS m ++ recsS 0 0 m.targ), .i 0, .i 0], [])
  | [], pre, [], q, x, h1, h', hq, hn, hx => by
    obtain ⟨z1, z2, z3, z4⟩ := R.sizes
    have hx2 : x ++ oneS m.strks.length ++ spsS m.strks m.tost = styS m := by rw [← hx]; simp [pfsS]
    have hxl : x.length ≤ 20000 := by rw [← hx, List.length_append] at z1; omega
    have e := mput_loop2 R h A hA _ hx2 m.strks [] m.tost [] (x ++ oneS m.strks.length) rfl rfl rfl R.n hx2
    rw [w_q161]
    simp only [el_end h1, mbyte_c (s := x) (by omega), zcf]
    exact e
  | [], pre, y :: g, q, x, h1, h', hq, hn, hx => by cases hn
  | r :: rest, pre, [], q, x, h1, h', hq, hn, hx => by cases hn
  | r :: rest, pre, y :: g, q, x, hh, h', hq, hn, hx => by
    unfold pairsB at hn
    rw [Bool.and_eq_true] at hn
    obtain ⟨z1, z2, z3, z4⟩ := R.sizes
    obtain ⟨l1, _, l3, _⟩ := listsB_r R.l1
    obtain ⟨k1', _, k3', _⟩ := listsB_r R.l2
    obtain ⟨h1, h2, h3, h4, h5⟩ := el_step Fill.e hh (Nat.le_trans l1 (by decide))
    obtain ⟨_, k2, k3, _, k5⟩ := el_step Fill.e h' (Nat.le_trans k1' (by decide))
    rw [hq] at k2 k3
    have hxl : x.length ≤ 20000 := by rw [← hx, List.length_append] at z1; omega
    have e := mfill_c (l3 r (by rw [hh]; simp)) (k3' y (by rw [h']; simp)) hn.1 (s := x) (by omega) 0
    simp only [Fill.e, List.cons_append, List.nil_append] at e
    rw [w_q161]
    simp only [h1, h2, h3, h4, k2, k3, Fill.e, e, zcf]
    exact mput_loop0 R h A hA rest (pre ++ [r]) g (q ++ [y]) (x ++ pfS r y) h5 k5 (by simp [hq]) hn.2 (by rw [← hx]; simp [pfsS])
theorem Put10_c (m : Mor) (h : m.sh) : cW f_q177 ([.s [], .i 0] ++ m.e) [] = some (bif right10 m then ([.s (put10 m), .i 0, .i 0], []) else ([.s [], .i 0, .i 1], [])) := by
  have hR := Right10_c m h
  simp only [Mor.e, List.cons_append, List.nil_append] at hR ⊢
  rw [w_q177]
  simp only [hR, zcf]
  cases hr : right10 m with
  | false => rfl
  | true =>
    have R := right10_r hr
    have id0 := R.id
    have l1 := rectS_len R.fr
    have l2 := rectS_len R.to
    have e1 := putLittle2_c (s := []) (by decide) 0 (n := m.id) (by omega) (by omega)
    rw [List.nil_append] at e1
    have t2 : (twoS m.id).length = 2 := rfl
    have e2 := putRect_S (s := twoS m.id) (by omega) 0 R.fr
    have e3 := putRect_S (s := twoS m.id ++ rectS m.fr) (by simp only [List.length_append]; omega) 0 R.to
    have e4 := mbyte_c (s := []) (by decide) 0 ((m.fills.length : Nat) : Int)
    rw [List.nil_append] at e4
    have e := mput_loop0 R h (twoS m.id ++ rectS m.fr ++ rectS m.to) (by simp only [List.length_append]; omega) m.fills [] m.tofl [] (oneS m.fills.length) rfl rfl rfl R.p rfl
    simp only [zq16, e1, e2, e3, e4, zcf]
    refine Eq.trans e ?_
    have : twoS m.id ++ rectS m.fr ++ rectS m.to ++ fourS (innS m).length ++ innS m ++ recsS 0 0 m.targ = put10 m := by unfold put10 frontS; simp
    rw [this]
end Go.AI
set_option linter.unusedVariables false
set_option linter.unusedSimpArgs false
set_option maxRecDepth 100000
namespace Go.AI
open Go Go.Proofs

end Go.AI
set_option linter.unusedVariables false
set_option linter.unusedSimpArgs false
set_option maxRecDepth 100000
namespace Go.AI
open Go Go.Proofs

def small10 (m : Mor) : Bool := smallB m.fills m.strks && (smallB m.tofl m.tost && (smallR m.recs && smallR m.targ))
structure Mor.wf (m : Mor) : Prop where
  f : m.fills.length ≤ 9223372036854775807
  tf : m.tofl.length ≤ 9223372036854775807
  r : m.recs.length ≤ 9223372036854775807
  t : m.targ.length ≤ 9223372036854775807
  rr : ∀ r, r ∈ m.recs → r.fills.length ≤ 9223372036854775807
  tt : ∀ r, r ∈ m.targ → r.fills.length ≤ 9223372036854775807
theorem small10_c (m : Mor) (h : m.wf) : cW f_q191 m.e [] = some ([.b (small10 m)], []) := by
  unfold Mor.e
  rw [w_q191]
  simp only [small_c h.f, small_c h.tf, small9_c h.r h.rr, small9_c h.t h.tt, zcf]
  unfold small10
  rfl
theorem small10_sh {m : Mor} (h : small10 m = true) : m.sh := by
  unfold small10 at h
  simp only [Bool.and_eq_true] at h
  obtain ⟨h1, h2, h3, h4⟩ := h
  obtain ⟨a1, a2, a3⟩ := smallB_r h1
  obtain ⟨b1, b2, b3⟩ := smallB_r h2
  obtain ⟨c1, c2⟩ := smallR_r h3
  obtain ⟨d1, d2⟩ := smallR_r h4
  exact ⟨Nat.le_trans (Nat.le_of_lt a2) (by decide), Nat.le_trans (Nat.le_of_lt b2) (by decide), mem_shorts a1, mem_shorts b1, Nat.le_trans (Nat.le_of_lt a3) (by decide), Nat.le_trans (Nat.le_of_lt b3) (by decide), Nat.le_trans c1 (by decide), Nat.le_trans d1 (by decide), c2, d2⟩
/-! ### the same -/
end Go.AI
set_option linter.unusedVariables false
set_option linter.unusedSimpArgs false
set_option maxRecDepth 100000
namespace Go.AI
open Go Go.Proofs

theorem one10_c (n : Int) : cW f_q127 [.i n] [] = some ([.s (oneS n)], []) := by
  rw [w_q127, toBytes_oneS]
theorem two10_c (n : Int) : cW f_q140 [.i n] [] = some ([.s (twoS n)], []) := by
  rw [w_q140, wrapU8, wrapU8]; rfl
theorem qPutRect_S {s : List UInt8} (hs : s.length ≤ 400000000) {c : I4} (h : frB4 c = true) : cW f_q156 [.s s, .i c.1, .i c.2.1, .i c.2.2.1, .i c.2.2.2] [] = some ([.s (s ++ rectS c)], []) := by
  have h' : rectB c.1 c.2.1 c.2.2.1 c.2.2.2 = true := h
  have e := (qPutRect_ans (s := s) (by omega) h').c
  unfold putRectF at e
  rw [if_pos h', rect_behind] at e
  exact e
noncomputable abbrev D0 (m : Mor) (b : List UInt8) (i : Int) : St := S_q67 [] b i m.id m.fr.1 m.fr.2.1 m.fr.2.2.1 m.fr.2.2.2 m.to.1 m.to.2.1 m.to.2.2.1 m.to.2.2.2 (m.fills.map Fill.e) (m.tofl.map Fill.e) (m.strks.map Strk.e) (m.tost.map Strk.e) (m.recs.map Rec.e) (m.targ.map Rec.e)
noncomputable abbrev D4 (m : Mor) (b : List UInt8) (i : Int) : St := S_q99 [] b i m.id m.fr.1 m.fr.2.1 m.fr.2.2.1 m.fr.2.2.2 m.to.1 m.to.2.1 m.to.2.2.1 m.to.2.2.2 (m.fills.map Fill.e) (m.tofl.map Fill.e) (m.strks.map Strk.e) (m.tost.map Strk.e) (m.recs.map Rec.e) (m.targ.map Rec.e)
noncomputable abbrev D2 (m : Mor) (b : List UInt8) (i k : Int) (a c : Fill) : St := S_q51 [] b i k m.id m.fr.1 m.fr.2.1 m.fr.2.2.1 m.fr.2.2.2 m.to.1 m.to.2.1 m.to.2.2.1 m.to.2.2.2 (m.fills.map Fill.e) (m.tofl.map Fill.e) (m.strks.map Strk.e) (m.tost.map Strk.e) (m.recs.map Rec.e) (m.targ.map Rec.e) a.kind a.color.1 a.color.2.1 a.color.2.2.1 a.color.2.2.2 a.mat.1 a.mat.2.1 a.mat.2.2.1 a.mat.2.2.2.1 a.mat.2.2.2.2.1 a.mat.2.2.2.2.2 a.spread (a.stops.map Stop.e) a.id c.kind c.color.1 c.color.2.1 c.color.2.2.1 c.color.2.2.2 c.mat.1 c.mat.2.1 c.mat.2.2.1 c.mat.2.2.2.1 c.mat.2.2.2.2.1 c.mat.2.2.2.2.2 c.spread (c.stops.map Stop.e) c.id
theorem qput10_loop4 {m : Mor} (R : Rt m) (h : m.sh) : ∀ (rest pre g q : List Strk) (x : List UInt8), m.strks = pre ++ rest → m.tost = q ++ g → q.length = pre.length → rest.length = g.length → x ++ spsS rest g = styS m →
    rW f_q49 [] at_q99 (D4 m x pre.length) = some ([.s (put10 m)], [])
  | [], pre, [], q, x, h1, h', hq, hn, hx => by
    obtain ⟨z1, z2, z3, z4⟩ := R.sizes
    have hx : x = styS m := by simpa [spsS] using hx
    subst hx
    have id0 := R.id
    have l1 := rectS_len R.fr
    have l2 := rectS_len R.to
    have t2 : ∀ n : Int, (twoS n).length = 2 := fun _ => rfl
    have e1 := qPutRecords_c (S := styS m) (by omega) R.r
    rw [recsT_S] at e1
    simp only [Int.toNat_natCast] at e1
    rw [show styS m ++ recsS m.fills.length m.strks.length m.recs = innS m from rfl] at e1
    have e2 := qPutRect_S (s := twoS m.id) (by rw [t2]; omega) R.fr
    have e3 := qPutRect_S (s := twoS m.id ++ rectS m.fr) (by simp only [List.length_append, t2]; omega) R.to
    have f1 : Int.tmod (((innS m).length : Nat) : Int) 65536 = (((innS m).length : Nat) : Int) % 65536 := Int.tmod_eq_emod_of_nonneg (by omega)
    have f2 : IntKind.wrap .i64 (Int.tdiv (((innS m).length : Nat) : Int) 65536) = (((innS m).length : Nat) : Int) / 65536 := by rw [Int.tdiv_eq_ediv_of_nonneg (by omega), wrap64 (by omega) (by omega)]
    have k1 : decide (([] : List UInt8).length + (twoS m.id).length ≤ 1099511627776) = true := le40 (by rw [t2]; decide)
    have k2 : decide ((twoS m.id ++ rectS m.fr ++ rectS m.to).length + (twoS ((((innS m).length : Nat) : Int) % 65536)).length ≤ 1099511627776) = true := le40 (by simp only [List.length_append, t2]; omega)
    have k3 : decide ((twoS m.id ++ rectS m.fr ++ rectS m.to ++ twoS ((((innS m).length : Nat) : Int) % 65536)).length + (twoS ((((innS m).length : Nat) : Int) / 65536)).length ≤ 1099511627776) = true := le40 (by simp only [List.length_append, t2]; omega)
    have k4 : decide ((twoS m.id ++ rectS m.fr ++ rectS m.to ++ twoS ((((innS m).length : Nat) : Int) % 65536) ++ twoS ((((innS m).length : Nat) : Int) / 65536)).length + (innS m).length ≤ 1099511627776) = true := le40 (by simp only [List.length_append, t2]; omega)
    have e4 := qPutRecords_c (S := twoS m.id ++ rectS m.fr ++ rectS m.to ++ twoS ((((innS m).length : Nat) : Int) % 65536) ++ twoS ((((innS m).length : Nat) : Int) / 65536) ++ innS m) (by simp only [List.length_append, t2]; omega) R.t
    rw [recsT_S] at e4
    rw [w_q99]
    simp only [el_end h1, e1, two10_c, k1, List.nil_append, e2, e3, f1, f2, k2, k3, k4, e4, zcf]
    have : twoS m.id ++ rectS m.fr ++ rectS m.to ++ twoS ((((innS m).length : Nat) : Int) % 65536) ++ twoS ((((innS m).length : Nat) : Int) / 65536) ++ innS m ++ recsS 0 0 m.targ = put10 m := by unfold put10 frontS fourS; simp
    exact congrArg (fun z => some ([PV.s z], ([] : List BX))) this
  | [], pre, y :: g, q, x, h1, h', hq, hn, hx => by cases hn
  | r :: rest, pre, [], q, x, h1, h', hq, hn, hx => by cases hn
  | r :: rest, pre, y :: g, q, x, hh, h', hq, hn, hx => by
    obtain ⟨z1, z2, z3, z4⟩ := R.sizes
    obtain ⟨_, l2, _, l4⟩ := listsB_r R.l1
    obtain ⟨_, k2', _, k4'⟩ := listsB_r R.l2
    obtain ⟨h1, h2, h3, h4, h5⟩ := el_step Strk.e hh (Nat.le_trans l2 (by decide))
    obtain ⟨_, k2, k3, _, k5⟩ := el_step Strk.e h' (Nat.le_trans k2' (by decide))
    rw [hq] at k2 k3
    obtain ⟨w0, w1, hc⟩ := strkB_r (l4 r (by rw [hh]; simp))
    obtain ⟨v0, v1, kc⟩ := strkB_r (k4' y (by rw [h']; simp))
    have hxl : x.length ≤ 20000 := by rw [← hx, List.length_append] at z1; omega
    have t2 : ∀ n : Int, (twoS n).length = 2 := fun _ => rfl
    have c1 : decide (x.length + (twoS r.width).length ≤ 1099511627776) = true := le40 (by rw [t2]; omega)
    have c2 : decide ((x ++ twoS r.width).length + (twoS y.width).length ≤ 1099511627776) = true := le40 (by simp only [List.length_append, t2]; omega)
    have e3 := qPutK_c (s := x ++ twoS r.width ++ twoS y.width) (by simp only [List.length_append, t2]; omega) hc
    have e4 := qPutK_c (s := x ++ twoS r.width ++ twoS y.width ++ rgbaS r.color) (by simp [twoS, rgbaS]; omega) kc
    rw [w_q99]
    simp only [h1, h2, h3, h4, k2, k3, Strk.e, two10_c, c1, c2, e3, e4, zcf]
    exact qput10_loop4 R h rest (pre ++ [r]) g (q ++ [y]) (x ++ twoS r.width ++ twoS y.width ++ rgbaS r.color ++ rgbaS y.color) h5 k5 (by simp [hq]) (by simpa using hn) (by rw [← hx]; simp [spsS, spS])
theorem qput10_loop2 {m : Mor} (i : Int) (a c : Fill) (hl : a.stops.length ≤ 8) (r : Res) : ∀ (rest pre g q : List Stop) (s : List UInt8) (u v : Int), a.stops = pre ++ rest → c.stops = q ++ g → q.length = pre.length → rest.length = g.length → stopsB u rest = true → stopsB v g = true → s.length + 10 * rest.length ≤ 440000000 →
    rW f_q49 [] at_q67 (D0 m (s ++ psS rest g) (IntKind.wrap .i64 (i + 1))) = some r →
    rW f_q49 [] at_q51 (D2 m s i pre.length a c) = some r
  | [], pre, [], q, s, u, v, h, h', hq, hn, hb, kb, hs, hr => by
    rw [w_q51]
    simp only [el_end h, zcf]
    simpa [psS] using hr
  | [], pre, y :: g, q, s, u, v, h, h', hq, hn, hb, kb, hs, hr => by cases hn
  | x :: rest, pre, [], q, s, u, v, h, h', hq, hn, hb, kb, hs, hr => by cases hn
  | x :: rest, pre, y :: g, q, s, u, v, h, h', hq, hn, hb, kb, hs, hr => by
    have hm : c.stops.length ≤ 2 ^ 40 := by rw [h']; rw [h] at hl; simp at hl hn ⊢; omega
    obtain ⟨h1, h2, h3, h4, h5⟩ := el_step Stop.e h (Nat.le_trans hl (by decide))
    obtain ⟨_, k2, k3, _, k5⟩ := el_step Stop.e h' hm
    rw [hq] at k2 k3
    obtain ⟨hc, hr', _, _⟩ := stopsB_cons hb
    obtain ⟨kc, kr, _, _⟩ := stopsB_cons kb
    simp only [List.length_cons] at hs
    have t1 : ∀ n : Int, (oneS n).length = 1 := fun _ => rfl
    have t4 : ∀ n : I4, (rgbaS n).length = 4 := fun _ => rfl
    have c1 : decide (s.length + (oneS x.ratio).length ≤ 1099511627776) = true := le40 (by rw [t1]; omega)
    have e2 := qPutK_c (s := s ++ oneS x.ratio) (by simp only [List.length_append, t1]; omega) hc
    have c3 : decide ((s ++ oneS x.ratio ++ rgbaS x.color).length + (oneS y.ratio).length ≤ 1099511627776) = true := le40 (by simp only [List.length_append, t1, t4]; omega)
    have e4 := qPutK_c (s := s ++ oneS x.ratio ++ rgbaS x.color ++ oneS y.ratio) (by simp only [List.length_append, t1, t4]; omega) kc
    rw [w_q51]
    simp only [h1, h2, h3, h4, k2, k3, Stop.e, one10_c, c1, e2, c3, e4, zcf]
    exact qput10_loop2 i a c hl r rest _ g (q ++ [y]) (s ++ oneS x.ratio ++ rgbaS x.color ++ oneS y.ratio ++ rgbaS y.color) x.ratio y.ratio h5 k5 (by simp [hq]) (by simpa using hn) hr' kr (by simp only [List.length_append, t1, t4]; omega) (by simpa [psS] using hr)
theorem qput10_loop0 {m : Mor} (R : Rt m) (h : m.sh) : ∀ (rest pre g q : List Fill) (x : List UInt8), m.fills = pre ++ rest → m.tofl = q ++ g → q.length = pre.length → pairsB rest g = true → x ++ (pfsS rest g ++ (oneS m.strks.length ++ spsS m.strks m.tost)) = styS m →
    rW f_q49 [] at_q67 (D0 m x pre.length) = some ([.s (put10 m)], [])
  | [], pre, [], q, x, h1, h', hq, hn, hx => by
    obtain ⟨z1, z2, z3, z4⟩ := R.sizes
    have hx2 : x ++ oneS m.strks.length ++ spsS m.strks m.tost = styS m := by rw [← hx]; simp [pfsS]
    have hxl : x.length ≤ 20000 := by rw [← hx, List.length_append] at z1; omega
    have e := qput10_loop4 R h m.strks [] m.tost [] (x ++ oneS m.strks.length) rfl rfl rfl R.n hx2
    have k : decide (x.length + (oneS m.strks.length).length ≤ 1099511627776) = true := le40 (by show x.length + 1 ≤ _; omega)
    rw [w_q67]
    simp only [el_end h1, one10_c, k, zcf]
    exact e
  | [], pre, y :: g, q, x, h1, h', hq, hn, hx => by cases hn
  | r :: rest, pre, [], q, x, h1, h', hq, hn, hx => by cases hn
  | r :: rest, pre, y :: g, q, x, hh, h', hq, hn, hx => by
    unfold pairsB at hn
    rw [Bool.and_eq_true] at hn
    obtain ⟨hp, hn⟩ := hn
    obtain ⟨p1, p2, p3, p4⟩ := pairB_r hp
    obtain ⟨z1, z2, z3, z4⟩ := R.sizes
    obtain ⟨l1, _, l3, _⟩ := listsB_r R.l1
    obtain ⟨k1', _, k3', _⟩ := listsB_r R.l2
    obtain ⟨h1, h2, h3, h4, h5⟩ := el_step Fill.e hh (Nat.le_trans l1 (by decide))
    obtain ⟨_, k2, k3, _, k5⟩ := el_step Fill.e h' (Nat.le_trans k1' (by decide))
    rw [hq] at k2 k3
    have ha := l3 r (by rw [hh]; simp)
    have hb := k3' y (by rw [h']; simp)
    have hxl : x.length ≤ 20000 := by rw [← hx, List.length_append] at z1; omega
    have ih := qput10_loop0 R h rest (pre ++ [r]) g (q ++ [y]) (x ++ pfS r y) h5 k5 (by simp [hq]) hn (by rw [← hx]; simp [pfsS])
    have t1 : ∀ n : Int, (oneS n).length = 1 := fun _ => rfl
    have t2 : ∀ n : Int, (twoS n).length = 2 := fun _ => rfl
    have t4 : ∀ n : I4, (rgbaS n).length = 4 := fun _ => rfl
    have c1 : decide (x.length + (oneS r.kind).length ≤ 1099511627776) = true := le40 (by rw [t1]; omega)
    have s1 : (x ++ oneS r.kind).length ≤ 20001 := by simp only [List.length_append, t1]; omega
    rw [w_q67]
    simp only [h1, h2, h3, h4, k2, k3, Fill.e, one10_c, c1, zcf]
    cases k : kindS r.kind with
    | true =>
      have kb : kindS y.kind = true := by rw [← p1]; exact k
      have g1 : (r.kind == 0) = true := k
      have e1 := qPutK_c (s := x ++ oneS r.kind) (by omega) (fillB_solid ha k).1
      have e2 := qPutK_c (s := x ++ oneS r.kind ++ rgbaS r.color) (by simp only [List.length_append, t1, t4]; omega) (fillB_solid hb kb).1
      simp only [g1, e1, e2, zcf]
      have : x ++ oneS r.kind ++ rgbaS r.color ++ rgbaS y.color = x ++ pfS r y := by unfold pfS; rw [k]; simp
      rw [this]
      exact ih
    | false =>
      have kb : kindS y.kind = false := by rw [← p1]; exact k
      have g1 : (r.kind == 0) = false := k
      cases k' : kindP r.kind with
      | true =>
        have kb' : kindP y.kind = true := by rw [← p1]; exact k'
        have k0 : r.kind = 64 ∨ r.kind = 65 := by unfold kindP at k'; simpa using k'
        have g2 : decide (r.kind > 63) = true := decide_eq_true (by omega)
        have g3 : decide (r.kind < 64) = false := decide_eq_false (by omega)
        obtain ⟨hm, h0, h6, hf⟩ := fillB_pic ha k k'
        obtain ⟨km, _, _, kf⟩ := fillB_pic hb kb kb'
        have hml := matS_len hm
        have c2 : decide ((x ++ oneS r.kind).length + (twoS r.id).length ≤ 1099511627776) = true := le40 (by rw [t2]; omega)
        have e1 := qPutMat_c (s := x ++ oneS r.kind ++ twoS r.id) (by simp only [List.length_append, t1, t2]; omega) hm
        have e2 := qPutMat_c (s := x ++ oneS r.kind ++ twoS r.id ++ matS r.mat) (by simp only [List.length_append, t1, t2]; omega) km
        have st : r.stops = [] := by rw [hf]
        have st2 : y.stops = [] := by rw [kf]
        have e := qput10_loop2 (m := m) pre.length r y (by rw [st]; exact Nat.zero_le _) _ [] [] [] [] (x ++ oneS r.kind ++ twoS r.id ++ matS r.mat ++ matS y.mat) 0 0 (by rw [st]; rfl) (by rw [st2]; rfl) rfl rfl rfl rfl (by
            have := matS_len km
            simp only [List.length_append, t1, t2, List.length_nil]; omega) (by
            rw [h4]
            have : x ++ oneS r.kind ++ twoS r.id ++ matS r.mat ++ matS y.mat ++ psS [] [] = x ++ pfS r y := by unfold pfS; rw [k, k']; simp [psS]
            rw [this]; exact ih)
        simp only [g1, g2, g3, two10_c, c2, e1, e2, zcf]
        exact e
      | false =>
        have kb' : kindP y.kind = false := by rw [← p1]; exact k'
        obtain ⟨kg, _, hsb, hm, h0, h6, _, h8⟩ := fillB_grad ha k k'
        obtain ⟨_, _, ksb, km, _⟩ := fillB_grad hb kb kb'
        have k0 : r.kind = 16 ∨ r.kind = 18 := by unfold kindG at kg; simpa using kg
        have g2 : decide (r.kind > 63) = false := decide_eq_false (by omega)
        have g3 : decide (r.kind < 64) = true := decide_eq_true (by omega)
        have hml := matS_len hm
        have kml := matS_len km
        have e1 := qPutMat_c (s := x ++ oneS r.kind) (by omega) hm
        have e2 := qPutMat_c (s := x ++ oneS r.kind ++ matS r.mat) (by simp only [List.length_append, t1]; omega) km
        have hw : IntKind.wrap .i64 ((IntKind.wrap .i64 (64 * r.spread)) + ((r.stops.length : Nat) : Int)) = 64 * r.spread + r.stops.length := by rw [wrap64 (n := 64 * r.spread) (by omega) (by omega), wrap64 (by omega) (by omega)]
        have c2 : decide ((x ++ oneS r.kind ++ matS r.mat ++ matS y.mat).length + (oneS (64 * r.spread + r.stops.length)).length ≤ 1099511627776) = true := le40 (by simp only [List.length_append, t1]; omega)
        have e := qput10_loop2 (m := m) pre.length r y h8 _ r.stops [] y.stops [] (x ++ oneS r.kind ++ matS r.mat ++ matS y.mat ++ oneS (64 * r.spread + r.stops.length)) 0 0 rfl rfl rfl p4 hsb ksb (by simp only [List.length_append, t1]; omega) (by
            rw [h4]
            have : x ++ oneS r.kind ++ matS r.mat ++ matS y.mat ++ oneS (64 * r.spread + r.stops.length) ++ psS r.stops y.stops = x ++ pfS r y := by unfold pfS; rw [k, k']; simp
            rw [this]; exact ih)
        simp only [g1, g2, g3, hw, c2, e1, e2, zcf]
        exact e
theorem qPut10_c (m : Mor) (h : m.sh) (hr : right10 m = true) : cW f_q49 ([.s []] ++ m.e) [] = some ([.s (put10 m)], []) := by
  have R := right10_r hr
  have e := qput10_loop0 R h m.fills [] m.tofl [] (oneS m.fills.length) rfl rfl rfl R.p rfl
  simp only [Mor.e, List.cons_append, List.nil_append]
  rw [w_q49]
  simp only [one10_c, zcf]
  exact e
theorem MorphPuts_c (m : Mor) (w : m.wf) : cW f_q163 m.e [] = some ([.b true], []) := by
  have es := small10_c m w
  have er := ref10_m m
  cases hs : small10 m with
  | false =>
    rw [hs] at es
    unfold Mor.e at es er ⊢
    rw [w_q163]
    simp only [er, es, awake10, zbc, zcf]
  | true =>
    rw [hs] at es
    have sh := small10_sh hs
    have eP := Put10_c m sh
    have eR := Right10_c m sh
    have eQ := qRight10_c m sh
    cases hr : right10 m with
    | false =>
      rw [hr] at eP eR eQ
      unfold Mor.e at *
      simp only [List.cons_append, List.nil_append] at eP
      rw [w_q163]
      simp only [er, es, eP, eR, eQ, awake10, beq_self_eq_true, zbc, zcf]
    | true =>
      have R := right10_r hr
      have eqp := qPut10_c m sh hr
      obtain ⟨z1, z2, z3, z4⟩ := R.sizes
      have eT := Take10_c (s := put10 m) (Nat.le_trans z4 (by decide)) 0
      rw [take10_back R] at eT
      have eE := eq10_refl m sh
      have hw : IntKind.wrap .i64 (8 * (((put10 m).length : Nat) : Int)) = ((8 * (put10 m).length : Nat) : Int) := by rw [wrap64 (by omega) (by omega)]; omega
      rw [hr] at eP eR eQ
      unfold enc10 at eT
      generalize put10 m = z at *
      unfold Mor.e at *
      simp only [List.cons_append, List.nil_append] at eP eqp eT eE
      rw [w_q163]
      simp only [er, es, eP, eR, eQ, eqp, eT, eE, hw, awake10, beq_self_eq_true, zbc, zcf]
end Go.AI
