/- Morphs: what is right. -/
import Derived.Test.YtlahaamidmbajaaGreatU10
import Derived.Test.YtlahaamidmbajaaGreatP09
set_option linter.unusedVariables false
set_option linter.unusedSimpArgs false
set_option maxRecDepth 100000
namespace Go.AI
open Go Go.Proofs

structure Mor where
  id : Int
  fr : I4
  to : I4
  fills : List Fill
  tofl : List Fill
  strks : List Strk
  tost : List Strk
  recs : List Rec
  targ : List Rec
def Mor.e (m : Mor) : List PV := [.i m.id, .i m.fr.1, .i m.fr.2.1, .i m.fr.2.2.1, .i m.fr.2.2.2, .i m.to.1, .i m.to.2.1, .i m.to.2.2.1, .i m.to.2.2.2, .l (m.fills.map Fill.e), .l (m.tofl.map Fill.e), .l (m.strks.map Strk.e), .l (m.tost.map Strk.e), .l (m.recs.map Rec.e), .l (m.targ.map Rec.e)]
/-- short enough -/
structure Mor.sh (m : Mor) : Prop where
  f : m.fills.length ≤ 2 ^ 40
  tf : m.tofl.length ≤ 2 ^ 40
  ff : Shorts m.fills
  tff : Shorts m.tofl
  s : m.strks.length ≤ 2 ^ 40
  ts : m.tost.length ≤ 2 ^ 40
  r : m.recs.length ≤ 2 ^ 40
  t : m.targ.length ≤ 2 ^ 40
  rr : Shs m.recs
  tt : Shs m.targ
def pairB (a b : Fill) : Bool := (a.kind == b.kind) && ((a.spread == b.spread) && ((a.id == b.id) && (((a.stops.length : Nat) : Int) == ((b.stops.length : Nat) : Int))))
def pairsB : List Fill → List Fill → Bool
  | [], [] => true
  | a :: l, b :: m => pairB a b && pairsB l m
  | _, _ => false
def frB4 (c : I4) : Bool := rectB c.1 c.2.1 c.2.2.1 c.2.2.2
def right10 (m : Mor) : Bool := decide (m.id ≥ 0) && (decide (m.id < 65536) && (frB4 m.fr && (frB4 m.to && (listsB m.fills m.strks && (listsB m.tofl m.tost && (pairsB m.fills m.tofl && ((((m.strks.length : Nat) : Int) == ((m.tost.length : Nat) : Int)) && (rightRecs (m.fills.length : Nat) (m.strks.length : Nat) m.recs 1 && rightRecs 0 0 m.targ 2))))))))
theorem pairsB_len : ∀ {l m : List Fill}, pairsB l m = true → l.length = m.length
  | [], [], _ => rfl
  | a :: l, b :: m, h => by
    unfold pairsB at h
    rw [Bool.and_eq_true] at h
    simp [pairsB_len h.2]
  | [], b :: m, h => by cases h
  | a :: l, [], h => by cases h
theorem pairsB_ne {l m : List Fill} (h : l.length ≠ m.length) : pairsB l m = false := by
  cases e : pairsB l m with
  | false => rfl
  | true => exact absurd (pairsB_len e) h
/-- the document's -/
theorem qpairs_loop (m : Mor) (hl : m.fills.length ≤ 2 ^ 40) (b : Bool)
    (hb : ((bif listsB m.fills m.strks then some [PV.b (listsB m.tofl m.tost)] else some [PV.b false]).bind fun r7 =>
      (bif (r7.getD 0 PV.u).toB then (bif rightRecs (m.fills.length : Nat) (m.strks.length : Nat) m.recs 1 then some [PV.b (rightRecs 0 0 m.targ 2)] else some [PV.b false]) else some [PV.b false]).bind fun r10 => some ([PV.b (r10.getD 0 PV.u).toB], ([] : List BX))) = some ([PV.b b], []))
    (h : m.sh) : ∀ (r r' p p' : List Fill), m.fills = p ++ r → m.tofl = p' ++ r' → p.length = p'.length → r.length = r'.length →
    rW f_celluloidref10_Right [] at_celluloidref10_Right_L0 (S_celluloidref10_Right_L0 p.length m.id m.fr.1 m.fr.2.1 m.fr.2.2.1 m.fr.2.2.2 m.to.1 m.to.2.1 m.to.2.2.1 m.to.2.2.2 (m.fills.map Fill.e) (m.tofl.map Fill.e) (m.strks.map Strk.e) (m.tost.map Strk.e) (m.recs.map Rec.e) (m.targ.map Rec.e)) = some ([.b (pairsB r r' && b)], [])
  | [], [], p, p', h1, h', hp, hr => by
    rw [w_celluloidref10_Right_L0]
    simp only [el_end h1, qRight_c h.f h.s h.ff, qRight_c h.tf h.ts h.tff, qRecords_c h.r h.rr, qRecords_c h.t h.tt, Option.bind_some, Option.bind_none, andB, orB, orB2, List.getD_cons_zero, List.getD_cons_succ, toB_b, toI_i, toS_s, toL_l, cond_true, cond_false, List.length_map]
    simp only [Option.bind_some, Option.bind_none, andB, orB, orB2, List.getD_cons_zero, List.getD_cons_succ, toB_b, toI_i, toS_s, toL_l, cond_true, cond_false, List.length_map] at hb
    rw [hb]; rfl
  | [], y :: r', p, p', h1, h', hp, hr => by simp at hr
  | x :: r, [], p, p', h1, h', hp, hr => by simp at hr
  | x :: r, y :: r', p, p', hh, h', hp, hr => by
    have hm : m.tofl.length ≤ 2 ^ 40 := h.tf
    obtain ⟨h1, h2, h3, h4, h5⟩ := el_step Fill.e hh hl
    obtain ⟨_, k2, k3, _, k5⟩ := el_step Fill.e h' hm
    rw [← hp] at k2 k3
    rw [w_celluloidref10_Right_L0]
    simp only [h1, h2, h3, h4, k2, k3, Fill.e, Option.bind_some, Option.bind_none, andB, orB, orB2, List.getD_cons_zero, List.getD_cons_succ, toB_b, toI_i, toS_s, toL_l, cond_true, cond_false, List.length_map]
    have e : ((x.kind != y.kind) || ((x.spread != y.spread) || ((x.id != y.id) || (((x.stops.length : Nat) : Int) != ((y.stops.length : Nat) : Int))))) = !pairB x y := by
      unfold pairB; simp only [bne, Bool.not_and]
    rw [e]
    unfold pairsB
    cases pairB x y with
    | false => simp only [Bool.not_false, cond_true, Bool.false_and]
    | true =>
      rw [Bool.not_true, cond_false, Bool.true_and]
      exact qpairs_loop m hl b hb h r r' _ _ h5 k5 (by simp [hp]) (by simpa using hr)
theorem qRight10_c (m : Mor) (h : m.sh) : cW f_celluloidref10_Right m.e [] = some ([.b (right10 m)], []) := by
  unfold Mor.e
  rw [w_celluloidref10_Right]
  simp only [(qRect_ans _ _ _ _).c, Option.bind_some, Option.bind_none, andB, orB, orB2, List.getD_cons_zero, List.getD_cons_succ, toB_b, toI_i, toS_s, toL_l, cond_true, cond_false, List.length_map]
  have e1 : (decide (m.id < 0)) = !decide (m.id ≥ 0) := by rw [Bool.eq_iff_iff]; simp
  have e2 : (decide (m.id > 65535)) = !decide (m.id < 65536) := by rw [Bool.eq_iff_iff]; simp; omega
  rw [e1, e2]
  unfold right10 frB4
  cases c1 : decide (m.id ≥ 0) with
  | false => rfl
  | true =>
    cases c2 : decide (m.id < 65536) with
    | false => rfl
    | true =>
      cases c3 : rectB m.fr.1 m.fr.2.1 m.fr.2.2.1 m.fr.2.2.2 with
      | false => rfl
      | true =>
        cases c4 : rectB m.to.1 m.to.2.1 m.to.2.2.1 m.to.2.2.2 with
        | false => rfl
        | true =>
          by_cases hn : m.fills.length = m.tofl.length
          · by_cases hs : m.strks.length = m.tost.length
            · have e3 : (((m.fills.length : Nat) : Int) != ((m.tofl.length : Nat) : Int)) = false := by simp [hn]
              have e4 : (((m.strks.length : Nat) : Int) != ((m.tost.length : Nat) : Int)) = false := by simp [hs]
              have e5 : (((m.strks.length : Nat) : Int) == ((m.tost.length : Nat) : Int)) = true := by simp [hs]
              simp only [e3, e4, e5, Bool.and_true, Bool.true_and, Bool.and_false, Bool.false_and, Bool.or_true, Bool.true_or, Bool.or_false, Bool.false_or, Bool.not_true, Bool.not_false, Option.bind_some, Option.bind_none, andB, orB, orB2, List.getD_cons_zero, List.getD_cons_succ, toB_b, toI_i, toS_s, toL_l, cond_true, cond_false, List.length_map]
              have key := qpairs_loop m h.f (listsB m.fills m.strks && (listsB m.tofl m.tost && (rightRecs (m.fills.length : Nat) (m.strks.length : Nat) m.recs 1 && rightRecs 0 0 m.targ 2))) (by
                cases listsB m.fills m.strks <;> cases listsB m.tofl m.tost <;> cases rightRecs (m.fills.length : Nat) (m.strks.length : Nat) m.recs 1 <;> rfl) h m.fills m.tofl [] [] rfl rfl rfl hn
              refine Eq.trans key ?_
              cases listsB m.fills m.strks <;> cases listsB m.tofl m.tost <;> cases pairsB m.fills m.tofl <;> cases rightRecs (m.fills.length : Nat) (m.strks.length : Nat) m.recs 1 <;> rfl
            · have e3 : (((m.fills.length : Nat) : Int) != ((m.tofl.length : Nat) : Int)) = false := by simp [hn]
              have e4 : (((m.strks.length : Nat) : Int) != ((m.tost.length : Nat) : Int)) = true := by simp; omega
              have e5 : (((m.strks.length : Nat) : Int) == ((m.tost.length : Nat) : Int)) = false := by simp; omega
              simp only [e3, e4, e5, Bool.and_true, Bool.true_and, Bool.and_false, Bool.false_and, Bool.or_true, Bool.true_or, Bool.or_false, Bool.false_or, Bool.not_true, Bool.not_false, Option.bind_some, Option.bind_none, andB, orB, orB2, List.getD_cons_zero, List.getD_cons_succ, toB_b, toI_i, toS_s, toL_l, cond_true, cond_false, List.length_map]
          · have e3 : (((m.fills.length : Nat) : Int) != ((m.tofl.length : Nat) : Int)) = true := by simp; omega
            simp only [e3, pairsB_ne hn, Bool.and_true, Bool.true_and, Bool.and_false, Bool.false_and, Bool.or_true, Bool.true_or, Bool.or_false, Bool.false_or, Bool.not_true, Bool.not_false, Option.bind_some, Option.bind_none, andB, orB, orB2, List.getD_cons_zero, List.getD_cons_succ, toB_b, toI_i, toS_s, toL_l, cond_true, cond_false, List.length_map]
end Go.AI
