/- Records: what is the same, what is right. -/
import Derived.Test.YtlahaamidmbajaaGreatU09
import Derived.Test.YtlahaamidmbajaaGreatP08
set_option linter.unusedVariables false
set_option linter.unusedSimpArgs false
set_option maxRecDepth 100000
namespace Go.AI
open Go Go.Proofs

structure Rec where
  kind : Int
  x : Int
  y : Int
  cx : Int
  cy : Int
  left : Int
  right : Int
  line : Int
  fills : List Fill
  strks : List Strk
  deriving DecidableEq
def Rec.e (r : Rec) : List PV := [.i r.kind, .i r.x, .i r.y, .i r.cx, .i r.cy, .i r.left, .i r.right, .i r.line, .l (r.fills.map Fill.e), .l (r.strks.map Strk.e)]
/-- short enough -/
def Rec.sh (r : Rec) : Prop := r.fills.length ≤ 2 ^ 40 ∧ r.strks.length ≤ 2 ^ 40 ∧ Shorts r.fills
def intE (n : Int) : List PV := [.i n]
theorem in_c (n a b : Int) : cW f_celluloidref09_in [.i n, .i a, .i b] [] = some ([.b (inB2 a b n)], []) := by
  rw [w_celluloidref09_in]; simp only [Option.bind_some, Option.bind_none, andB, orB, orB2, List.getD_cons_zero, List.getD_cons_succ, toB_b, toI_i, toS_s, toL_l, cond_true, cond_false, List.length_map]; rfl
/-! ### the same -/
def Shs (l : List Rec) : Prop := ∀ r, r ∈ l → r.sh
end Go.AI
set_option linter.unusedVariables false
set_option linter.unusedSimpArgs false
set_option maxRecDepth 100000
namespace Go.AI
open Go Go.Proofs

def smallR (l : List Rec) : Bool := (l.take 600).all (fun r => smallB r.fills r.strks) && decide (l.length ≤ 600)
theorem small9_loop {l : List Rec} (hl : l.length ≤ 9223372036854775807) (hf : ∀ r, r ∈ l → r.fills.length ≤ 9223372036854775807) : ∀ (rest pre : List Rec), l = pre ++ rest → pre.length ≤ 600 →
    rW f_celluloidref09_Small [] at_celluloidref09_Small_L0 (S_celluloidref09_Small_L0 (l.map Rec.e) 600 pre.length) = some ([.b ((rest.take (600 - pre.length)).all (fun r => smallB r.fills r.strks) && decide (l.length ≤ 600))], [])
  | [], pre, h, hp => by
    rw [w_celluloidref09_Small_L0]
    simp only [el_end h, Option.bind_some, Option.bind_none, andB, orB, orB2, List.getD_cons_zero, List.getD_cons_succ, toB_b, toI_i, toS_s, toL_l, cond_true, cond_false, List.length_map]
    rw [show decide (((l.length : Nat) : Int) ≤ 600) = decide (l.length ≤ 600) by simp; omega]
    simp
  | x :: rest, pre, h, hp => by
    obtain ⟨h1, h2, h3, h4, h5⟩ := el_stepM Rec.e h hl
    have e := small_c (l := x.fills) (m := x.strks) (hf x (by rw [h]; simp))
    rw [w_celluloidref09_Small_L0]
    simp only [h1, h2, h3, h4, Rec.e, e, Option.bind_some, Option.bind_none, andB, orB, orB2, List.getD_cons_zero, List.getD_cons_succ, toB_b, toI_i, toS_s, toL_l, cond_true, cond_false, List.length_map]
    by_cases hx : pre.length < 600
    · rw [decide_eq_true (p := ((pre.length : Nat) : Int) < 600) (by omega)]
      rw [show 600 - pre.length = (600 - (pre ++ [x]).length) + 1 by simp; omega, List.take_succ_cons, List.all_cons]
      cases hsm : smallB x.fills x.strks with
      | true =>
        simp only [Bool.true_and, Bool.and_true, Bool.true_and, Bool.and_false, Bool.false_and, Bool.or_true, Bool.true_or, Bool.or_false, Bool.false_or, Bool.not_true, Bool.not_false, Option.bind_some, Option.bind_none, andB, orB, orB2, List.getD_cons_zero, List.getD_cons_succ, toB_b, toI_i, toS_s, toL_l, cond_true, cond_false, List.length_map]
        exact small9_loop hl hf rest _ h5 (by simp; omega)
      | false => simp only [Bool.false_and, Bool.and_true, Bool.true_and, Bool.and_false, Bool.false_and, Bool.or_true, Bool.true_or, Bool.or_false, Bool.false_or, Bool.not_true, Bool.not_false, Option.bind_some, Option.bind_none, andB, orB, orB2, List.getD_cons_zero, List.getD_cons_succ, toB_b, toI_i, toS_s, toL_l, cond_true, cond_false, List.length_map]
    · rw [decide_eq_false (p := ((pre.length : Nat) : Int) < 600) (by omega), show 600 - pre.length = 0 by omega]
      simp only [List.take_zero, List.all_nil, Bool.and_true, Bool.true_and, Bool.and_false, Bool.false_and, Bool.or_true, Bool.true_or, Bool.or_false, Bool.false_or, Bool.not_true, Bool.not_false, Option.bind_some, Option.bind_none, andB, orB, orB2, List.getD_cons_zero, List.getD_cons_succ, toB_b, toI_i, toS_s, toL_l, cond_true, cond_false, List.length_map]
      rw [show decide (((l.length : Nat) : Int) ≤ 600) = decide (l.length ≤ 600) by simp; omega]
theorem small9_c {l : List Rec} (hl : l.length ≤ 9223372036854775807) (hf : ∀ r, r ∈ l → r.fills.length ≤ 9223372036854775807) : cW f_celluloidref09_Small [.l (l.map Rec.e), .i 600] [] = some ([.b (smallR l)], []) := by
  rw [w_celluloidref09_Small]
  exact small9_loop hl hf l [] rfl (by decide)
theorem smallR_r {l : List Rec} (h : smallR l = true) : l.length ≤ 600 ∧ Shs l := by
  unfold smallR at h
  simp only [Bool.and_eq_true, decide_eq_true_eq] at h
  refine ⟨h.2, fun r hr => ?_⟩
  have e := h.1
  rw [List.take_of_length_le h.2] at e
  obtain ⟨a, b, c⟩ := smallB_r (List.all_eq_true.1 e r hr)
  exact ⟨Nat.le_trans (Nat.le_of_lt b) (by decide), Nat.le_trans (Nat.le_of_lt c) (by decide), fun f hf => Nat.le_trans (a f hf) (by decide)⟩
end Go.AI
set_option linter.unusedVariables false
set_option linter.unusedSimpArgs false
set_option maxRecDepth 100000
namespace Go.AI
open Go Go.Proofs

def noSt (r : Rec) : Prop := r.left = 0 ∧ r.right = 0 ∧ r.line = 0
def noLi (r : Rec) : Prop := r.fills.length = 0 ∧ r.strks.length = 0
def noCt (r : Rec) : Prop := r.cx = 0 ∧ r.cy = 0
def noPt (r : Rec) : Prop := r.x = 0 ∧ r.y = 0
def inR (a b n : Int) : Prop := a ≤ n ∧ n ≤ b
instance (r : Rec) : Decidable (noSt r) := by unfold noSt; infer_instance
instance (r : Rec) : Decidable (noLi r) := by unfold noLi; infer_instance
instance (r : Rec) : Decidable (noCt r) := by unfold noCt; infer_instance
instance (r : Rec) : Decidable (noPt r) := by unfold noPt; infer_instance
instance (a b n : Int) : Decidable (inR a b n) := by unfold inR; infer_instance
def recB (r : Rec) (f s : Int) : Bool :=
  bif r.kind == 1 then decide (noSt r ∧ noLi r ∧ noCt r ∧ inR (-1048576) 1048576 r.x ∧ inR (-1048576) 1048576 r.y)
  else bif r.kind == 2 then decide (noLi r ∧ noCt r ∧ noPt r ∧ (r.left ≥ 0 ∨ r.right ≥ 0 ∨ r.line ≥ 0) ∧ inR (-1) f r.left ∧ inR (-1) f r.right ∧ inR (-1) s r.line)
  else bif r.kind == 3 then decide (noSt r ∧ noCt r ∧ noPt r) && listsB r.fills r.strks
  else bif r.kind == 4 then decide (noSt r ∧ noLi r ∧ noCt r ∧ inR (-65536) 65535 r.x ∧ inR (-65536) 65535 r.y)
  else bif r.kind == 5 then decide (noSt r ∧ noLi r ∧ inR (-65536) 65535 r.x ∧ inR (-65536) 65535 r.y ∧ inR (-65536) 65535 r.cx ∧ inR (-65536) 65535 r.cy)
  else false
theorem inR_iff (a b n : Int) : inB2 a b n = true ↔ inR a b n := by unfold inB2 inR; simp
/-- the document's -/
theorem wrapS {a b : Nat} (ha : a ≤ 2 ^ 40) (hb : b ≤ 2 ^ 40) : decide (IntKind.wrap .i64 ((a : Int) + (b : Int)) > 0) = !(a == 0 && b == 0) := by
  have : (2 : Nat) ^ 40 = 1099511627776 := rfl
  rw [wrap64 (by omega) (by omega), Bool.eq_iff_iff]
  simp; omega
theorem one_c' (r : Rec) (h : r.sh) (f s : Int) : cW f_celluloidref09_one (r.e ++ [.i f, .i s]) [] = some ([.b (recB r f s)], []) := by
  simp only [Rec.e, List.cons_append, List.nil_append]
  rw [w_celluloidref09_one]
  simp only [in_c, qRight_c h.1 h.2.1 h.2.2, wrapS h.1 h.2.1, Option.bind_some, Option.bind_none, andB, orB, orB2, List.getD_cons_zero, List.getD_cons_succ, toB_b, toI_i, toS_s, toL_l, cond_true, cond_false, List.length_map]
  unfold recB
  cases k1 : (r.kind == 1) with
  | true =>
    simp only [cond_true]
    refine congrArg (fun b => some ([PV.b b], ([] : List BX))) ?_
    rw [Bool.eq_iff_iff]
    simp only [Bool.and_eq_true, Bool.or_eq_true, Bool.not_eq_true', Bool.or_eq_false_iff, bne_eq_false_iff_eq, Bool.not_eq_false', beq_iff_eq, decide_eq_true_eq, inR_iff]
    simp only [noSt, noLi, noCt]
  | false =>
    simp only [cond_false]
    cases k2 : (r.kind == 2) with
    | true =>
      simp only [cond_true]
      refine congrArg (fun b => some ([PV.b b], ([] : List BX))) ?_
      rw [Bool.eq_iff_iff]
      simp only [Bool.and_eq_true, Bool.or_eq_true, Bool.not_eq_true', Bool.or_eq_false_iff, bne_eq_false_iff_eq, Bool.not_eq_false', beq_iff_eq, decide_eq_true_eq, inR_iff]
      simp only [noPt, noLi, noCt]
      constructor
      · rintro ⟨d, ⟨e, g⟩, ⟨i, j⟩, k, l, m, n⟩; exact ⟨d, ⟨e, g⟩, ⟨i, j⟩, by omega, l, m, n⟩
      · rintro ⟨d, ⟨e, g⟩, ⟨i, j⟩, k, l, m, n⟩; exact ⟨d, ⟨e, g⟩, ⟨i, j⟩, by omega, l, m, n⟩
    | false =>
      simp only [cond_false]
      cases k3 : (r.kind == 3) with
      | true =>
        simp only [cond_true]
        refine congrArg (fun b => some ([PV.b b], ([] : List BX))) ?_
        rw [Bool.eq_iff_iff]
        simp only [Bool.and_eq_true, Bool.or_eq_true, Bool.not_eq_true', Bool.or_eq_false_iff, bne_eq_false_iff_eq, Bool.not_eq_false', beq_iff_eq, decide_eq_true_eq]
        simp only [noSt, noCt, noPt]
        constructor
        · rintro ⟨⟨a, b, c⟩, ⟨e, g⟩, ⟨i, j⟩, k⟩; exact ⟨⟨⟨a, b, c⟩, ⟨e, g⟩, i, j⟩, k⟩
        · rintro ⟨⟨⟨a, b, c⟩, ⟨e, g⟩, i, j⟩, k⟩; exact ⟨⟨a, b, c⟩, ⟨e, g⟩, ⟨i, j⟩, k⟩
      | false =>
        simp only [cond_false]
        cases k4 : (r.kind == 4) with
        | true =>
          simp only [cond_true]
          refine congrArg (fun b => some ([PV.b b], ([] : List BX))) ?_
          rw [Bool.eq_iff_iff]
          simp only [Bool.and_eq_true, Bool.or_eq_true, Bool.not_eq_true', Bool.or_eq_false_iff, bne_eq_false_iff_eq, Bool.not_eq_false', beq_iff_eq, decide_eq_true_eq, inR_iff]
          simp only [noSt, noLi, noCt]
        | false =>
          simp only [cond_false]
          cases k5 : (r.kind == 5) with
          | true =>
            simp only [cond_true]
            refine congrArg (fun b => some ([PV.b b], ([] : List BX))) ?_
            rw [Bool.eq_iff_iff]
            simp only [Bool.and_eq_true, Bool.or_eq_true, Bool.not_eq_true', Bool.or_eq_false_iff, bne_eq_false_iff_eq, Bool.not_eq_false', beq_iff_eq, decide_eq_true_eq, inR_iff]
            simp only [noSt, noLi]
          | false => rfl
/-! ### lists of records -/
def kindB (r : Rec) (kind : Int) : Bool := !((r.kind == 3) && (kind != 0)) && !((r.kind == 2) && (kind == 2))
def nextF (r : Rec) (f s : Int) : Int × Int := bif r.kind == 3 then ((r.fills.length : Int), (r.strks.length : Int)) else (f, s)
def recsB : Int → Int → List Rec → Int → Bool
  | _, _, [], _ => true
  | f, s, r :: l, kind => (recB r f s && kindB r kind) && recsB (nextF r f s).1 (nextF r f s).2 l kind
def rightRecs (f s : Int) (l : List Rec) (kind : Int) : Bool := inB2 0 15 f && (inB2 0 15 s && (inB2 0 2 kind && (decide (((l.length : Nat) : Int) ≤ 512) && recsB f s l kind)))
theorem qrr_loop {l : List Rec} (hl : l.length ≤ 2 ^ 40) (hs : Shs l) {kind : Int} (hk0 : 0 ≤ kind ∧ kind ≤ 2) : ∀ (rest pre : List Rec) (f s : Int), l = pre ++ rest →
    rW f_celluloidref09_Records [] at_celluloidref09_Records_L0 (S_celluloidref09_Records_L0 f s (l.map Rec.e) kind pre.length) = some ([.b (recsB f s rest kind)], [])
  | [], pre, f, s, h => by
    rw [w_celluloidref09_Records_L0]; simp only [el_end h, Option.bind_some, Option.bind_none, andB, orB, orB2, List.getD_cons_zero, List.getD_cons_succ, toB_b, toI_i, toS_s, toL_l, cond_true, cond_false, List.length_map]; rfl
  | x :: rest, pre, f, s, h => by
    obtain ⟨h1, h2, h3, h4, h5⟩ := el_step Rec.e h hl
    have e := one_c' x (hs x (by rw [h]; simp)) f s
    simp only [Rec.e, List.cons_append, List.nil_append] at e
    have ih := qrr_loop hl hs hk0 rest _ (nextF x f s).1 (nextF x f s).2 h5
    rw [w_celluloidref09_Records_L0]
    simp only [h1, h2, h3, h4, Rec.e, e, Option.bind_some, Option.bind_none, andB, orB, orB2, List.getD_cons_zero, List.getD_cons_succ, toB_b, toI_i, toS_s, toL_l, cond_true, cond_false, List.length_map]
    unfold recsB
    have c1 : decide (kind > 0) = (kind != 0) := by rw [Bool.eq_iff_iff]; simp; omega
    have c2 : decide (kind > 1) = (kind == 2) := by rw [Bool.eq_iff_iff]; simp; omega
    rw [c1, c2]
    cases hr : recB x f s with
    | false => rfl
    | true =>
      have hk : kindB x kind = !((x.kind == 3 && kind != 0) || (x.kind == 2 && kind == 2)) := by unfold kindB; rw [Bool.not_or]
      rw [hk]
      unfold nextF at ih ⊢
      cases k3 : (x.kind == 3) with
      | true =>
        have k2 : (x.kind == 2) = false := by simp only [beq_iff_eq] at k3; rw [k3]; rfl
        rw [k3] at ih
        simp only [k2, Bool.and_true, Bool.true_and, Bool.and_false, Bool.false_and, Bool.or_true, Bool.true_or, Bool.or_false, Bool.false_or, Bool.not_true, Bool.not_false, Option.bind_some, Option.bind_none, andB, orB, orB2, List.getD_cons_zero, List.getD_cons_succ, toB_b, toI_i, toS_s, toL_l, cond_true, cond_false, List.length_map] at ih ⊢
        cases (kind != 0) with
        | true => rfl
        | false => simpa using ih
      | false =>
        rw [k3] at ih
        simp only [Bool.and_true, Bool.true_and, Bool.and_false, Bool.false_and, Bool.or_true, Bool.true_or, Bool.or_false, Bool.false_or, Bool.not_true, Bool.not_false, Option.bind_some, Option.bind_none, andB, orB, orB2, List.getD_cons_zero, List.getD_cons_succ, toB_b, toI_i, toS_s, toL_l, cond_true, cond_false, List.length_map] at ih ⊢
        cases (x.kind == 2) with
        | true =>
          simp only [Bool.and_true, Bool.true_and, Bool.and_false, Bool.false_and, Bool.or_true, Bool.true_or, Bool.or_false, Bool.false_or, Bool.not_true, Bool.not_false, Option.bind_some, Option.bind_none, andB, orB, orB2, List.getD_cons_zero, List.getD_cons_succ, toB_b, toI_i, toS_s, toL_l, cond_true, cond_false, List.length_map]
          cases (kind == 2) with
          | true => rfl
          | false => simpa using ih
        | false => simpa using ih
theorem qRecords_c {l : List Rec} (hl : l.length ≤ 2 ^ 40) (hs : Shs l) (f s kind : Int) : cW f_celluloidref09_Records [.i f, .i s, .l (l.map Rec.e), .i kind] [] = some ([.b (rightRecs f s l kind)], []) := by
  rw [w_celluloidref09_Records]
  simp only [in_c, Option.bind_some, Option.bind_none, andB, orB, orB2, List.getD_cons_zero, List.getD_cons_succ, toB_b, toI_i, toS_s, toL_l, cond_true, cond_false, List.length_map]
  unfold rightRecs
  cases inB2 0 15 f with
  | false => rfl
  | true =>
    cases inB2 0 15 s with
    | false => rfl
    | true =>
      cases hk : inB2 0 2 kind with
      | false => rfl
      | true =>
        have e := qrr_loop hl hs ((inR_iff 0 2 kind).1 hk) l [] f s rfl
        simp only [Bool.and_true, Bool.true_and, Bool.and_false, Bool.false_and, Bool.or_true, Bool.true_or, Bool.or_false, Bool.false_or, Bool.not_true, Bool.not_false, Option.bind_some, Option.bind_none, andB, orB, orB2, List.getD_cons_zero, List.getD_cons_succ, toB_b, toI_i, toS_s, toL_l, cond_true, cond_false, List.length_map]
        by_cases h : ((l.length : Nat) : Int) ≤ 512
        · rw [decide_eq_false (p := ((l.length : Nat) : Int) > 512) (by omega), decide_eq_true h]
          exact e
        · rw [decide_eq_true (p := ((l.length : Nat) : Int) > 512) (by omega), decide_eq_false h]; rfl
end Go.AI
set_option linter.unusedVariables false
set_option linter.unusedSimpArgs false
set_option maxRecDepth 100000
namespace Go.AI
open Go Go.Proofs

def Rec.wf (r : Rec) : Prop := r.fills.length ≤ maxLen ∧ r.strks.length ≤ maxLen
abbrev LRec (f t : TypeId) : List LTy := [.int .i64, .int .i64, .int .i64, .int .i64, .int .i64, .int .i64, .int .i64, .int .i64, .sl f, .sl t]
theorem rec_of {P : Program} {f t k : TypeId} (hf : leaves P f = some (LFill k)) (hk : leaves P k = some (.int .i64 :: L4)) (ht : leaves P t = some (.int .i64 :: L4)) (x : List PV) (h : PWL P (LRec f t) x) : ∃ r : Rec, x = r.e ∧ r.wf := by
  obtain ⟨x0, q, rfl, w0, h⟩ := int_cons h
  obtain ⟨x1, q, rfl, w1, h⟩ := int_cons h
  obtain ⟨x2, q, rfl, w2, h⟩ := int_cons h
  obtain ⟨x3, q, rfl, w3, h⟩ := int_cons h
  obtain ⟨x4, q, rfl, w4, h⟩ := int_cons h
  obtain ⟨x5, q, rfl, w5, h⟩ := int_cons h
  obtain ⟨x6, q, rfl, w6, h⟩ := int_cons h
  obtain ⟨x7, q, rfl, w7, h⟩ := int_cons h
  obtain ⟨l, q, rfl, hl, hw, h⟩ := sl_cons (e := Fill.e) hf (fill_of hk) h
  obtain ⟨m, q, rfl, hm, hv, h⟩ := sl_cons (e := Strk.e) ht strk_of h
  obtain rfl := h.nil
  exact ⟨⟨x0, x1, x2, x3, x4, x5, x6, x7, l, m⟩, rfl, hl, hm⟩
end Go.AI
