/- Morphs: what is right. -/
import Derived.Test.YtkclfiliefadlaaGreatU10
import Derived.Test.YtkclfiliefadlaaGreatP09
import Derived.Test.YtkclfiliefadlaaGreatP02
import Derived.Test.YtkclfiliefadlaaGreatW
set_option linter.unusedVariables false
set_option linter.unusedSimpArgs false
set_option maxRecDepth 100000
namespace Go.AI
open Go Go.Proofs

structure Mor where
  id : Int
  fr : I4
  to : I4
  fills : List Fill
  tofl : List Fill
  strks : List Strk
  tost : List Strk
  recs : List Rec
  targ : List Rec
def Mor.e (m : Mor) : List PV := [.i m.id, .i m.fr.1, .i m.fr.2.1, .i m.fr.2.2.1, .i m.fr.2.2.2, .i m.to.1, .i m.to.2.1, .i m.to.2.2.1, .i m.to.2.2.2, .l (m.fills.map Fill.e), .l (m.tofl.map Fill.e), .l (m.strks.map Strk.e), .l (m.tost.map Strk.e), .l (m.recs.map Rec.e), .l (m.targ.map Rec.e)]
/-- short enough -/
structure Mor.sh (m : Mor) : Prop where
  f : m.fills.length ≤ 2 ^ 40
  tf : m.tofl.length ≤ 2 ^ 40
  ff : Shorts m.fills
  tff : Shorts m.tofl
  s : m.strks.length ≤ 2 ^ 40
  ts : m.tost.length ≤ 2 ^ 40
  r : m.recs.length ≤ 2 ^ 40
  t : m.targ.length ≤ 2 ^ 40
  rr : Shs m.recs
  tt : Shs m.targ
end Go.AI
set_option linter.unusedVariables false
set_option linter.unusedSimpArgs false
set_option maxRecDepth 100000
namespace Go.AI
open Go Go.Proofs

abbrev P2 (α : Type) := (α × α) × Rs
def rc (σ : Rs) : I4 × Rs := if σ.2.2 ≠ 0 then ((0, 0, 0, 0), σ) else takeRectF (beginP σ.1 σ.2.1)
def rcs (σ : Rs) (f s kind : Int) : List Rec × Rs := if σ.2.2 ≠ 0 then ([], σ) else takeRecsF σ.1 σ.2.1 f s kind
theorem rc_len {σ : Rs} (h : LenOk σ) : LenOk (rc σ).2 := by
  unfold rc
  split
  · exact h
  · exact rect_len (begin_len h _).1
theorem mlit_c {σ : Rs} (h : LenOk σ) (n : Int) : cW f___celluloid_morph_reader__little [.u, .i n] [(t_morph_reader, [.s σ.1, .i σ.2.1, .i σ.2.2])] = some ([.i (lit σ n).1], [(t_morph_reader, [.s (lit σ n).2.1, .i (lit σ n).2.2.1, .i (lit σ n).2.2.2])]) := by
  rw [w___celluloid_morph_reader__little]
  unfold lit
  by_cases he : σ.2.2 = 0
  · rw [show (σ.2.2 != 0) = false by simp [he], (little_ans h σ.2.1 n).c, if_neg (by simp [he])]
    rfl
  · rw [show (σ.2.2 != 0) = true by simp [he], if_pos he]; rfl
theorem mcol_c {σ : Rs} (h : LenOk σ) : cW f___celluloid_morph_reader__color [.u] [(t_morph_reader, [.s σ.1, .i σ.2.1, .i σ.2.2])] = some ([.i (col σ).1.1, .i (col σ).1.2.1, .i (col σ).1.2.2.1, .i (col σ).1.2.2.2], [(t_morph_reader, [.s (col σ).2.1, .i (col σ).2.2.1, .i (col σ).2.2.2])]) := by
  rw [w___celluloid_morph_reader__color]
  unfold col
  by_cases he : σ.2.2 = 0
  · rw [show (σ.2.2 != 0) = false by simp [he], (takeK_ans h σ.2.1).c, if_neg (by simp [he])]
    rfl
  · rw [show (σ.2.2 != 0) = true by simp [he], if_pos he]; rfl
theorem mmt_c {σ : Rs} (h : LenOk σ) : cW f___celluloid_morph_reader__matrix [.u] [(t_morph_reader, [.s σ.1, .i σ.2.1, .i σ.2.2])] = some ([.i (mt σ).1.1, .i (mt σ).1.2.1, .i (mt σ).1.2.2.1, .i (mt σ).1.2.2.2.1, .i (mt σ).1.2.2.2.2.1, .i (mt σ).1.2.2.2.2.2], [(t_morph_reader, [.s (mt σ).2.1, .i (mt σ).2.2.1, .i (mt σ).2.2.2])]) := by
  rw [w___celluloid_morph_reader__matrix]
  unfold mt
  by_cases he : σ.2.2 = 0
  · rw [show (σ.2.2 != 0) = false by simp [he], (takeMat_ans h σ.2.1).c, if_neg (by simp [he])]
    rfl
  · rw [show (σ.2.2 != 0) = true by simp [he], if_pos he]; rfl
theorem mfail_c (σ : Rs) (e : Int) : cW f___celluloid_morph_reader__fail [.u, .i e] [(t_morph_reader, [.s σ.1, .i σ.2.1, .i σ.2.2])] = some ([], [(t_morph_reader, [.s (failR σ e).1, .i (failR σ e).2.1, .i (failR σ e).2.2])]) := by
  rw [w___celluloid_morph_reader__fail]
  unfold failR
  by_cases he : σ.2.2 = 0
  · rw [show (σ.2.2 == 0) = true by simp [he], if_pos he]; rfl
  · rw [show (σ.2.2 == 0) = false by simp [he], if_neg he]; rfl
theorem mrc_c {σ : Rs} (h : LenOk σ) : cW f___celluloid_morph_reader__rect [.u] [(t_morph_reader, [.s σ.1, .i σ.2.1, .i σ.2.2])] = some ([.i (rc σ).1.1, .i (rc σ).1.2.1, .i (rc σ).1.2.2.1, .i (rc σ).1.2.2.2], [(t_morph_reader, [.s (rc σ).2.1, .i (rc σ).2.2.1, .i (rc σ).2.2.2])]) := by
  rw [w___celluloid_morph_reader__rect]
  unfold rc
  by_cases he : σ.2.2 = 0
  · rw [show (σ.2.2 != 0) = false by simp [he], (takeRect_ans h σ.2.1).c, if_neg (by simp [he])]
    rfl
  · rw [show (σ.2.2 != 0) = true by simp [he], if_pos he]; rfl
theorem mrcs_c {σ : Rs} (h : LenOk σ) (f s kind : Int) : cW f___celluloid_morph_reader__records [.u, .i f, .i s, .i kind] [(t_morph_reader, [.s σ.1, .i σ.2.1, .i σ.2.2])] = some ([.l ((rcs σ f s kind).1.map Rec.e)], [(t_morph_reader, [.s (rcs σ f s kind).2.1, .i (rcs σ f s kind).2.2.1, .i (rcs σ f s kind).2.2.2])]) := by
  rw [w___celluloid_morph_reader__records]
  unfold rcs
  by_cases he : σ.2.2 = 0
  · rw [show (σ.2.2 != 0) = false by simp [he], TakeRecords_c h, if_neg (by simp [he])]
    rfl
  · rw [show (σ.2.2 != 0) = true by simp [he], if_pos he]; rfl
theorem mmany_c {σ : Rs} (h : LenOk σ) : cW f___celluloid_morph_reader__many [.u] [(t_morph_reader, [.s σ.1, .i σ.2.1, .i σ.2.2])] = some ([.i (manyP σ).1], [(t_morph_reader, [.s (manyP σ).2.1, .i (manyP σ).2.2.1, .i (manyP σ).2.2.2])]) := by
  rw [w___celluloid_morph_reader__many]
  unfold manyP
  simp only [mlit_c h, Option.bind_some, Option.bind_none, andB, orB, orB2, List.getD_cons_zero, List.getD_cons_succ, toB_b, toI_i, toS_s, toL_l, cond_true, cond_false, List.length_map]
  cases decide ((lit σ 1).1 > 15)
  · rfl
  · simp only [mfail_c, Option.bind_some, Option.bind_none, andB, orB, orB2, List.getD_cons_zero, List.getD_cons_succ, toB_b, toI_i, toS_s, toL_l, cond_true, cond_false, List.length_map]
/-! ### stops -/
def ps1 (u v : Int) (σ : Rs) : P2 Stop :=
  let r := lit σ 1
  let c := col r.2
  let q := lit c.2 1
  let d := col (bif (q.2.2.2 == 0) && (decide (r.1 < u) || decide (q.1 < v)) then failR q.2 3 else q.2)
  ((⟨r.1, c.1⟩, ⟨q.1, d.1⟩), d.2)
def psP : Nat → Int → Int → Rs → (List Stop × List Stop) × Rs
  | 0, _, _, σ => (([], []), σ)
  | n + 1, u, v, σ => let a := ps1 u v σ; let b := psP n a.1.1.ratio a.1.2.ratio a.2; ((a.1.1 :: b.1.1, a.1.2 :: b.1.2), b.2)
theorem ps1_len {u v : Int} {σ : Rs} (h : LenOk σ) : LenOk (ps1 u v σ).2 := by
  unfold ps1
  dsimp only
  apply col_len
  have h3 := lit_len (col_len (lit_len h 1)) 1
  cases ((lit (col (lit σ 1).2).2 1).2.2.2 == 0) && (decide ((lit σ 1).1 < u) || decide ((lit (col (lit σ 1).2).2 1).1 < v))
  · exact h3
  · exact fail_len h3 3
theorem psP_len : ∀ (n : Nat) (u v : Int) (σ : Rs), LenOk σ → LenOk (psP n u v σ).2
  | 0, _, _, _, h => h
  | n + 1, u, v, σ, h => psP_len n _ _ _ (ps1_len h)
theorem psP_n : ∀ (n : Nat) (u v : Int) (σ : Rs), (psP n u v σ).1.1.length = n ∧ (psP n u v σ).1.2.length = n
  | 0, _, _, _ => ⟨rfl, rfl⟩
  | n + 1, u, v, σ => by
    obtain ⟨a, b⟩ := psP_n n (ps1 u v σ).1.1.ratio (ps1 u v σ).1.2.ratio (ps1 u v σ).2
    exact ⟨by show _ + 1 = _; rw [a], by show _ + 1 = _; rw [b]⟩
theorem loopM1 {n : Nat} (hn : n ≤ 15) (b1 b2 b3 b4 b5 b6 b7 b8 b9 b10 b11 b12 b13 d1 d2 d3 d4 d5 d6 d7 d8 d9 d10 d11 d12 d13 : Int) : ∀ (j i : Nat) (pre qre : List Stop) (u v : Int) (σ : Rs), i + j = n → pre.length = i → qre.length = i → LenOk σ →
    rW f___celluloid_morph_reader__fills [t_morph_reader] at___celluloid_morph_reader__fills_L1 (S___celluloid_morph_reader__fills_L1 u v n i σ.1 σ.2.1 σ.2.2 [] 0 0 0 0 0 0 0 0 0 0 0 0 0 [] 0 0 0 0 0 0 0 0 0 0 0 0 0 (pre.map Stop.e) b1 b2 b3 b4 b5 b6 b7 b8 b9 b10 b11 b12 b13 (qre.map Stop.e) d1 d2 d3 d4 d5 d6 d7 d8 d9 d10 d11 d12 d13) =
      some ([.i b1, .i b2, .i b3, .i b4, .i b5, .i b6, .i b7, .i b8, .i b9, .i b10, .i b11, .i b12, .l ((pre ++ (psP j u v σ).1.1).map Stop.e), .i b13, .i d1, .i d2, .i d3, .i d4, .i d5, .i d6, .i d7, .i d8, .i d9, .i d10, .i d11, .i d12, .l ((qre ++ (psP j u v σ).1.2).map Stop.e), .i d13], [(t_morph_reader, [.s (psP j u v σ).2.1, .i (psP j u v σ).2.2.1, .i (psP j u v σ).2.2.2])])
  | 0, i, pre, qre, u, v, σ, hi, hp, hq, hσ => by
    obtain rfl : i = n := hi
    rw [w___celluloid_morph_reader__fills_L1, decide_eq_false (by omega)]
    simp only [psP, List.append_nil, Bool.and_true, Bool.true_and, Bool.and_false, Bool.false_and, Bool.or_true, Bool.true_or, Bool.or_false, Bool.false_or, Bool.not_true, Bool.not_false, Option.bind_some, Option.bind_none, andB, orB, orB2, List.getD_cons_zero, List.getD_cons_succ, toB_b, toI_i, toS_s, toL_l, cond_true, cond_false, List.length_map]
  | j + 1, i, pre, qre, u, v, σ, hi, hp, hq, hσ => by
    obtain ⟨h1, h2⟩ := step_i (i := i) (n := n) (by omega) (by omega)
    have l1 := lit_len hσ 1
    have l2 := col_len l1
    have l3 := lit_len l2 1
    have ih := loopM1 hn b1 b2 b3 b4 b5 b6 b7 b8 b9 b10 b11 b12 b13 d1 d2 d3 d4 d5 d6 d7 d8 d9 d10 d11 d12 d13 j (i + 1) (pre ++ [(ps1 u v σ).1.1]) (qre ++ [(ps1 u v σ).1.2]) (ps1 u v σ).1.1.ratio (ps1 u v σ).1.2.ratio (ps1 u v σ).2 (by omega) (by simp [hp]) (by simp [hq]) (ps1_len hσ)
    have room : (pre.length + 1001) * 41 ≤ 1099511627776 := by omega
    have room2 : (qre.length + 1001) * 41 ≤ 1099511627776 := by omega
    rw [w___celluloid_morph_reader__fills_L1]
    simp only [h1, h2, mlit_c hσ, mcol_c l1, mlit_c l2, room1 _ _ room, Bool.and_true, Bool.true_and, Bool.and_false, Bool.false_and, Bool.or_true, Bool.true_or, Bool.or_false, Bool.false_or, Bool.not_true, Bool.not_false, Option.bind_some, Option.bind_none, andB, orB, orB2, List.getD_cons_zero, List.getD_cons_succ, toB_b, toI_i, toS_s, toL_l, cond_true, cond_false, List.length_map]
    have fin : ∀ τ : Rs, ps1 u v σ = ((⟨(lit σ 1).1, (col (lit σ 1).2).1⟩, ⟨(lit (col (lit σ 1).2).2 1).1, (col τ).1⟩), (col τ).2) → LenOk τ →
        rW f___celluloid_morph_reader__fills [t_morph_reader] at___celluloid_morph_reader__fills_L1 (S___celluloid_morph_reader__fills_L1 (lit σ 1).1 (lit (col (lit σ 1).2).2 1).1 n ((i + 1 : Nat) : Int) (col τ).2.1 (col τ).2.2.1 (col τ).2.2.2 [] 0 0 0 0 0 0 0 0 0 0 0 0 0 [] 0 0 0 0 0 0 0 0 0 0 0 0 0
          (pre.map Stop.e ++ List.set [[PV.i 0, PV.i 0, PV.i 0, PV.i 0, PV.i 0]] 0 [PV.i (lit σ 1).1, PV.i (col (lit σ 1).2).1.1, PV.i (col (lit σ 1).2).1.2.1, PV.i (col (lit σ 1).2).1.2.2.1, PV.i (col (lit σ 1).2).1.2.2.2]) b1 b2 b3 b4 b5 b6 b7 b8 b9 b10 b11 b12 b13
          (qre.map Stop.e ++ List.set [[PV.i 0, PV.i 0, PV.i 0, PV.i 0, PV.i 0]] 0 [PV.i (lit (col (lit σ 1).2).2 1).1, PV.i (col τ).1.1, PV.i (col τ).1.2.1, PV.i (col τ).1.2.2.1, PV.i (col τ).1.2.2.2]) d1 d2 d3 d4 d5 d6 d7 d8 d9 d10 d11 d12 d13) =
        some ([.i b1, .i b2, .i b3, .i b4, .i b5, .i b6, .i b7, .i b8, .i b9, .i b10, .i b11, .i b12, .l ((pre ++ (psP (j + 1) u v σ).1.1).map Stop.e), .i b13, .i d1, .i d2, .i d3, .i d4, .i d5, .i d6, .i d7, .i d8, .i d9, .i d10, .i d11, .i d12, .l ((qre ++ (psP (j + 1) u v σ).1.2).map Stop.e), .i d13], [(t_morph_reader, [.s (psP (j + 1) u v σ).2.1, .i (psP (j + 1) u v σ).2.2.1, .i (psP (j + 1) u v σ).2.2.2])]) := by
      intro τ e hτ
      rw [e] at ih
      rw [stops_row pre ⟨(lit σ 1).1, (col (lit σ 1).2).1⟩, stops_row qre ⟨(lit (col (lit σ 1).2).2 1).1, (col τ).1⟩, ih]
      simp only [psP, e, List.append_assoc, List.cons_append, List.nil_append]
    have hdef : ∀ b : Bool, b = ((lit (col (lit σ 1).2).2 1).2.2.2 == 0 && (decide ((lit σ 1).1 < u) || decide ((lit (col (lit σ 1).2).2 1).1 < v))) → ps1 u v σ = ((⟨(lit σ 1).1, (col (lit σ 1).2).1⟩, ⟨(lit (col (lit σ 1).2).2 1).1, (col (bif b then failR (lit (col (lit σ 1).2).2 1).2 3 else (lit (col (lit σ 1).2).2 1).2)).1⟩), (col (bif b then failR (lit (col (lit σ 1).2).2 1).2 3 else (lit (col (lit σ 1).2).2 1).2)).2) := by rintro b rfl; rfl
    cases hb : ((lit (col (lit σ 1).2).2 1).2.2.2 == 0 && (decide ((lit σ 1).1 < u) || decide ((lit (col (lit σ 1).2).2 1).1 < v))) with
    | true =>
      simp only [mfail_c, mcol_c (fail_len l3 3), room1 _ _ room2, Bool.and_true, Bool.true_and, Bool.and_false, Bool.false_and, Bool.or_true, Bool.true_or, Bool.or_false, Bool.false_or, Bool.not_true, Bool.not_false, Option.bind_some, Option.bind_none, andB, orB, orB2, List.getD_cons_zero, List.getD_cons_succ, toB_b, toI_i, toS_s, toL_l, cond_true, cond_false, List.length_map]
      exact fin _ (hdef true hb.symm) (fail_len l3 3)
    | false =>
      simp only [mcol_c l3, room1 _ _ room2, Bool.and_true, Bool.true_and, Bool.and_false, Bool.false_and, Bool.or_true, Bool.true_or, Bool.or_false, Bool.false_or, Bool.not_true, Bool.not_false, Option.bind_some, Option.bind_none, andB, orB, orB2, List.getD_cons_zero, List.getD_cons_succ, toB_b, toI_i, toS_s, toL_l, cond_true, cond_false, List.length_map]
      exact fin _ (hdef false hb.symm) l3
/-! ### a pair -/
def pfP (σ : Rs) : P2 Fill :=
  let r := lit σ 1
  bif kindS r.1 then ((⟨r.1, (col r.2).1, (0, 0, 0, 0, 0, 0), 0, [], 0⟩, ⟨r.1, (col (col r.2).2).1, (0, 0, 0, 0, 0, 0), 0, [], 0⟩), (col (col r.2).2).2)
  else bif kindP r.1 then
    let i := lit r.2 2
    ((⟨r.1, (0, 0, 0, 0), (mt i.2).1, 0, [], i.1⟩, ⟨r.1, (0, 0, 0, 0), (mt (mt i.2).2).1, 0, [], i.1⟩), (mt (mt i.2).2).2)
  else bif kindG r.1 then
    let m := mt r.2
    let k := mt m.2
    let n := (lit k.2 1).1
    let st := psP (n % 16).toNat 0 0 (gradS k.2)
    ((⟨r.1, (0, 0, 0, 0), m.1, n / 64, st.1.1, 0⟩, ⟨r.1, (0, 0, 0, 0), k.1, n / 64, st.1.2, 0⟩), st.2)
  else ((⟨r.1, (0, 0, 0, 0), (0, 0, 0, 0, 0, 0), 0, [], 0⟩, ⟨r.1, (0, 0, 0, 0), (0, 0, 0, 0, 0, 0), 0, [], 0⟩), failR r.2 3)
theorem pfP_len {σ : Rs} (h : LenOk σ) : LenOk (pfP σ).2 := by
  have h1 := lit_len h 1
  unfold pfP
  dsimp only
  cases kindS (lit σ 1).1
  · cases kindP (lit σ 1).1
    · cases kindG (lit σ 1).1
      · exact fail_len h1 3
      · exact psP_len _ _ _ _ (gradS_len (mt_len (mt_len h1)))
    · exact mt_len (mt_len (lit_len h1 2))
  · exact col_len (col_len h1)
theorem pfP_c {σ : Rs} (h : LenOk σ) : cW f___celluloid_morph_reader__fills [.u] [(t_morph_reader, [.s σ.1, .i σ.2.1, .i σ.2.2])] = some ((pfP σ).1.1.e ++ (pfP σ).1.2.e, [(t_morph_reader, [.s (pfP σ).2.1, .i (pfP σ).2.2.1, .i (pfP σ).2.2.2])]) := by
  have h1 := lit_len h 1
  rw [w___celluloid_morph_reader__fills]
  unfold pfP
  simp only [mlit_c h, Option.bind_some, Option.bind_none, andB, orB, orB2, List.getD_cons_zero, List.getD_cons_succ, toB_b, toI_i, toS_s, toL_l, cond_true, cond_false, List.length_map]
  show (bif kindS (lit σ 1).1 then _ else _) = _
  cases ks : kindS (lit σ 1).1 with
  | true => simp only [mcol_c h1, mcol_c (col_len h1), Fill.e, List.map_nil, List.cons_append, List.nil_append, Option.bind_some, Option.bind_none, andB, orB, orB2, List.getD_cons_zero, List.getD_cons_succ, toB_b, toI_i, toS_s, toL_l, cond_true, cond_false, List.length_map]
  | false =>
    simp only [cond_false]
    have grad : kindG (lit σ 1).1 = true → ∀ b : Bool, b = badN (lit (mt (mt (lit σ 1).2).2).2 1).1 →
        ((bif (lit (mt (mt (lit σ 1).2).2).2 1).2.2.2 == 0 then some [PV.b b] else some [PV.b false]).bind fun r13 =>
          (bif (r13.getD 0 PV.u).toB then (cW f___celluloid_morph_reader__fail [.u, .i 3] [(t_morph_reader, [.s (lit (mt (mt (lit σ 1).2).2).2 1).2.1, .i (lit (mt (mt (lit σ 1).2).2).2 1).2.2.1, .i (lit (mt (mt (lit σ 1).2).2).2 1).2.2.2])]).bind fun r14 =>
              rW f___celluloid_morph_reader__fills [t_morph_reader] at___celluloid_morph_reader__fills_L1 (S___celluloid_morph_reader__fills_L1 0 0 ((lit (mt (mt (lit σ 1).2).2).2 1).1 % 16) 0 ((r14.2.getD 0 (0, [])).2.getD 0 PV.u).toS ((r14.2.getD 0 (0, [])).2.getD 1 PV.u).toI ((r14.2.getD 0 (0, [])).2.getD 2 PV.u).toI [] 0 0 0 0 0 0 0 0 0 0 0 0 0 [] 0 0 0 0 0 0 0 0 0 0 0 0 0 [] (lit σ 1).1 0 0 0 0 (mt (lit σ 1).2).1.1 (mt (lit σ 1).2).1.2.1 (mt (lit σ 1).2).1.2.2.1 (mt (lit σ 1).2).1.2.2.2.1 (mt (lit σ 1).2).1.2.2.2.2.1 (mt (lit σ 1).2).1.2.2.2.2.2 ((lit (mt (mt (lit σ 1).2).2).2 1).1 / 64) 0 [] (lit σ 1).1 0 0 0 0 (mt (mt (lit σ 1).2).2).1.1 (mt (mt (lit σ 1).2).2).1.2.1 (mt (mt (lit σ 1).2).2).1.2.2.1 (mt (mt (lit σ 1).2).2).1.2.2.2.1 (mt (mt (lit σ 1).2).2).1.2.2.2.2.1 (mt (mt (lit σ 1).2).2).1.2.2.2.2.2 ((lit (mt (mt (lit σ 1).2).2).2 1).1 / 64) 0)
          else rW f___celluloid_morph_reader__fills [t_morph_reader] at___celluloid_morph_reader__fills_L1 (S___celluloid_morph_reader__fills_L1 0 0 ((lit (mt (mt (lit σ 1).2).2).2 1).1 % 16) 0 (lit (mt (mt (lit σ 1).2).2).2 1).2.1 (lit (mt (mt (lit σ 1).2).2).2 1).2.2.1 (lit (mt (mt (lit σ 1).2).2).2 1).2.2.2 [] 0 0 0 0 0 0 0 0 0 0 0 0 0 [] 0 0 0 0 0 0 0 0 0 0 0 0 0 [] (lit σ 1).1 0 0 0 0 (mt (lit σ 1).2).1.1 (mt (lit σ 1).2).1.2.1 (mt (lit σ 1).2).1.2.2.1 (mt (lit σ 1).2).1.2.2.2.1 (mt (lit σ 1).2).1.2.2.2.2.1 (mt (lit σ 1).2).1.2.2.2.2.2 ((lit (mt (mt (lit σ 1).2).2).2 1).1 / 64) 0 [] (lit σ 1).1 0 0 0 0 (mt (mt (lit σ 1).2).2).1.1 (mt (mt (lit σ 1).2).2).1.2.1 (mt (mt (lit σ 1).2).2).1.2.2.1 (mt (mt (lit σ 1).2).2).1.2.2.2.1 (mt (mt (lit σ 1).2).2).1.2.2.2.2.1 (mt (mt (lit σ 1).2).2).1.2.2.2.2.2 ((lit (mt (mt (lit σ 1).2).2).2 1).1 / 64) 0))) =
        some ((⟨(lit σ 1).1, (0, 0, 0, 0), (mt (lit σ 1).2).1, (lit (mt (mt (lit σ 1).2).2).2 1).1 / 64, (psP ((lit (mt (mt (lit σ 1).2).2).2 1).1 % 16).toNat 0 0 (gradS (mt (mt (lit σ 1).2).2).2)).1.1, 0⟩ : Fill).e ++ (⟨(lit σ 1).1, (0, 0, 0, 0), (mt (mt (lit σ 1).2).2).1, (lit (mt (mt (lit σ 1).2).2).2 1).1 / 64, (psP ((lit (mt (mt (lit σ 1).2).2).2 1).1 % 16).toNat 0 0 (gradS (mt (mt (lit σ 1).2).2).2)).1.2, 0⟩ : Fill).e, [(t_morph_reader, [.s (psP ((lit (mt (mt (lit σ 1).2).2).2 1).1 % 16).toNat 0 0 (gradS (mt (mt (lit σ 1).2).2).2)).2.1, .i (psP ((lit (mt (mt (lit σ 1).2).2).2 1).1 % 16).toNat 0 0 (gradS (mt (mt (lit σ 1).2).2).2)).2.2.1, .i (psP ((lit (mt (mt (lit σ 1).2).2).2 1).1 % 16).toNat 0 0 (gradS (mt (mt (lit σ 1).2).2).2)).2.2.2])]) := by
      intro kg b hb
      have h2 := mt_len (mt_len h1)
      have n0 := lit_pos (mt (mt (lit σ 1).2).2).2 1
      have n1 := lit1_lt (mt (mt (lit σ 1).2).2).2
      have hg := gradS_len h2
      have hn : ((((lit (mt (mt (lit σ 1).2).2).2 1).1 % 16).toNat : Nat) : Int) = (lit (mt (mt (lit σ 1).2).2).2 1).1 % 16 := by omega
      have e := loopM1 (n := ((lit (mt (mt (lit σ 1).2).2).2 1).1 % 16).toNat) (by omega) (lit σ 1).1 0 0 0 0 (mt (lit σ 1).2).1.1 (mt (lit σ 1).2).1.2.1 (mt (lit σ 1).2).1.2.2.1 (mt (lit σ 1).2).1.2.2.2.1 (mt (lit σ 1).2).1.2.2.2.2.1 (mt (lit σ 1).2).1.2.2.2.2.2 ((lit (mt (mt (lit σ 1).2).2).2 1).1 / 64) 0 (lit σ 1).1 0 0 0 0 (mt (mt (lit σ 1).2).2).1.1 (mt (mt (lit σ 1).2).2).1.2.1 (mt (mt (lit σ 1).2).2).1.2.2.1 (mt (mt (lit σ 1).2).2).1.2.2.2.1 (mt (mt (lit σ 1).2).2).1.2.2.2.2.1 (mt (mt (lit σ 1).2).2).1.2.2.2.2.2 ((lit (mt (mt (lit σ 1).2).2).2 1).1 / 64) 0 ((lit (mt (mt (lit σ 1).2).2).2 1).1 % 16).toNat 0 [] [] 0 0 (gradS (mt (mt (lit σ 1).2).2).2) (by omega) rfl rfl hg
      rw [hn] at e
      have hgd : gradS (mt (mt (lit σ 1).2).2).2 = (bif ((lit (mt (mt (lit σ 1).2).2).2 1).2.2.2 == 0) && b then failR (lit (mt (mt (lit σ 1).2).2).2 1).2 3 else (lit (mt (mt (lit σ 1).2).2).2 1).2) := by rw [hb]; rfl
      rw [hgd] at e ⊢
      cases hc : ((lit (mt (mt (lit σ 1).2).2).2 1).2.2.2 == 0) with
      | false =>
        rw [hc] at e
        simp only [Bool.false_and, cond_false] at e ⊢
        simpa [Fill.e, toB_b] using e
      | true =>
        cases b with
        | false =>
          rw [hc] at e
          simp only [Bool.and_false, cond_false, cond_true] at e ⊢
          simpa [Fill.e, toB_b] using e
        | true =>
          rw [hc] at e
          simp only [Bool.and_self, cond_true, mfail_c, Option.bind_some, Option.bind_none, andB, orB, orB2, List.getD_cons_zero, List.getD_cons_succ, toB_b, toI_i, toS_s, toL_l, cond_true, cond_false, List.length_map] at e ⊢
          simpa [Fill.e, toB_b] using e
    cases kp : kindP (lit σ 1).1 with
    | true =>
      have k0 : (lit σ 1).1 = 64 ∨ (lit σ 1).1 = 65 := by unfold kindP at kp; simpa using kp
      have l2 := lit_len h1 2
      rcases k0 with k0 | k0
      · rw [show ((lit σ 1).1 == 64) = true by rw [k0]; rfl]
        simp only [mlit_c h1, mmt_c l2, mmt_c (mt_len l2), Fill.e, List.map_nil, List.cons_append, List.nil_append, Option.bind_some, Option.bind_none, andB, orB, orB2, List.getD_cons_zero, List.getD_cons_succ, toB_b, toI_i, toS_s, toL_l, cond_true, cond_false, List.length_map]
      · rw [show ((lit σ 1).1 == 64) = false by rw [k0]; rfl, show ((lit σ 1).1 == 65) = true by rw [k0]; rfl]
        simp only [mlit_c h1, mmt_c l2, mmt_c (mt_len l2), Fill.e, List.map_nil, List.cons_append, List.nil_append, Option.bind_some, Option.bind_none, andB, orB, orB2, List.getD_cons_zero, List.getD_cons_succ, toB_b, toI_i, toS_s, toL_l, cond_true, cond_false, List.length_map]
    | false =>
      have k1 : ((lit σ 1).1 == 64) = false ∧ ((lit σ 1).1 == 65) = false := by unfold kindP at kp; simpa using kp
      rw [k1.1, k1.2]
      simp only [cond_false]
      have n0 := lit_pos (mt (mt (lit σ 1).2).2).2 1
      have n1 := lit1_lt (mt (mt (lit σ 1).2).2).2
      cases kg : kindG (lit σ 1).1 with
      | true =>
        have g := grad kg (badN (lit (mt (mt (lit σ 1).2).2).2 1).1) rfl
        unfold badN at g
        simp only [Fill.e, List.cons_append, List.nil_append, Option.bind_some, Option.bind_none, andB, orB, orB2, List.getD_cons_zero, List.getD_cons_succ, toB_b, toI_i, toS_s, toL_l, cond_true, cond_false, List.length_map] at g
        have k0 : (lit σ 1).1 = 16 ∨ (lit σ 1).1 = 18 := by unfold kindG at kg; simpa using kg
        rcases k0 with k0 | k0
        · rw [show ((lit σ 1).1 == 16) = true by rw [k0]; rfl]
          simp only [mmt_c h1, mmt_c (mt_len h1), mlit_c (mt_len (mt_len h1)), and15 n0 n1, and48 n0 n1, div64 n0 n1, Fill.e, List.cons_append, List.nil_append, Option.bind_some, Option.bind_none, andB, orB, orB2, List.getD_cons_zero, List.getD_cons_succ, toB_b, toI_i, toS_s, toL_l, cond_true, cond_false, List.length_map]
          exact g
        · rw [show ((lit σ 1).1 == 16) = false by rw [k0]; rfl, show ((lit σ 1).1 == 18) = true by rw [k0]; rfl]
          simp only [mmt_c h1, mmt_c (mt_len h1), mlit_c (mt_len (mt_len h1)), and15 n0 n1, and48 n0 n1, div64 n0 n1, Fill.e, List.cons_append, List.nil_append, Option.bind_some, Option.bind_none, andB, orB, orB2, List.getD_cons_zero, List.getD_cons_succ, toB_b, toI_i, toS_s, toL_l, cond_true, cond_false, List.length_map]
          exact g
      | false =>
        have k2 : ((lit σ 1).1 == 16) = false ∧ ((lit σ 1).1 == 18) = false := by unfold kindG at kg; simpa using kg
        rw [k2.1, k2.2]
        simp only [mfail_c, Fill.e, List.map_nil, List.cons_append, List.nil_append, Option.bind_some, Option.bind_none, andB, orB, orB2, List.getD_cons_zero, List.getD_cons_succ, toB_b, toI_i, toS_s, toL_l, cond_true, cond_false, List.length_map]
end Go.AI
set_option linter.unusedVariables false
set_option linter.unusedSimpArgs false
set_option maxRecDepth 100000
namespace Go.AI
open Go Go.Proofs

/-- at the beginning of a byte -/
def Al (σ : Rs) : Prop := σ.2.2 = 0 → 0 ≤ σ.2.1 ∧ σ.2.1 % 8 = 0 ∧ σ.2.1 ≤ 8 * (σ.1.length : Int)
theorem lit_al (σ : Rs) (n : Int) (h : σ.2.2 = 0) : Al (lit σ n).2 := by
  unfold lit
  rw [if_neg (by simp [h])]
  unfold littleF
  split
  · intro e; cases e
  · intro e
    dsimp only at e ⊢
    rcases bytesF_cases σ.1 σ.2.1 n with q | q | ⟨p, k, _, _, _, hk, q⟩ <;> rw [q] at e ⊢
    · cases e
    · cases e
    · dsimp only; omega
theorem loopR_end (kind : Int) : ∀ (n : Nat) (x : RS), Fuel n x.σ → (loopR kind n x).σ.2.2 = 0 → x.σ.2.2 = 0 ∧ (loopR kind n x).σ.1 = x.σ.1 ∧ x.σ.2.1 ≤ (loopR kind n x).σ.2.1 ∧ (loopR kind n x).σ.2.1 ≤ 8 * (x.σ.1.length : Int)
  | 0, x, hF, e => by
    have := (hF e).1
    omega
  | n + 1, x, hF, e => by
    unfold loopR at e ⊢
    cases hz : (x.σ.2.2 == 0) with
    | false =>
      rw [hz, cond_false] at e
      rw [e] at hz; cases hz
    | true =>
      rw [hz] at e
      simp only [cond_true] at e ⊢
      cases h1 : ((plR x 1).1 == 1) with
      | true =>
        rw [h1] at e
        simp only [cond_true] at e ⊢
        have A := edgeR_adv (plR x 1).2
        obtain ⟨a, b, c, d⟩ := loopR_end kind n (edgeR (plR x 1).2) (fuel_next hF rfl A) e
        obtain ⟨a', b', c'⟩ := A a
        obtain ⟨p1, p2, p3, p4⟩ := pl_adv1 (σ := x.σ) (n := 1) (by decide) a'
        have q1 : (edgeR (plR x 1).2).σ.1 = x.σ.1 := b'.trans p2
        refine ⟨p1, b.trans q1, ?_, ?_⟩
        · have c' : (pl x.σ 1).2.2.1 ≤ (edgeR (plR x 1).2).σ.2.1 := c'
          omega
        · rw [← q1]; exact d
      | false =>
        rw [h1] at e
        simp only [cond_false] at e ⊢
        cases h2 : ((plR (plR x 1).2 5).1 == 0) with
        | true =>
          rw [h2] at e
          simp only [cond_true] at e ⊢
          obtain ⟨a, b, c, d⟩ := pl_adv1 (σ := (pl x.σ 1).2) (n := 5) (by decide) e
          obtain ⟨p1, p2, p3, p4⟩ := pl_adv1 (σ := x.σ) (n := 1) (by decide) a
          have c : (pl x.σ 1).2.2.1 + 5 = (plR (plR x 1).2 5).2.σ.2.1 := c
          refine ⟨p1, b.trans p2, by omega, ?_⟩
          rw [p2] at d
          omega
        | false =>
          rw [h2] at e
          simp only [cond_false] at e ⊢
          have A := (plR_adv (plR x 1).2 5).trans (sevR_adv (plR (plR x 1).2 5).2 (plR (plR x 1).2 5).1 kind)
          obtain ⟨a, b, c, d⟩ := loopR_end kind n _ (fuel_next hF rfl A) e
          obtain ⟨a', b', c'⟩ := A a
          obtain ⟨p1, p2, p3, p4⟩ := pl_adv1 (σ := x.σ) (n := 1) (by decide) a'
          have q1 := b'.trans p2
          refine ⟨p1, b.trans q1, ?_, ?_⟩
          · have c' : (pl x.σ 1).2.2.1 ≤ (sevR (plR (plR x 1).2 5).2 (plR (plR x 1).2 5).1 kind).σ.2.1 := c'
            omega
          · rw [← q1]; exact d
theorem begin_right {s : List UInt8} {a : Int} (e : (beginP s a).2.2 = 0) : 0 ≤ (beginP s a).2.1 := by
  have hr : rightB s a = true := by
    unfold beginP at e
    by_cases hr : rightB s a = true
    · exact hr
    · rw [if_neg hr] at e; exact absurd e (by show (1 : Int) ≠ 0; decide)
  obtain ⟨q1, q2⟩ := rightB_iff.1 hr
  show 0 ≤ alignF s a
  unfold alignF; rw [if_pos hr]; omega
theorem takeRecsX_al {s : List UInt8} (h : s.length ≤ 2 ^ 40) (a fs ss kind : Int) : Al (takeRecsX s a fs ss kind).2 ∧ LenOk (takeRecsX s a fs ss kind).2 ∧ ((takeRecsX s a fs ss kind).2.2.2 = 0 → (takeRecsX s a fs ss kind).2.1 = s) := by
  have hb := (begin_len h a).1
  have F : Fuel (8 * s.length + 1) (startR (beginP s a) fs ss).σ := start_fuel (a := a) rfl (fun e => begin_right e) hb
  have E := loopR_end kind _ _ F
  obtain ⟨s1, s2, s3⟩ := start_ok hb fs ss
  unfold takeRecsX finX
  split
  · rename_i k
    exact ⟨fun e => absurd e k, Nat.zero_le _, fun e => absurd e k⟩
  · rename_i k
    have k : (loopR kind (8 * s.length + 1) (startR (beginP s a) fs ss)).σ.2.2 = 0 := by simpa using k
    obtain ⟨a1, b1, c1, d1⟩ := E k
    obtain ⟨a2, b2, c2⟩ := s3 a1
    have b3 : (loopR kind (8 * s.length + 1) (startR (beginP s a) fs ss)).σ.1 = s := b1.trans b2
    have z := begin_right (s := s) (a := a) a2
    have d2 : (loopR kind (8 * s.length + 1) (startR (beginP s a) fs ss)).σ.2.1 ≤ 8 * (s.length : Int) := by
      have : (startR (beginP s a) fs ss).σ.1 = s := b2
      rw [this] at d1; exact d1
    rw [b3]
    refine ⟨fun _ => ?_, h, fun _ => rfl⟩
    have hr : rightB s (loopR kind (8 * s.length + 1) (startR (beginP s a) fs ss)).σ.2.1 = true := rightB_iff.2 ⟨by omega, d2⟩
    show 0 ≤ alignF s _ ∧ alignF s _ % 8 = 0 ∧ alignF s _ ≤ 8 * (s.length : Int)
    unfold alignF
    rw [if_pos hr]
    omega
theorem takeRecsF_len {s : List UInt8} (h : s.length ≤ 2 ^ 40) (a fs ss kind : Int) : LenOk (takeRecsF s a fs ss kind).2 := by
  unfold takeRecsF
  cases okArg fs ss kind
  · exact Nat.zero_le _
  · exact (takeRecsX_al h a fs ss kind).2.1
theorem rcs_len {σ : Rs} (h : LenOk σ) (f s kind : Int) : LenOk (rcs σ f s kind).2 := by
  unfold rcs
  split
  · exact h
  · exact takeRecsF_len h ..
/-! ### pairs -/
def pairsN {α : Type} (f : Rs → P2 α) : Nat → Rs → (List α × List α) × Rs
  | 0, σ => (([], []), σ)
  | n + 1, σ => let a := f σ; let b := pairsN f n a.2; ((a.1.1 :: b.1.1, a.1.2 :: b.1.2), b.2)
theorem pairsN_len {α : Type} {f : Rs → P2 α} (hf : ∀ σ, LenOk σ → LenOk (f σ).2) : ∀ (n : Nat) (σ : Rs), LenOk σ → LenOk (pairsN f n σ).2
  | 0, _, h => h
  | n + 1, σ, h => pairsN_len hf n _ (hf σ h)
theorem pairsN_n {α : Type} (f : Rs → P2 α) : ∀ (n : Nat) (σ : Rs), (pairsN f n σ).1.1.length = n ∧ (pairsN f n σ).1.2.length = n
  | 0, _ => ⟨rfl, rfl⟩
  | n + 1, σ => by
    obtain ⟨a, b⟩ := pairsN_n f n (f σ).2
    exact ⟨by show _ + 1 = _; rw [a], by show _ + 1 = _; rw [b]⟩
def spP (σ : Rs) : P2 Strk :=
  let a := lit σ 2
  let b := lit a.2 2
  let c := col b.2
  let d := col c.2
  ((⟨a.1, c.1⟩, ⟨b.1, d.1⟩), d.2)
theorem spP_len {σ : Rs} (h : LenOk σ) : LenOk (spP σ).2 := col_len (col_len (lit_len (lit_len h 2) 2))
def mor0 : Mor := ⟨0, (0, 0, 0, 0), (0, 0, 0, 0), [], [], [], [], [], []⟩
def enc10 (r : Mor × Rs) : Res := (r.1.e ++ [.s r.2.1, .i r.2.2.1, .i r.2.2.2], [])
def bad10 (e : Int) : Mor × Rs := (mor0, ([], 0, e))
def fin10 (id : Int) (fr to : I4) (size start : Int) (fl : List Fill × List Fill) (st : List Strk × List Strk) (σ : Rs) : Mor × Rs :=
  let u := rcs σ (fl.1.length : Nat) (st.1.length : Nat) 1
  let v := rcs u.2 0 0 2
  let w := bif (IntKind.wrap .i64 (IntKind.wrap .i64 (Int.tdiv u.2.2.1 8) - start) != size) then failR v.2 3 else v.2
  bif w.2.2 != 0 then bad10 w.2.2 else (⟨id, fr, to, fl.1, fl.2, st.1, st.2, u.1, v.1⟩, (w.1, w.2.1, 0))
def tail10 (id : Int) (fr to : I4) (size start : Int) (fl : List Fill × List Fill) (σ : Rs) : Mor × Rs :=
  let k := manyP σ
  let st := pairsN spP k.1.toNat k.2
  fin10 id fr to size start fl st.1 st.2
def take10 (s : List UInt8) (a : Int) : Mor × Rs :=
  let i := lit (s, a, 0) 2
  let r := rc i.2
  let q := rc r.2
  let z := lit q.2 4
  let m := manyP z.2
  let fl := pairsN pfP m.1.toNat m.2
  tail10 i.1 r.1 q.1 z.1 (IntKind.wrap .i64 (Int.tdiv z.2.2.1 8)) fl.1 fl.2
theorem mtake_loop2 {n : Nat} (hn : n ≤ 15) (id : Int) (fr to : I4) (size start : Int) (L L' : List Fill) (o1 : List UInt8) (o2 : Int) : ∀ (j i : Nat) (pre qre : List Strk) (σ : Rs), i + j = n → pre.length = i → qre.length = i → LenOk σ →
    rW f_morph_Take [] at_morph_Take_L2 (S_morph_Take_L2 size start n i [] [] [] [] [] [] 0 0 0 0 0 0 0 0 0 o1 o2 σ.1 σ.2.1 σ.2.2 (L.map Fill.e) (L'.map Fill.e) (pre.map Strk.e) (qre.map Strk.e) [] [] id fr.1 fr.2.1 fr.2.2.1 fr.2.2.2 to.1 to.2.1 to.2.2.1 to.2.2.2) =
      some (enc10 (fin10 id fr to size start (L, L') (pre ++ (pairsN spP j σ).1.1, qre ++ (pairsN spP j σ).1.2) (pairsN spP j σ).2))
  | 0, i, pre, qre, σ, hi, hp, hq, hσ => by
    obtain rfl : i = n := hi
    have h1 := rcs_len hσ (L.length : Nat) (pre.length : Nat) 1
    rw [w_morph_Take_L2, decide_eq_false (by omega)]
    simp only [mrcs_c hσ, mrcs_c h1, Bool.and_true, Bool.true_and, Bool.and_false, Bool.false_and, Bool.or_true, Bool.true_or, Bool.or_false, Bool.false_or, Bool.not_true, Bool.not_false, Option.bind_some, Option.bind_none, andB, orB, orB2, List.getD_cons_zero, List.getD_cons_succ, toB_b, toI_i, toS_s, toL_l, cond_true, cond_false, List.length_map]
    unfold fin10
    simp only [pairsN, List.append_nil]
    generalize (IntKind.wrap .i64 (IntKind.wrap .i64 (Int.tdiv (rcs σ (L.length : Nat) (pre.length : Nat) 1).2.2.1 8) - start) != size) = b
    cases b with
    | true =>
      simp only [mfail_c, Bool.and_true, Bool.true_and, Bool.and_false, Bool.false_and, Bool.or_true, Bool.true_or, Bool.or_false, Bool.false_or, Bool.not_true, Bool.not_false, Option.bind_some, Option.bind_none, andB, orB, orB2, List.getD_cons_zero, List.getD_cons_succ, toB_b, toI_i, toS_s, toL_l, cond_true, cond_false, List.length_map]
      generalize failR (rcs (rcs σ (L.length : Nat) (pre.length : Nat) 1).2 0 0 2).2 3 = w
      cases w.2.2 != 0 <;> rfl
    | false =>
      simp only [Bool.and_true, Bool.true_and, Bool.and_false, Bool.false_and, Bool.or_true, Bool.true_or, Bool.or_false, Bool.false_or, Bool.not_true, Bool.not_false, Option.bind_some, Option.bind_none, andB, orB, orB2, List.getD_cons_zero, List.getD_cons_succ, toB_b, toI_i, toS_s, toL_l, cond_true, cond_false, List.length_map]
      generalize rcs (rcs σ (L.length : Nat) (pre.length : Nat) 1).2 0 0 2 = w
      cases w.2.2.2 != 0 <;> rfl
  | j + 1, i, pre, qre, σ, hi, hp, hq, hσ => by
    obtain ⟨h1, h2⟩ := step_i (i := i) (n := n) (by omega) (by omega)
    have l1 := lit_len hσ 2
    have l2 := lit_len l1 2
    have l3 := col_len l2
    have room : (pre.length + 1001) * 41 ≤ 1099511627776 := by omega
    have room2 : (qre.length + 1001) * 41 ≤ 1099511627776 := by omega
    have ih := mtake_loop2 hn id fr to size start L L' o1 o2 j (i + 1) (pre ++ [(spP σ).1.1]) (qre ++ [(spP σ).1.2]) (spP σ).2 (by omega) (by simp [hp]) (by simp [hq]) (spP_len hσ)
    rw [w_morph_Take_L2]
    simp only [h1, h2, mlit_c hσ, mlit_c l1, mcol_c l2, mcol_c l3, room1 _ _ room, room1 _ _ room2, Bool.and_true, Bool.true_and, Bool.and_false, Bool.false_and, Bool.or_true, Bool.true_or, Bool.or_false, Bool.false_or, Bool.not_true, Bool.not_false, Option.bind_some, Option.bind_none, andB, orB, orB2, List.getD_cons_zero, List.getD_cons_succ, toB_b, toI_i, toS_s, toL_l, cond_true, cond_false, List.length_map]
    rw [strk_row pre ⟨(lit σ 2).1, (col (lit (lit σ 2).2 2).2).1⟩, strk_row qre ⟨(lit (lit σ 2).2 2).1, (col (col (lit (lit σ 2).2 2).2).2).1⟩]
    refine Eq.trans ih ?_
    rw [List.append_assoc, List.append_assoc]; rfl
theorem mtake_loop0 {n : Nat} (hn : n ≤ 15) (id : Int) (fr to : I4) (size start : Int) (o1 : List UInt8) (o2 : Int) : ∀ (j i : Nat) (pre qre : List Fill) (σ : Rs), i + j = n → pre.length = i → qre.length = i → LenOk σ →
    rW f_morph_Take [] at_morph_Take_L0 (S_morph_Take_L0 size start n i [] [] [] [] [] [] 0 0 0 0 0 0 0 0 0 o1 o2 σ.1 σ.2.1 σ.2.2 (pre.map Fill.e) (qre.map Fill.e) [] [] [] [] id fr.1 fr.2.1 fr.2.2.1 fr.2.2.2 to.1 to.2.1 to.2.2.1 to.2.2.2) =
      some (enc10 (tail10 id fr to size start (pre ++ (pairsN pfP j σ).1.1, qre ++ (pairsN pfP j σ).1.2) (pairsN pfP j σ).2)) := by
  intro j
  induction j with
  | zero =>
    intro i pre qre σ hi hp hq hσ
    obtain rfl : i = n := hi
    obtain ⟨m0, m1⟩ := many_bound σ
    have e := mtake_loop2 (n := (manyP σ).1.toNat) (by omega) id fr to size start pre qre o1 o2 (manyP σ).1.toNat 0 [] [] (manyP σ).2 (by omega) rfl rfl (many_len hσ)
    rw [w_morph_Take_L0, decide_eq_false (by omega)]
    rw [show (((manyP σ).1.toNat : Nat) : Int) = (manyP σ).1 by omega] at e
    simp only [mmany_c hσ, pairsN, List.append_nil, Bool.and_true, Bool.true_and, Bool.and_false, Bool.false_and, Bool.or_true, Bool.true_or, Bool.or_false, Bool.false_or, Bool.not_true, Bool.not_false, Option.bind_some, Option.bind_none, andB, orB, orB2, List.getD_cons_zero, List.getD_cons_succ, toB_b, toI_i, toS_s, toL_l, cond_true, cond_false, List.length_map]
    exact e
  | succ j IH =>
    intro i pre qre σ hi hp hq hσ
    obtain ⟨h1, h2⟩ := step_i (i := i) (n := n) (by omega) (by omega)
    have hi15 : i ≤ 15 := by omega
    have room : (pre.length + 1001) * 129 ≤ 1099511627776 := by rw [hp]; exact Nat.le_trans (Nat.mul_le_mul_right 129 (Nat.add_le_add_right hi15 1001)) (by decide)
    have room2 : (qre.length + 1001) * 129 ≤ 1099511627776 := by rw [hq]; exact Nat.le_trans (Nat.mul_le_mul_right 129 (Nat.add_le_add_right hi15 1001)) (by decide)
    have ih := IH (i + 1) (pre ++ [(pfP σ).1.1]) (qre ++ [(pfP σ).1.2]) (pfP σ).2 (by omega) (by simp [hp]) (by simp [hq]) (pfP_len hσ)
    rw [w_morph_Take_L0]
    simp only [h1, h2, pfP_c hσ, Fill.e, List.cons_append, List.nil_append, room1 _ _ room, room1 _ _ room2, Bool.and_true, Bool.true_and, Bool.and_false, Bool.false_and, Bool.or_true, Bool.true_or, Bool.or_false, Bool.false_or, Bool.not_true, Bool.not_false, Option.bind_some, Option.bind_none, andB, orB, orB2, List.getD_cons_zero, List.getD_cons_succ, toB_b, toI_i, toS_s, toL_l, cond_true, cond_false, List.length_map]
    rw [fill_row pre (pfP σ).1.1, fill_row qre (pfP σ).1.2]
    refine Eq.trans ih ?_
    simp only [pairsN, List.append_assoc, List.cons_append, List.nil_append]
theorem Take10_c {s : List UInt8} (h : s.length ≤ 2 ^ 40) (a : Int) : cW f_morph_Take [.s s, .i a] [] = some (enc10 (take10 s a)) := by
  have h0 : LenOk ((s, a, 0) : Rs) := h
  have h1 := lit_len h0 2
  have h2 := rc_len h1
  have h3 := rc_len h2
  have h4 := lit_len h3 4
  have h5 := many_len h4
  obtain ⟨m0, m1⟩ := many_bound (lit (rc (rc (lit (s, a, 0) 2).2).2).2 4).2
  have e1 := mlit_c h0 2
  rw [w_morph_Take]
  simp only at e1
  simp only [e1, mrc_c h1, mrc_c h2, mlit_c h3, mmany_c h4, Bool.and_true, Bool.true_and, Bool.and_false, Bool.false_and, Bool.or_true, Bool.true_or, Bool.or_false, Bool.false_or, Bool.not_true, Bool.not_false, Option.bind_some, Option.bind_none, andB, orB, orB2, List.getD_cons_zero, List.getD_cons_succ, toB_b, toI_i, toS_s, toL_l, cond_true, cond_false, List.length_map]
  have e := mtake_loop0 (n := (manyP (lit (rc (rc (lit (s, a, 0) 2).2).2).2 4).2).1.toNat) (by omega) (lit (s, a, 0) 2).1 (rc (lit (s, a, 0) 2).2).1 (rc (rc (lit (s, a, 0) 2).2).2).1 (lit (rc (rc (lit (s, a, 0) 2).2).2).2 4).1 (IntKind.wrap .i64 (Int.tdiv (lit (rc (rc (lit (s, a, 0) 2).2).2).2 4).2.2.1 8)) [] 0 (manyP (lit (rc (rc (lit (s, a, 0) 2).2).2).2 4).2).1.toNat 0 [] [] (manyP (lit (rc (rc (lit (s, a, 0) 2).2).2).2 4).2).2 (by omega) rfl rfl h5
  rw [show (((manyP (lit (rc (rc (lit (s, a, 0) 2).2).2).2 4).2).1.toNat : Nat) : Int) = (manyP (lit (rc (rc (lit (s, a, 0) 2).2).2).2 4).2).1 by omega] at e
  exact e
end Go.AI
set_option linter.unusedVariables false
set_option linter.unusedSimpArgs false
set_option maxRecDepth 100000
namespace Go.AI
open Go Go.Proofs

theorem qrc_c {σ : Rs} (h : LenOk σ) : cW f_celluloidref10_rect [.s σ.1, .i σ.2.1, .i σ.2.2] [] = some ([.i (rc σ).1.1, .i (rc σ).1.2.1, .i (rc σ).1.2.2.1, .i (rc σ).1.2.2.2, .s (rc σ).2.1, .i (rc σ).2.2.1, .i (rc σ).2.2.2], []) := by
  rw [w_celluloidref10_rect]
  unfold rc
  by_cases he : σ.2.2 = 0
  · rw [show (σ.2.2 != 0) = false by simp [he], (qtakeRect_ans h σ.2.1).c, if_neg (by simp [he]), rect_same]
    rfl
  · rw [show (σ.2.2 != 0) = true by simp [he], if_pos he]; rfl
theorem ps1_err {u v : Int} {σ : Rs} (h : σ.2.2 ≠ 0) : (ps1 u v σ).2 = σ := by
  have e : (σ.2.2 == 0) = false := by simpa using h
  unfold ps1
  rw [lit_err h]
  dsimp only
  rw [col_err h]
  dsimp only
  rw [lit_err h]
  simp only [e, Bool.false_and, cond_false, col_err h]
theorem psP_err : ∀ (n : Nat) {u v : Int} {σ : Rs}, σ.2.2 ≠ 0 → (psP n u v σ).2 = σ
  | 0, _, _, _, _ => rfl
  | n + 1, u, v, σ, h => by
    show (psP n _ _ (ps1 u v σ).2).2 = σ
    rw [ps1_err h]; exact psP_err n h
/-- that stop at an error -/
def psQ : Nat → Int → Int → Rs → (List Stop × List Stop) × Rs
  | 0, _, _, σ => (([], []), σ)
  | n + 1, u, v, σ => bif σ.2.2 == 0 then let a := ps1 u v σ; let b := psQ n a.1.1.ratio a.1.2.ratio a.2; ((a.1.1 :: b.1.1, a.1.2 :: b.1.2), b.2) else (([], []), σ)
theorem psQ_eq : ∀ (n : Nat) (u v : Int) (σ : Rs), (psQ n u v σ).2 = (psP n u v σ).2 ∧ ((psP n u v σ).2.2.2 = 0 → psQ n u v σ = psP n u v σ)
  | 0, _, _, _ => ⟨rfl, fun _ => rfl⟩
  | n + 1, u, v, σ => by
    by_cases h : σ.2.2 = 0
    · obtain ⟨a, b⟩ := psQ_eq n (ps1 u v σ).1.1.ratio (ps1 u v σ).1.2.ratio (ps1 u v σ).2
      unfold psQ psP
      rw [show (σ.2.2 == 0) = true by simpa using h]
      exact ⟨a, fun e => by rw [cond_true]; dsimp only; rw [b e]⟩
    · have e := psP_err (n + 1) (u := u) (v := v) h
      unfold psQ
      rw [show (σ.2.2 == 0) = false by simpa using h, e]
      exact ⟨rfl, fun k => absurd k h⟩
theorem loopQ1 {N : Int} {n : Nat} (hN : Int.tmod N 16 = n) (hn : n ≤ 15) (b1 b2 b3 b4 b5 b6 b7 b8 b9 b10 b11 b12 b13 d1 d2 d3 d4 d5 d6 d7 d8 d9 d10 d11 d12 d13 : Int) : ∀ (j i : Nat) (pre qre : List Stop) (u v : Int) (σ : Rs), i + j = n → pre.length = i → qre.length = i → (pre = [] → u = 0 ∧ v = 0) → (∀ p q x y, pre = p ++ [x] → qre = q ++ [y] → u = x.ratio ∧ v = y.ratio) → LenOk σ →
    rW f_celluloidref10_fills [] at_celluloidref10_fills_L1 (S_celluloidref10_fills_L1 N i σ.1 σ.2.1 σ.2.2 [] 0 0 0 0 0 0 0 0 0 0 0 0 0 [] 0 0 0 0 0 0 0 0 0 0 0 0 0 [] 0 0 (pre.map Stop.e) b1 b2 b3 b4 b5 b6 b7 b8 b9 b10 b11 b12 b13 (qre.map Stop.e) d1 d2 d3 d4 d5 d6 d7 d8 d9 d10 d11 d12 d13) =
      some ([.i b1, .i b2, .i b3, .i b4, .i b5, .i b6, .i b7, .i b8, .i b9, .i b10, .i b11, .i b12, .l ((pre ++ (psQ j u v σ).1.1).map Stop.e), .i b13, .i d1, .i d2, .i d3, .i d4, .i d5, .i d6, .i d7, .i d8, .i d9, .i d10, .i d11, .i d12, .l ((qre ++ (psQ j u v σ).1.2).map Stop.e), .i d13, .s (psQ j u v σ).2.1, .i (psQ j u v σ).2.2.1, .i (psQ j u v σ).2.2.2], [])
  | 0, i, pre, qre, u, v, σ, hi, hp, hq, hl0, hl1, hσ => by
    obtain rfl : i = n := hi
    rw [w_celluloidref10_fills_L1, hN, decide_eq_false (by omega)]
    simp only [psQ, List.append_nil, Bool.and_true, Bool.true_and, Bool.and_false, Bool.false_and, Bool.or_true, Bool.true_or, Bool.or_false, Bool.false_or, Bool.not_true, Bool.not_false, Option.bind_some, Option.bind_none, andB, orB, orB2, List.getD_cons_zero, List.getD_cons_succ, toB_b, toI_i, toS_s, toL_l, cond_true, cond_false, List.length_map]
  | j + 1, i, pre, qre, u, v, σ, hi, hp, hq, hl0, hl1, hσ => by
    obtain ⟨h1, h2⟩ := step_i (i := i) (n := n) (by omega) (by omega)
    by_cases he : σ.2.2 = 0
    · have he' : (σ.2.2 == 0) = true := by simpa using he
      have l1 := lit_len hσ 1
      have l2 := col_len l1
      have l3 := lit_len l2 1
      have ih := loopQ1 hN hn b1 b2 b3 b4 b5 b6 b7 b8 b9 b10 b11 b12 b13 d1 d2 d3 d4 d5 d6 d7 d8 d9 d10 d11 d12 d13 j (i + 1) (pre ++ [(ps1 u v σ).1.1]) (qre ++ [(ps1 u v σ).1.2]) (ps1 u v σ).1.1.ratio (ps1 u v σ).1.2.ratio (ps1 u v σ).2 (by omega) (by simp [hp]) (by simp [hq]) (fun e => by simp at e) (fun p q x y e e2 => by
        have a := List.append_inj_right' e rfl
        have b := List.append_inj_right' e2 rfl
        simp at a b
        exact ⟨by rw [a], by rw [b]⟩) (ps1_len hσ)
      have hi15 : i ≤ 15 := by omega
      have room : (pre.length + 1001) * 41 ≤ 1099511627776 := by rw [hp]; exact Nat.le_trans (Nat.mul_le_mul_right 41 (Nat.add_le_add_right hi15 1001)) (by decide)
      have room2 : (qre.length + 1001) * 41 ≤ 1099511627776 := by rw [hq]; exact Nat.le_trans (Nat.mul_le_mul_right 41 (Nat.add_le_add_right hi15 1001)) (by decide)
      rw [w_celluloidref10_fills_L1, hN]
      simp only [h1, h2, he', rlit_c hσ, rcol_c l1, rlit_c l2, room1 _ _ room, Bool.and_true, Bool.true_and, Bool.and_false, Bool.false_and, Bool.or_true, Bool.true_or, Bool.or_false, Bool.false_or, Bool.not_true, Bool.not_false, Option.bind_some, Option.bind_none, andB, orB, orB2, List.getD_cons_zero, List.getD_cons_succ, toB_b, toI_i, toS_s, toL_l, cond_true, cond_false, List.length_map]
      have fin : ∀ τ : Rs, ps1 u v σ = ((⟨(lit σ 1).1, (col (lit σ 1).2).1⟩, ⟨(lit (col (lit σ 1).2).2 1).1, (col τ).1⟩), (col τ).2) → LenOk τ →
          rW f_celluloidref10_fills [] at_celluloidref10_fills_L1 (S_celluloidref10_fills_L1 N ((i + 1 : Nat) : Int) (col τ).2.1 (col τ).2.2.1 (col τ).2.2.2 [] 0 0 0 0 0 0 0 0 0 0 0 0 0 [] 0 0 0 0 0 0 0 0 0 0 0 0 0 [] 0 0
            (pre.map Stop.e ++ List.set [[PV.i 0, PV.i 0, PV.i 0, PV.i 0, PV.i 0]] 0 [PV.i (lit σ 1).1, PV.i (col (lit σ 1).2).1.1, PV.i (col (lit σ 1).2).1.2.1, PV.i (col (lit σ 1).2).1.2.2.1, PV.i (col (lit σ 1).2).1.2.2.2]) b1 b2 b3 b4 b5 b6 b7 b8 b9 b10 b11 b12 b13
            (qre.map Stop.e ++ List.set [[PV.i 0, PV.i 0, PV.i 0, PV.i 0, PV.i 0]] 0 [PV.i (lit (col (lit σ 1).2).2 1).1, PV.i (col τ).1.1, PV.i (col τ).1.2.1, PV.i (col τ).1.2.2.1, PV.i (col τ).1.2.2.2]) d1 d2 d3 d4 d5 d6 d7 d8 d9 d10 d11 d12 d13) =
          some ([.i b1, .i b2, .i b3, .i b4, .i b5, .i b6, .i b7, .i b8, .i b9, .i b10, .i b11, .i b12, .l ((pre ++ (psQ (j + 1) u v σ).1.1).map Stop.e), .i b13, .i d1, .i d2, .i d3, .i d4, .i d5, .i d6, .i d7, .i d8, .i d9, .i d10, .i d11, .i d12, .l ((qre ++ (psQ (j + 1) u v σ).1.2).map Stop.e), .i d13, .s (psQ (j + 1) u v σ).2.1, .i (psQ (j + 1) u v σ).2.2.1, .i (psQ (j + 1) u v σ).2.2.2], []) := by
        intro τ e hτ
        rw [e] at ih
        rw [stops_row pre ⟨(lit σ 1).1, (col (lit σ 1).2).1⟩, stops_row qre ⟨(lit (col (lit σ 1).2).2 1).1, (col τ).1⟩, ih]
        simp only [psQ, he', e, List.append_assoc, List.cons_append, List.nil_append, cond_true]
      have hdef : ∀ b : Bool, b = ((lit (col (lit σ 1).2).2 1).2.2.2 == 0 && (decide ((lit σ 1).1 < u) || decide ((lit (col (lit σ 1).2).2 1).1 < v))) → ps1 u v σ = ((⟨(lit σ 1).1, (col (lit σ 1).2).1⟩, ⟨(lit (col (lit σ 1).2).2 1).1, (col (bif b then failR (lit (col (lit σ 1).2).2 1).2 3 else (lit (col (lit σ 1).2).2 1).2)).1⟩), (col (bif b then failR (lit (col (lit σ 1).2).2 1).2 3 else (lit (col (lit σ 1).2).2 1).2)).2) := by rintro b rfl; rfl
      cases hc : ((lit (col (lit σ 1).2).2 1).2.2.2 == 0) with
      | false =>
        simp only [rcol_c l3, room1 _ _ room2, Bool.and_true, Bool.true_and, Bool.and_false, Bool.false_and, Bool.or_true, Bool.true_or, Bool.or_false, Bool.false_or, Bool.not_true, Bool.not_false, Option.bind_some, Option.bind_none, andB, orB, orB2, List.getD_cons_zero, List.getD_cons_succ, toB_b, toI_i, toS_s, toL_l, cond_true, cond_false, List.length_map]
        exact fin _ (hdef false (by rw [hc]; rfl)) l3
      | true =>
        have hce : (lit (col (lit σ 1).2).2 1).2.2.2 = 0 := by simpa using hc
        rcases List.eq_nil_or_concat pre with rfl | ⟨p, y, rfl⟩
        · obtain rfl : i = 0 := hp.symm
          obtain ⟨rfl, rfl⟩ := hl0 rfl
          rw [show decide (((0 : Nat) : Int) > 0) = false by simp]
          simp only [rcol_c l3, room1 _ _ room2, Bool.and_true, Bool.true_and, Bool.and_false, Bool.false_and, Bool.or_true, Bool.true_or, Bool.or_false, Bool.false_or, Bool.not_true, Bool.not_false, Option.bind_some, Option.bind_none, andB, orB, orB2, List.getD_cons_zero, List.getD_cons_succ, toB_b, toI_i, toS_s, toL_l, cond_true, cond_false, List.length_map]
          refine fin _ (hdef false ?_) l3
          rw [decide_eq_false (p := (lit σ 1).1 < 0) (by have := lit_pos σ 1; omega), decide_eq_false (p := (lit (col (lit σ 1).2).2 1).1 < 0) (by have := lit_pos (col (lit σ 1).2).2 1; omega)]
          simp
        · rcases List.eq_nil_or_concat qre with rfl | ⟨q, z, rfl⟩
          · exfalso; simp at hp hq; omega
          · obtain ⟨rfl, rfl⟩ := hl1 p q y z (by simp) (by simp)
            rw [List.concat_eq_append] at *
            rw [List.concat_eq_append] at *
            have hw : IntKind.wrap .i64 (((i : Nat) : Int) - 1) = ((p.length : Nat) : Int) := by
              simp only [List.length_append, List.length_cons, List.length_nil] at hp
              rw [wrap64 (by omega) (by omega)]; omega
            have hpq : p.length = q.length := by simp at hp hq; omega
            have hb : inB ((p.length : Nat) : Int) (p ++ [y]).length = true := by unfold inB; simp; omega
            have ha : elemAt ((p ++ [y]).map Stop.e) ((p.length : Nat) : Int) = y.e := el_at Stop.e rfl
            have hb2 : inB ((p.length : Nat) : Int) (q ++ [z]).length = true := by rw [hpq]; unfold inB; simp; omega
            have ha2 : elemAt ((q ++ [z]).map Stop.e) ((p.length : Nat) : Int) = z.e := by rw [hpq]; exact el_at Stop.e rfl
            rw [show decide (((i : Nat) : Int) > 0) = true by simp at hp ⊢; omega]
            simp only [hw, hb, ha, hb2, ha2, Stop.e, Bool.and_true, Bool.true_and, Bool.and_false, Bool.false_and, Bool.or_true, Bool.true_or, Bool.or_false, Bool.false_or, Bool.not_true, Bool.not_false, Option.bind_some, Option.bind_none, andB, orB, orB2, List.getD_cons_zero, List.getD_cons_succ, toB_b, toI_i, toS_s, toL_l, cond_true, cond_false, List.length_map]
            have e3 : failR (lit (col (lit σ 1).2).2 1).2 3 = ((lit (col (lit σ 1).2).2 1).2.1, (lit (col (lit σ 1).2).2 1).2.2.1, 3) := by unfold failR; rw [if_pos hce]
            have F := fun h => fin _ (hdef true h) (fail_len l3 3)
            have rf := rcol_c (fail_len l3 3)
            rw [cond_true, e3] at F
            rw [e3] at rf
            cases c1 : (decide ((lit σ 1).1 < y.ratio) || decide ((lit (col (lit σ 1).2).2 1).1 < z.ratio)) with
            | true =>
              simp only [rf, room1 _ _ room2, Bool.and_true, Bool.true_and, Bool.and_false, Bool.false_and, Bool.or_true, Bool.true_or, Bool.or_false, Bool.false_or, Bool.not_true, Bool.not_false, Option.bind_some, Option.bind_none, andB, orB, orB2, List.getD_cons_zero, List.getD_cons_succ, toB_b, toI_i, toS_s, toL_l, cond_true, cond_false, List.length_map]
              exact F (by rw [hc, c1]; rfl)
            | false =>
              simp only [rcol_c l3, room1 _ _ room2, Bool.and_true, Bool.true_and, Bool.and_false, Bool.false_and, Bool.or_true, Bool.true_or, Bool.or_false, Bool.false_or, Bool.not_true, Bool.not_false, Option.bind_some, Option.bind_none, andB, orB, orB2, List.getD_cons_zero, List.getD_cons_succ, toB_b, toI_i, toS_s, toL_l, cond_true, cond_false, List.length_map]
              exact fin _ (hdef false (by rw [hc, c1]; rfl)) l3
    · have he' : (σ.2.2 == 0) = false := by simpa using he
      rw [w_celluloidref10_fills_L1, hN]
      simp only [h1, he', psQ, List.append_nil, Bool.and_true, Bool.true_and, Bool.and_false, Bool.false_and, Bool.or_true, Bool.true_or, Bool.or_false, Bool.false_or, Bool.not_true, Bool.not_false, Option.bind_some, Option.bind_none, andB, orB, orB2, List.getD_cons_zero, List.getD_cons_succ, toB_b, toI_i, toS_s, toL_l, cond_true, cond_false, List.length_map]
def pfQ (σ : Rs) : P2 Fill :=
  let r := lit σ 1
  bif kindS r.1 then ((⟨r.1, (col r.2).1, (0, 0, 0, 0, 0, 0), 0, [], 0⟩, ⟨r.1, (col (col r.2).2).1, (0, 0, 0, 0, 0, 0), 0, [], 0⟩), (col (col r.2).2).2)
  else bif kindP r.1 then
    let i := lit r.2 2
    ((⟨r.1, (0, 0, 0, 0), (mt i.2).1, 0, [], i.1⟩, ⟨r.1, (0, 0, 0, 0), (mt (mt i.2).2).1, 0, [], i.1⟩), (mt (mt i.2).2).2)
  else bif kindG r.1 then
    let m := mt r.2
    let k := mt m.2
    let n := (lit k.2 1).1
    let st := psQ (n % 16).toNat 0 0 (gradS k.2)
    ((⟨r.1, (0, 0, 0, 0), m.1, n / 64, st.1.1, 0⟩, ⟨r.1, (0, 0, 0, 0), k.1, n / 64, st.1.2, 0⟩), st.2)
  else ((⟨r.1, (0, 0, 0, 0), (0, 0, 0, 0, 0, 0), 0, [], 0⟩, ⟨r.1, (0, 0, 0, 0), (0, 0, 0, 0, 0, 0), 0, [], 0⟩), failR r.2 3)
theorem pfQ_eq (σ : Rs) : (pfQ σ).2 = (pfP σ).2 ∧ ((pfP σ).2.2.2 = 0 → pfQ σ = pfP σ) := by
  unfold pfQ pfP
  dsimp only
  cases kindS (lit σ 1).1
  · cases kindP (lit σ 1).1
    · cases kindG (lit σ 1).1
      · exact ⟨rfl, fun _ => rfl⟩
      · obtain ⟨a, b⟩ := psQ_eq ((lit (mt (mt (lit σ 1).2).2).2 1).1 % 16).toNat 0 0 (gradS (mt (mt (lit σ 1).2).2).2)
        simp only [cond_false, cond_true]
        exact ⟨a, fun e => by rw [b e]⟩
    · exact ⟨rfl, fun _ => rfl⟩
  · exact ⟨rfl, fun _ => rfl⟩
theorem pfP_err {σ : Rs} (h : σ.2.2 ≠ 0) : (pfP σ).2 = σ := by
  unfold pfP
  rw [lit_err h]
  dsimp only
  rw [show kindS 0 = true from rfl, cond_true, col_err h]
  dsimp only
  rw [col_err h]
theorem qpf_c {σ : Rs} (h : LenOk σ) : cW f_celluloidref10_fills [.s σ.1, .i σ.2.1, .i σ.2.2] [] = some ((pfQ σ).1.1.e ++ ((pfQ σ).1.2.e ++ [.s (pfQ σ).2.1, .i (pfQ σ).2.2.1, .i (pfQ σ).2.2.2]), []) := by
  have h1 := lit_len h 1
  rw [w_celluloidref10_fills]
  unfold pfQ
  simp only [rlit_c h, Option.bind_some, Option.bind_none, andB, orB, orB2, List.getD_cons_zero, List.getD_cons_succ, toB_b, toI_i, toS_s, toL_l, cond_true, cond_false, List.length_map]
  show (bif kindS (lit σ 1).1 then _ else _) = _
  cases ks : kindS (lit σ 1).1 with
  | true => simp only [rcol_c h1, rcol_c (col_len h1), Fill.e, List.map_nil, List.cons_append, List.nil_append, Option.bind_some, Option.bind_none, andB, orB, orB2, List.getD_cons_zero, List.getD_cons_succ, toB_b, toI_i, toS_s, toL_l, cond_true, cond_false, List.length_map]
  | false =>
    simp only [cond_false]
    have n0 := lit_pos (mt (mt (lit σ 1).2).2).2 1
    have n1 := lit1_lt (mt (mt (lit σ 1).2).2).2
    have grad : kindG (lit σ 1).1 = true → ∀ b : Bool, b = badN (lit (mt (mt (lit σ 1).2).2).2 1).1 →
        ((bif (lit (mt (mt (lit σ 1).2).2).2 1).2.2.2 == 0 then some [PV.b b] else some [PV.b false]).bind fun r13 =>
          (bif (r13.getD 0 PV.u).toB then rW f_celluloidref10_fills [] at_celluloidref10_fills_L1 (S_celluloidref10_fills_L1 (lit (mt (mt (lit σ 1).2).2).2 1).1 0 (lit (mt (mt (lit σ 1).2).2).2 1).2.1 (lit (mt (mt (lit σ 1).2).2).2 1).2.2.1 3 [] 0 0 0 0 0 0 0 0 0 0 0 0 0 [] 0 0 0 0 0 0 0 0 0 0 0 0 0 [] 0 0 [] (lit σ 1).1 0 0 0 0 (mt (lit σ 1).2).1.1 (mt (lit σ 1).2).1.2.1 (mt (lit σ 1).2).1.2.2.1 (mt (lit σ 1).2).1.2.2.2.1 (mt (lit σ 1).2).1.2.2.2.2.1 (mt (lit σ 1).2).1.2.2.2.2.2 ((lit (mt (mt (lit σ 1).2).2).2 1).1 / 64) 0 [] (lit σ 1).1 0 0 0 0 (mt (mt (lit σ 1).2).2).1.1 (mt (mt (lit σ 1).2).2).1.2.1 (mt (mt (lit σ 1).2).2).1.2.2.1 (mt (mt (lit σ 1).2).2).1.2.2.2.1 (mt (mt (lit σ 1).2).2).1.2.2.2.2.1 (mt (mt (lit σ 1).2).2).1.2.2.2.2.2 ((lit (mt (mt (lit σ 1).2).2).2 1).1 / 64) 0)
          else rW f_celluloidref10_fills [] at_celluloidref10_fills_L1 (S_celluloidref10_fills_L1 (lit (mt (mt (lit σ 1).2).2).2 1).1 0 (lit (mt (mt (lit σ 1).2).2).2 1).2.1 (lit (mt (mt (lit σ 1).2).2).2 1).2.2.1 (lit (mt (mt (lit σ 1).2).2).2 1).2.2.2 [] 0 0 0 0 0 0 0 0 0 0 0 0 0 [] 0 0 0 0 0 0 0 0 0 0 0 0 0 [] 0 0 [] (lit σ 1).1 0 0 0 0 (mt (lit σ 1).2).1.1 (mt (lit σ 1).2).1.2.1 (mt (lit σ 1).2).1.2.2.1 (mt (lit σ 1).2).1.2.2.2.1 (mt (lit σ 1).2).1.2.2.2.2.1 (mt (lit σ 1).2).1.2.2.2.2.2 ((lit (mt (mt (lit σ 1).2).2).2 1).1 / 64) 0 [] (lit σ 1).1 0 0 0 0 (mt (mt (lit σ 1).2).2).1.1 (mt (mt (lit σ 1).2).2).1.2.1 (mt (mt (lit σ 1).2).2).1.2.2.1 (mt (mt (lit σ 1).2).2).1.2.2.2.1 (mt (mt (lit σ 1).2).2).1.2.2.2.2.1 (mt (mt (lit σ 1).2).2).1.2.2.2.2.2 ((lit (mt (mt (lit σ 1).2).2).2 1).1 / 64) 0))) =
        some ((⟨(lit σ 1).1, (0, 0, 0, 0), (mt (lit σ 1).2).1, (lit (mt (mt (lit σ 1).2).2).2 1).1 / 64, (psQ ((lit (mt (mt (lit σ 1).2).2).2 1).1 % 16).toNat 0 0 (gradS (mt (mt (lit σ 1).2).2).2)).1.1, 0⟩ : Fill).e ++ ((⟨(lit σ 1).1, (0, 0, 0, 0), (mt (mt (lit σ 1).2).2).1, (lit (mt (mt (lit σ 1).2).2).2 1).1 / 64, (psQ ((lit (mt (mt (lit σ 1).2).2).2 1).1 % 16).toNat 0 0 (gradS (mt (mt (lit σ 1).2).2).2)).1.2, 0⟩ : Fill).e ++ [.s (psQ ((lit (mt (mt (lit σ 1).2).2).2 1).1 % 16).toNat 0 0 (gradS (mt (mt (lit σ 1).2).2).2)).2.1, .i (psQ ((lit (mt (mt (lit σ 1).2).2).2 1).1 % 16).toNat 0 0 (gradS (mt (mt (lit σ 1).2).2).2)).2.2.1, .i (psQ ((lit (mt (mt (lit σ 1).2).2).2 1).1 % 16).toNat 0 0 (gradS (mt (mt (lit σ 1).2).2).2)).2.2.2]), []) := by
      intro kg b hb
      have h2 := mt_len (mt_len h1)
      have hg := gradS_len h2
      have hn : Int.tmod (lit (mt (mt (lit σ 1).2).2).2 1).1 16 = ((((lit (mt (mt (lit σ 1).2).2).2 1).1 % 16).toNat : Nat) : Int) := by rw [tmodE n0]; omega
      have e := loopQ1 hn (by omega) (lit σ 1).1 0 0 0 0 (mt (lit σ 1).2).1.1 (mt (lit σ 1).2).1.2.1 (mt (lit σ 1).2).1.2.2.1 (mt (lit σ 1).2).1.2.2.2.1 (mt (lit σ 1).2).1.2.2.2.2.1 (mt (lit σ 1).2).1.2.2.2.2.2 ((lit (mt (mt (lit σ 1).2).2).2 1).1 / 64) 0 (lit σ 1).1 0 0 0 0 (mt (mt (lit σ 1).2).2).1.1 (mt (mt (lit σ 1).2).2).1.2.1 (mt (mt (lit σ 1).2).2).1.2.2.1 (mt (mt (lit σ 1).2).2).1.2.2.2.1 (mt (mt (lit σ 1).2).2).1.2.2.2.2.1 (mt (mt (lit σ 1).2).2).1.2.2.2.2.2 ((lit (mt (mt (lit σ 1).2).2).2 1).1 / 64) 0 ((lit (mt (mt (lit σ 1).2).2).2 1).1 % 16).toNat 0 [] [] 0 0 (gradS (mt (mt (lit σ 1).2).2).2) (by omega) rfl rfl (fun _ => ⟨rfl, rfl⟩) (fun p q x y e => by simp at e) hg
      have hgd : gradS (mt (mt (lit σ 1).2).2).2 = (bif ((lit (mt (mt (lit σ 1).2).2).2 1).2.2.2 == 0) && b then failR (lit (mt (mt (lit σ 1).2).2).2 1).2 3 else (lit (mt (mt (lit σ 1).2).2).2 1).2) := by rw [hb]; rfl
      rw [hgd] at e ⊢
      cases hc : ((lit (mt (mt (lit σ 1).2).2).2 1).2.2.2 == 0) with
      | false =>
        rw [hc] at e
        simp only [Bool.false_and, cond_false] at e ⊢
        simpa [Fill.e, toB_b] using e
      | true =>
        have hce : (lit (mt (mt (lit σ 1).2).2).2 1).2.2.2 = 0 := by simpa using hc
        cases b with
        | false =>
          rw [hc] at e
          simp only [Bool.and_false, cond_false, cond_true] at e ⊢
          simpa [Fill.e, toB_b] using e
        | true =>
          have e3 : failR (lit (mt (mt (lit σ 1).2).2).2 1).2 3 = ((lit (mt (mt (lit σ 1).2).2).2 1).2.1, (lit (mt (mt (lit σ 1).2).2).2 1).2.2.1, 3) := by unfold failR; rw [if_pos hce]
          rw [hc, e3] at e
          rw [e3]
          simp only [Bool.and_self, cond_true] at e ⊢
          simpa [Fill.e, toB_b] using e
    cases kp : kindP (lit σ 1).1 with
    | true =>
      have k0 : (lit σ 1).1 = 64 ∨ (lit σ 1).1 = 65 := by unfold kindP at kp; simpa using kp
      have l2 := lit_len h1 2
      rcases k0 with k0 | k0
      · rw [show ((lit σ 1).1 == 64) = true by rw [k0]; rfl]
        simp only [rlit_c h1, rmt_c l2, rmt_c (mt_len l2), Fill.e, List.map_nil, List.cons_append, List.nil_append, Option.bind_some, Option.bind_none, andB, orB, orB2, List.getD_cons_zero, List.getD_cons_succ, toB_b, toI_i, toS_s, toL_l, cond_true, cond_false, List.length_map]
      · rw [show ((lit σ 1).1 == 64) = false by rw [k0]; rfl, show ((lit σ 1).1 == 65) = true by rw [k0]; rfl]
        simp only [rlit_c h1, rmt_c l2, rmt_c (mt_len l2), Fill.e, List.map_nil, List.cons_append, List.nil_append, Option.bind_some, Option.bind_none, andB, orB, orB2, List.getD_cons_zero, List.getD_cons_succ, toB_b, toI_i, toS_s, toL_l, cond_true, cond_false, List.length_map]
    | false =>
      have k1 : ((lit σ 1).1 == 64) = false ∧ ((lit σ 1).1 == 65) = false := by unfold kindP at kp; simpa using kp
      rw [k1.1, k1.2]
      simp only [cond_false]
      cases kg : kindG (lit σ 1).1 with
      | true =>
        have g := grad kg _ (badQ n0 n1)
        simp only [Fill.e, List.cons_append, List.nil_append, Option.bind_some, Option.bind_none, andB, orB, orB2, List.getD_cons_zero, List.getD_cons_succ, toB_b, toI_i, toS_s, toL_l, cond_true, cond_false, List.length_map] at g
        have k0 : (lit σ 1).1 = 16 ∨ (lit σ 1).1 = 18 := by unfold kindG at kg; simpa using kg
        have dv := div64 n0 n1
        rcases k0 with k0 | k0
        · rw [show ((lit σ 1).1 == 16) = true by rw [k0]; rfl]
          simp only [rmt_c h1, rmt_c (mt_len h1), rlit_c (mt_len (mt_len h1)), Fill.e, List.cons_append, List.nil_append, Option.bind_some, Option.bind_none, andB, orB, orB2, List.getD_cons_zero, List.getD_cons_succ, toB_b, toI_i, toS_s, toL_l, cond_true, cond_false, List.length_map]
          simp only [dv] at g ⊢
          exact g
        · rw [show ((lit σ 1).1 == 16) = false by rw [k0]; rfl, show ((lit σ 1).1 == 18) = true by rw [k0]; rfl]
          simp only [rmt_c h1, rmt_c (mt_len h1), rlit_c (mt_len (mt_len h1)), Fill.e, List.cons_append, List.nil_append, Option.bind_some, Option.bind_none, andB, orB, orB2, List.getD_cons_zero, List.getD_cons_succ, toB_b, toI_i, toS_s, toL_l, cond_true, cond_false, List.length_map]
          simp only [dv] at g ⊢
          exact g
      | false =>
        have k2 : ((lit σ 1).1 == 16) = false ∧ ((lit σ 1).1 == 18) = false := by unfold kindG at kg; simpa using kg
        have hz : (lit σ 1).1 ≠ 0 := by unfold kindS at ks; simpa using ks
        rw [k2.1, k2.2]
        simp only [cond_false, Fill.e, List.map_nil, List.cons_append, List.nil_append]
        unfold failR
        rw [if_pos (lit_val hz).1]
end Go.AI
set_option linter.unusedVariables false
set_option linter.unusedSimpArgs false
set_option maxRecDepth 100000
namespace Go.AI
open Go Go.Proofs

def pairsQ {α : Type} (f : Rs → P2 α) : Nat → Rs → (List α × List α) × Rs
  | 0, σ => (([], []), σ)
  | n + 1, σ => bif σ.2.2 == 0 then (let a := f σ; let b := pairsQ f n a.2; ((a.1.1 :: b.1.1, a.1.2 :: b.1.2), b.2)) else (([], []), σ)
theorem pairsN_err {α : Type} {f : Rs → P2 α} (hf : ∀ σ, σ.2.2 ≠ 0 → (f σ).2 = σ) : ∀ (n : Nat) (σ : Rs), σ.2.2 ≠ 0 → (pairsN f n σ).2 = σ
  | 0, _, _ => rfl
  | n + 1, σ, h => by
    show (pairsN f n (f σ).2).2 = σ
    rw [hf σ h]; exact pairsN_err hf n σ h
theorem pairsQ_err {α : Type} (f : Rs → P2 α) {n : Nat} {σ : Rs} (h : σ.2.2 ≠ 0) : pairsQ f n σ = (([], []), σ) := by
  cases n with
  | zero => rfl
  | succ n => unfold pairsQ; rw [show (σ.2.2 == 0) = false by simpa using h]; rfl
theorem pairsQ_eq {α : Type} {f g : Rs → P2 α} (hg : ∀ σ, σ.2.2 ≠ 0 → (g σ).2 = σ) (hfg : ∀ σ, (f σ).2 = (g σ).2 ∧ ((g σ).2.2.2 = 0 → f σ = g σ)) : ∀ (n : Nat) (σ : Rs), (pairsQ f n σ).2 = (pairsN g n σ).2 ∧ ((pairsN g n σ).2.2.2 = 0 → pairsQ f n σ = pairsN g n σ)
  | 0, _ => ⟨rfl, fun _ => rfl⟩
  | n + 1, σ => by
    by_cases h : σ.2.2 = 0
    · obtain ⟨a, b⟩ := hfg σ
      obtain ⟨c, d⟩ := pairsQ_eq hg hfg n (g σ).2
      unfold pairsQ pairsN
      rw [show (σ.2.2 == 0) = true by simpa using h, cond_true]
      dsimp only
      rw [a]
      refine ⟨c, fun e => ?_⟩
      have hz : (g σ).2.2.2 = 0 := by
        by_cases hz : (g σ).2.2.2 = 0
        · exact hz
        · rw [pairsN_err hg n _ hz] at e; exact e
      rw [d e, b hz]
    · have e := pairsN_err hg (n + 1) σ h
      rw [pairsQ_err f h, e]
      exact ⟨rfl, fun k => absurd k h⟩
theorem spP_err {σ : Rs} (h : σ.2.2 ≠ 0) : (spP σ).2 = σ := by
  unfold spP
  rw [lit_err h]
  dsimp only
  rw [lit_err h]
  dsimp only
  rw [col_err h]
  dsimp only
  rw [col_err h]
theorem manyP_err {σ : Rs} (h : σ.2.2 ≠ 0) : manyP σ = (0, σ) := by
  unfold manyP
  rw [lit_err h]; rfl
def fin10Q (id : Int) (fr to : I4) (size sb : Int) (fl : List Fill × List Fill) (st : List Strk × List Strk) (σ : Rs) : Mor × Rs :=
  bif σ.2.2 != 0 then bad10 σ.2.2 else
  let u := takeRecsX σ.1 σ.2.1 (fl.1.length : Nat) (st.1.length : Nat) 1
  bif u.2.2.2 != 0 then bad10 u.2.2.2 else
  let v := takeRecsX u.2.1 u.2.2.1 0 0 2
  bif v.2.2.2 != 0 then bad10 v.2.2.2 else
  bif (IntKind.wrap .i64 (u.2.2.1 - sb) != IntKind.wrap .i64 (8 * size)) then bad10 3 else (⟨id, fr, to, fl.1, fl.2, st.1, st.2, u.1, v.1⟩, (v.2.1, v.2.2.1, 0))
def tail10Q (id : Int) (fr to : I4) (size sb : Int) (fl : List Fill × List Fill) (σ : Rs) : Mor × Rs :=
  let k := manyQ σ
  let st := pairsQ spP k.1.toNat k.2
  fin10Q id fr to size sb fl st.1 st.2
def take10Q (s : List UInt8) (a : Int) : Mor × Rs :=
  let i := lit (s, a, 0) 2
  let r := rc i.2
  let q := rc r.2
  let z := lit q.2 4
  let m := manyQ z.2
  let fl := pairsQ pfQ m.1.toNat m.2
  tail10Q i.1 r.1 q.1 z.1 z.2.2.1 fl.1 fl.2
theorem qtake_end2 {n i : Int} (id : Int) (fr to : I4) (size sb : Int) (L L' : List Fill) (o1 : List UInt8) (o2 o3 : Int) (pre qre : List Strk) (σ : Rs) (hσ : LenOk σ) (hc : decide (i < n) = false ∨ σ.2.2 ≠ 0) :
    rW f_celluloidref10_Take [] at_celluloidref10_Take_L2 (S_celluloidref10_Take_L2 size n sb i σ.1 σ.2.1 σ.2.2 [] [] [] [] [] [] 0 0 0 0 0 0 0 0 0 o1 o2 o3 (L.map Fill.e) (L'.map Fill.e) (pre.map Strk.e) (qre.map Strk.e) [] [] id fr.1 fr.2.1 fr.2.2.1 fr.2.2.2 to.1 to.2.1 to.2.2.1 to.2.2.2) =
      some (enc10 (fin10Q id fr to size sb (L, L') (pre, qre) σ)) := by
  have hcond : (bif decide (i < n) then some [PV.b (σ.2.2 == 0)] else some [PV.b false]) = some [PV.b false] := by
    rcases hc with h | h
    · rw [h]; rfl
    · rw [show (σ.2.2 == 0) = false by simpa using h]
      cases decide (i < n) <;> rfl
  rw [w_celluloidref10_Take_L2, hcond]
  simp only [Option.bind_some, Option.bind_none, andB, orB, orB2, List.getD_cons_zero, List.getD_cons_succ, toB_b, toI_i, toS_s, toL_l, cond_true, cond_false, List.length_map]
  obtain ⟨s, a, e⟩ := σ
  unfold fin10Q
  dsimp only
  by_cases he : e = 0
  · subst he
    have q1 := qTakeRecords_c (s := s) hσ a (L.length : Nat) (pre.length : Nat) 1 (by omega)
    obtain ⟨_, ul, _⟩ := takeRecsX_al (s := s) hσ a (L.length : Nat) (pre.length : Nat) 1
    simp only [beq_self_eq_true, bne_self_eq_false, q1, encX, Option.bind_some, Option.bind_none, andB, orB, orB2, List.getD_cons_zero, List.getD_cons_succ, toB_b, toI_i, toS_s, toL_l, cond_true, cond_false, List.length_map]
    generalize takeRecsX s a (L.length : Nat) (pre.length : Nat) 1 = u at ul ⊢
    obtain ⟨u1, us, ua, ue⟩ := u
    dsimp only
    by_cases hu : ue = 0
    · subst hu
      have q2 := qTakeRecords_c (s := us) ul ua 0 0 2 (by omega)
      simp only [beq_self_eq_true, bne_self_eq_false, q2, encX, Option.bind_some, Option.bind_none, andB, orB, orB2, List.getD_cons_zero, List.getD_cons_succ, toB_b, toI_i, toS_s, toL_l, cond_true, cond_false, List.length_map]
      generalize takeRecsX us ua 0 0 2 = v
      obtain ⟨v1, vs, va, ve⟩ := v
      dsimp only
      by_cases hv : ve = 0
      · subst hv
        simp only [beq_self_eq_true, bne_self_eq_false, Option.bind_some, Option.bind_none, andB, orB, orB2, List.getD_cons_zero, List.getD_cons_succ, toB_b, toI_i, toS_s, toL_l, cond_true, cond_false, List.length_map]
        cases (IntKind.wrap .i64 (ua - sb) != IntKind.wrap .i64 (8 * size)) <;> rfl
      · rw [show (ve == 0) = false by simpa using hv, show (ve != 0) = true by simpa using hv]
        rfl
    · rw [show (ue == 0) = false by simpa using hu, show (ue != 0) = true by simpa using hu]
      rfl
  · rw [show (e == 0) = false by simpa using he, show (e != 0) = true by simpa using he]
    rfl
theorem qtake_loop2 {n : Nat} (hn : n ≤ 255) (id : Int) (fr to : I4) (size sb : Int) (L L' : List Fill) (o1 : List UInt8) (o2 o3 : Int) : ∀ (j i : Nat) (pre qre : List Strk) (σ : Rs), i + j = n → pre.length = i → qre.length = i → LenOk σ →
    rW f_celluloidref10_Take [] at_celluloidref10_Take_L2 (S_celluloidref10_Take_L2 size n sb i σ.1 σ.2.1 σ.2.2 [] [] [] [] [] [] 0 0 0 0 0 0 0 0 0 o1 o2 o3 (L.map Fill.e) (L'.map Fill.e) (pre.map Strk.e) (qre.map Strk.e) [] [] id fr.1 fr.2.1 fr.2.2.1 fr.2.2.2 to.1 to.2.1 to.2.2.1 to.2.2.2) =
      some (enc10 (fin10Q id fr to size sb (L, L') (pre ++ (pairsQ spP j σ).1.1, qre ++ (pairsQ spP j σ).1.2) (pairsQ spP j σ).2)) := by
  intro j
  induction j with
  | zero =>
    intro i pre qre σ hi hp hq hσ
    obtain rfl : i = n := hi
    simp only [pairsQ, List.append_nil]
    exact qtake_end2 id fr to size sb L L' o1 o2 o3 pre qre σ hσ (.inl (decide_eq_false (by omega)))
  | succ j IH =>
    intro i pre qre σ hi hp hq hσ
    obtain ⟨h1, h2⟩ := step_i (i := i) (n := n) (by omega) (by omega)
    by_cases he : σ.2.2 = 0
    · have he' : (σ.2.2 == 0) = true := by simpa using he
      have l1 := lit_len hσ 2
      have l2 := lit_len l1 2
      have l3 := col_len l2
      have hi15 : i ≤ 255 := by omega
      have room : (pre.length + 1001) * 41 ≤ 1099511627776 := by rw [hp]; exact Nat.le_trans (Nat.mul_le_mul_right 41 (Nat.add_le_add_right hi15 1001)) (by decide)
      have room2 : (qre.length + 1001) * 41 ≤ 1099511627776 := by rw [hq]; exact Nat.le_trans (Nat.mul_le_mul_right 41 (Nat.add_le_add_right hi15 1001)) (by decide)
      have ih := IH (i + 1) (pre ++ [(spP σ).1.1]) (qre ++ [(spP σ).1.2]) (spP σ).2 (by omega) (by simp [hp]) (by simp [hq]) (spP_len hσ)
      rw [w_celluloidref10_Take_L2]
      simp only [h1, h2, he', rlit_c hσ, rlit_c l1, rcol_c l2, rcol_c l3, room1 _ _ room, room1 _ _ room2, Bool.and_true, Bool.true_and, Bool.and_false, Bool.false_and, Bool.or_true, Bool.true_or, Bool.or_false, Bool.false_or, Bool.not_true, Bool.not_false, Option.bind_some, Option.bind_none, andB, orB, orB2, List.getD_cons_zero, List.getD_cons_succ, toB_b, toI_i, toS_s, toL_l, cond_true, cond_false, List.length_map]
      rw [strk_row pre ⟨(lit σ 2).1, (col (lit (lit σ 2).2 2).2).1⟩, strk_row qre ⟨(lit (lit σ 2).2 2).1, (col (col (lit (lit σ 2).2 2).2).2).1⟩]
      refine Eq.trans ih ?_
      simp only [pairsQ, he', cond_true, List.append_assoc, List.cons_append, List.nil_append]
    · rw [pairsQ_err spP he]
      simp only [List.append_nil]
      exact qtake_end2 id fr to size sb L L' o1 o2 o3 pre qre σ hσ (.inr he)
theorem qtake_end0 {n i : Int} (id : Int) (fr to : I4) (size sb : Int) (o1 : List UInt8) (o2 o3 : Int) (pre qre : List Fill) (σ : Rs) (hσ : LenOk σ) (hc : decide (i < n) = false ∨ σ.2.2 ≠ 0) :
    rW f_celluloidref10_Take [] at_celluloidref10_Take_L0 (S_celluloidref10_Take_L0 size n sb i σ.1 σ.2.1 σ.2.2 [] [] [] [] [] [] 0 0 0 0 0 0 0 0 0 o1 o2 o3 (pre.map Fill.e) (qre.map Fill.e) [] [] [] [] id fr.1 fr.2.1 fr.2.2.1 fr.2.2.2 to.1 to.2.1 to.2.2.1 to.2.2.2) =
      some (enc10 (tail10Q id fr to size sb (pre, qre) σ)) := by
  have hcond : (bif decide (i < n) then some [PV.b (σ.2.2 == 0)] else some [PV.b false]) = some [PV.b false] := by
    rcases hc with h | h
    · rw [h]; rfl
    · rw [show (σ.2.2 == 0) = false by simpa using h]
      cases decide (i < n) <;> rfl
  obtain ⟨m0, m1⟩ := manyQ_bound σ
  have e := qtake_loop2 (n := (manyQ σ).1.toNat) (by omega) id fr to size sb pre qre o1 o2 o3 (manyQ σ).1.toNat 0 [] [] (manyQ σ).2 (by omega) rfl rfl (manyQ_len hσ)
  rw [show (((manyQ σ).1.toNat : Nat) : Int) = (manyQ σ).1 by omega] at e
  rw [w_celluloidref10_Take_L0, hcond]
  simp only [rlit_c hσ, Option.bind_some, Option.bind_none, andB, orB, orB2, List.getD_cons_zero, List.getD_cons_succ, toB_b, toI_i, toS_s, toL_l, cond_true, cond_false, List.length_map]
  unfold tail10Q
  unfold manyQ at e ⊢
  cases hc : ((lit σ 1).2.2.2 == 0) && decide ((lit σ 1).1 > 15) with
  | false => rw [hc] at e; exact e
  | true => rw [hc] at e; exact e
theorem pfQ_len {σ : Rs} (h : LenOk σ) : LenOk (pfQ σ).2 := by rw [(pfQ_eq σ).1]; exact pfP_len h
theorem qtake_loop0 {n : Nat} (hn : n ≤ 255) (id : Int) (fr to : I4) (size sb : Int) (o1 : List UInt8) (o2 o3 : Int) : ∀ (j i : Nat) (pre qre : List Fill) (σ : Rs), i + j = n → pre.length = i → qre.length = i → LenOk σ →
    rW f_celluloidref10_Take [] at_celluloidref10_Take_L0 (S_celluloidref10_Take_L0 size n sb i σ.1 σ.2.1 σ.2.2 [] [] [] [] [] [] 0 0 0 0 0 0 0 0 0 o1 o2 o3 (pre.map Fill.e) (qre.map Fill.e) [] [] [] [] id fr.1 fr.2.1 fr.2.2.1 fr.2.2.2 to.1 to.2.1 to.2.2.1 to.2.2.2) =
      some (enc10 (tail10Q id fr to size sb (pre ++ (pairsQ pfQ j σ).1.1, qre ++ (pairsQ pfQ j σ).1.2) (pairsQ pfQ j σ).2)) := by
  intro j
  induction j with
  | zero =>
    intro i pre qre σ hi hp hq hσ
    obtain rfl : i = n := hi
    simp only [pairsQ, List.append_nil]
    exact qtake_end0 id fr to size sb o1 o2 o3 pre qre σ hσ (.inl (decide_eq_false (by omega)))
  | succ j IH =>
    intro i pre qre σ hi hp hq hσ
    obtain ⟨h1, h2⟩ := step_i (i := i) (n := n) (by omega) (by omega)
    by_cases he : σ.2.2 = 0
    · have he' : (σ.2.2 == 0) = true := by simpa using he
      have hi15 : i ≤ 255 := by omega
      have room : (pre.length + 1001) * 129 ≤ 1099511627776 := by rw [hp]; exact Nat.le_trans (Nat.mul_le_mul_right 129 (Nat.add_le_add_right hi15 1001)) (by decide)
      have room2 : (qre.length + 1001) * 129 ≤ 1099511627776 := by rw [hq]; exact Nat.le_trans (Nat.mul_le_mul_right 129 (Nat.add_le_add_right hi15 1001)) (by decide)
      have ih := IH (i + 1) (pre ++ [(pfQ σ).1.1]) (qre ++ [(pfQ σ).1.2]) (pfQ σ).2 (by omega) (by simp [hp]) (by simp [hq]) (pfQ_len hσ)
      rw [w_celluloidref10_Take_L0]
      simp only [h1, h2, he', qpf_c hσ, Fill.e, List.cons_append, List.nil_append, room1 _ _ room, room1 _ _ room2, Bool.and_true, Bool.true_and, Bool.and_false, Bool.false_and, Bool.or_true, Bool.true_or, Bool.or_false, Bool.false_or, Bool.not_true, Bool.not_false, Option.bind_some, Option.bind_none, andB, orB, orB2, List.getD_cons_zero, List.getD_cons_succ, toB_b, toI_i, toS_s, toL_l, cond_true, cond_false, List.length_map]
      rw [fill_row pre (pfQ σ).1.1, fill_row qre (pfQ σ).1.2]
      refine Eq.trans ih ?_
      simp only [pairsQ, he', cond_true, List.append_assoc, List.cons_append, List.nil_append]
    · rw [pairsQ_err pfQ he]
      simp only [List.append_nil]
      exact qtake_end0 id fr to size sb o1 o2 o3 pre qre σ hσ (.inr he)
theorem qTake10_q {s : List UInt8} (h : s.length ≤ 2 ^ 40) (a : Int) : cW f_celluloidref10_Take [.s s, .i a, .i 0] [] = some (enc10 (take10Q s a)) := by
  have h0 : LenOk ((s, a, 0) : Rs) := h
  have h1 := lit_len h0 2
  have h2 := rc_len h1
  have h3 := rc_len h2
  have h4 := lit_len h3 4
  have h5 := manyQ_len h4
  obtain ⟨m0, m1⟩ := manyQ_bound (lit (rc (rc (lit (s, a, 0) 2).2).2).2 4).2
  have e1 := rlit_c h0 2
  rw [w_celluloidref10_Take]
  simp only at e1
  simp only [e1, qrc_c h1, qrc_c h2, rlit_c h3, rlit_c h4, Option.bind_some, Option.bind_none, andB, orB, orB2, List.getD_cons_zero, List.getD_cons_succ, toB_b, toI_i, toS_s, toL_l, cond_true, cond_false, List.length_map]
  have e := qtake_loop0 (n := (manyQ (lit (rc (rc (lit (s, a, 0) 2).2).2).2 4).2).1.toNat) (by omega) (lit (s, a, 0) 2).1 (rc (lit (s, a, 0) 2).2).1 (rc (rc (lit (s, a, 0) 2).2).2).1 (lit (rc (rc (lit (s, a, 0) 2).2).2).2 4).1 (lit (rc (rc (lit (s, a, 0) 2).2).2).2 4).2.2.1 [] 0 0 (manyQ (lit (rc (rc (lit (s, a, 0) 2).2).2).2 4).2).1.toNat 0 [] [] (manyQ (lit (rc (rc (lit (s, a, 0) 2).2).2).2 4).2).2 (by omega) rfl rfl h5
  rw [show (((manyQ (lit (rc (rc (lit (s, a, 0) 2).2).2).2 4).2).1.toNat : Nat) : Int) = (manyQ (lit (rc (rc (lit (s, a, 0) 2).2).2).2 4).2).1 by omega] at e
  unfold take10Q
  dsimp only
  generalize (lit (rc (rc (lit (s, a, 0) 2).2).2).2 4) = z at *
  unfold manyQ at e ⊢
  cases hc : ((lit z.2 1).2.2.2 == 0) && decide ((lit z.2 1).1 > 15) with
  | false => rw [hc] at e; exact e
  | true => rw [hc] at e; exact e
/-! ### it is the program's -/
theorem fin_eq {s : List UInt8} (hs : s.length ≤ 2 ^ 40) (id : Int) (fr to : I4) {size sb : Int} (hsz : 0 ≤ size ∧ size ≤ 4294967295) (fl : List Fill × List Fill) (st : List Strk × List Strk) (hfl : fl.1.length ≤ 15) (hst : st.1.length ≤ 15) (σ : Rs) (hσ : LenOk σ) (hb : σ.2.2 = 0 → 0 ≤ sb ∧ sb % 8 = 0 ∧ sb ≤ 8796093022208) :
    fin10Q id fr to size sb fl st σ = fin10 id fr to size (IntKind.wrap .i64 (Int.tdiv sb 8)) fl st σ := by
  unfold fin10Q fin10 rcs
  dsimp only
  by_cases he : σ.2.2 = 0
  · obtain ⟨b0, b1, b2⟩ := hb he
    have ok1 : okArg (fl.1.length : Nat) (st.1.length : Nat) 1 = true := by
      unfold okArg
      simp only [Bool.and_eq_true, inR_iff, inR]
      omega
    have ok2 : okArg 0 0 2 = true := rfl
    rw [if_neg (by simp [he]), show (σ.2.2 != 0) = false by simp [he], cond_false]
    unfold takeRecsF
    rw [ok1, ok2]
    simp only [cond_true]
    obtain ⟨a1, a2, a3⟩ := takeRecsX_al (s := σ.1) hσ σ.2.1 (fl.1.length : Nat) (st.1.length : Nat) 1
    generalize takeRecsX σ.1 σ.2.1 (fl.1.length : Nat) (st.1.length : Nat) 1 = u at a1 a2 a3 ⊢
    by_cases hu : u.2.2.2 = 0
    · obtain ⟨p0, p1, p2⟩ := a1 hu
      have a2' : u.2.1.length ≤ 1099511627776 := a2
      rw [if_neg (by simp [hu]), show (u.2.2.2 != 0) = false by simp [hu], cond_false]
      generalize takeRecsX u.2.1 u.2.2.1 0 0 2 = v
      by_cases hv : v.2.2.2 = 0
      · rw [show (v.2.2.2 != 0) = false by simp [hv], cond_false]
        have e1 : Int.tdiv u.2.2.1 8 = u.2.2.1 / 8 := Int.tdiv_eq_ediv_of_nonneg p0
        have e2 : Int.tdiv sb 8 = sb / 8 := Int.tdiv_eq_ediv_of_nonneg b0
        rw [e1, e2, wrap64 (n := u.2.2.1 / 8) (by omega) (by omega), wrap64 (n := sb / 8) (by omega) (by omega), wrap64 (n := u.2.2.1 / 8 - sb / 8) (by omega) (by omega), wrap64 (n := u.2.2.1 - sb) (by omega) (by omega), wrap64 (n := 8 * size) (by omega) (by omega)]
        have key : (u.2.2.1 - sb != 8 * size) = (u.2.2.1 / 8 - sb / 8 != size) := by
          rw [Bool.eq_iff_iff]
          simp only [bne_iff_ne]
          omega
        rw [key]
        cases (u.2.2.1 / 8 - sb / 8 != size) with
        | true =>
          simp only [cond_true]
          unfold failR
          rw [if_pos hv]; rfl
        | false =>
          simp only [cond_false]
          rw [show (v.2.2.2 != 0) = false by simp [hv]]; rfl
      · rw [show (v.2.2.2 != 0) = true by simp [hv], cond_true]
        have ef : failR v.2 3 = v.2 := fail_err hv 3
        rw [ef]
        cases (IntKind.wrap .i64 (IntKind.wrap .i64 (Int.tdiv u.2.2.1 8) - IntKind.wrap .i64 (Int.tdiv sb 8)) != size) <;> (simp only [cond_true, cond_false]; rw [show (v.2.2.2 != 0) = true by simp [hv]]; rfl)
    · rw [if_pos hu, show (u.2.2.2 != 0) = true by simp [hu], cond_true]
      dsimp only
      have ef : failR u.2 3 = u.2 := fail_err hu 3
      rw [ef]
      cases (IntKind.wrap .i64 (IntKind.wrap .i64 (Int.tdiv u.2.2.1 8) - IntKind.wrap .i64 (Int.tdiv sb 8)) != size) <;> (simp only [cond_true, cond_false]; rw [show (u.2.2.2 != 0) = true by simp [hu]]; rfl)
  · rw [if_pos he, show (σ.2.2 != 0) = true by simp [he], cond_true]
    dsimp only
    rw [if_pos he]
    dsimp only
    have ef : failR σ 3 = σ := fail_err he 3
    rw [ef]
    cases (IntKind.wrap .i64 (IntKind.wrap .i64 (Int.tdiv σ.2.1 8) - IntKind.wrap .i64 (Int.tdiv sb 8)) != size) <;> (simp only [cond_true, cond_false]; rw [show (σ.2.2 != 0) = true by simp [he]]; rfl)
theorem fin_bad (id : Int) (fr to : I4) (size start : Int) (fl : List Fill × List Fill) (st : List Strk × List Strk) {σ : Rs} (he : σ.2.2 ≠ 0) : fin10 id fr to size start fl st σ = bad10 σ.2.2 := by
  unfold fin10 rcs
  dsimp only
  rw [if_pos he]
  dsimp only
  rw [if_pos he]
  dsimp only
  have ef : failR σ 3 = σ := fail_err he 3
  rw [ef]
  cases (IntKind.wrap .i64 (IntKind.wrap .i64 (Int.tdiv σ.2.1 8) - start) != size) <;> (simp only [cond_true, cond_false]; rw [show (σ.2.2 != 0) = true by simp [he]]; rfl)
theorem finQ_bad (id : Int) (fr to : I4) (size sb : Int) (fl : List Fill × List Fill) (st : List Strk × List Strk) {σ : Rs} (he : σ.2.2 ≠ 0) : fin10Q id fr to size sb fl st σ = bad10 σ.2.2 := by
  unfold fin10Q
  rw [show (σ.2.2 != 0) = true by simp [he]]; rfl
theorem many_of {σ : Rs} (h : (manyP σ).2.2.2 = 0) : σ.2.2 = 0 ∧ manyQ σ = manyP σ := by
  have hs : σ.2.2 = 0 := by
    by_cases hs : σ.2.2 = 0
    · exact hs
    · rw [manyP_err hs] at h; exact h
  rcases manyQ_eq σ with e | ⟨_, _, e3⟩
  · exact ⟨hs, e⟩
  · exact absurd h e3
theorem manyQ_2 (σ : Rs) : (manyQ σ).2 = (manyP σ).2 := by
  rcases manyQ_eq σ with e | ⟨e, _, _⟩
  · rw [e]
  · exact e
theorem tail_eq {s : List UInt8} (hs : s.length ≤ 2 ^ 40) (id : Int) (fr to : I4) {size sb : Int} (hsz : 0 ≤ size ∧ size ≤ 4294967295) (fl : List Fill × List Fill) (hfl : fl.1.length ≤ 15) (σ : Rs) (hσ : LenOk σ) (hb : σ.2.2 = 0 → 0 ≤ sb ∧ sb % 8 = 0 ∧ sb ≤ 8796093022208) :
    tail10Q id fr to size sb fl σ = tail10 id fr to size (IntKind.wrap .i64 (Int.tdiv sb 8)) fl σ := by
  unfold tail10Q tail10
  dsimp only
  by_cases hm : (manyP σ).2.2.2 = 0
  · obtain ⟨h1, h2⟩ := many_of hm
    rw [h2]
    obtain ⟨c, d⟩ := pairsQ_eq (f := spP) (g := spP) (fun σ h => spP_err h) (fun σ => ⟨rfl, fun _ => rfl⟩) (manyP σ).1.toNat (manyP σ).2
    by_cases hz : (pairsN spP (manyP σ).1.toNat (manyP σ).2).2.2.2 = 0
    · rw [d hz]
      obtain ⟨m0, m1⟩ := many_bound σ
      have n1 := (pairsN_n spP (manyP σ).1.toNat (manyP σ).2).1
      exact fin_eq hs id fr to hsz fl _ hfl (by rw [n1]; omega) _ (pairsN_len (fun _ h => spP_len h) _ _ (many_len hσ)) (fun _ => hb h1)
    · rw [fin_bad _ _ _ _ _ _ _ hz, finQ_bad _ _ _ _ _ _ _ (by rw [c]; exact hz), c]
  · have hq : (manyQ σ).2.2.2 ≠ 0 := by rw [manyQ_2]; exact hm
    rw [pairsQ_err spP hq, finQ_bad _ _ _ _ _ _ _ hq]
    have e := pairsN_err (f := spP) (fun σ h => spP_err h) (manyP σ).1.toNat _ hm
    rw [fin_bad _ _ _ _ _ _ _ (by rw [e]; exact hm), e, manyQ_2]
theorem lit4_rng (σ : Rs) : 0 ≤ (lit σ 4).1 ∧ (lit σ 4).1 ≤ 4294967295 := by
  refine ⟨lit_pos σ 4, ?_⟩
  unfold lit littleF
  split
  · show (0 : Int) ≤ _; decide
  · rw [if_neg (by decide)]
    have h := littleN_lt (bytesF σ.1 σ.2.1 4).1
    have hl : (bytesF σ.1 σ.2.1 4).1.length ≤ 4 := by
      rcases bytesF_cases σ.1 σ.2.1 4 with e | e | ⟨_, n', _, hn, _, _, e⟩ <;> rw [e]
      · exact Nat.zero_le _
      · exact Nat.zero_le _
      · simp; omega
    have : 256 ^ (bytesF σ.1 σ.2.1 4).1.length ≤ 256 ^ 4 := Nat.pow_le_pow_right (by decide) hl
    have e1 : 256 ^ 4 = 4294967296 := rfl
    simp only
    omega
theorem tail_bad (id : Int) (fr to : I4) (size start : Int) (fl : List Fill × List Fill) {σ : Rs} (he : σ.2.2 ≠ 0) : tail10 id fr to size start fl σ = bad10 σ.2.2 := by
  unfold tail10
  rw [manyP_err he]
  exact fin_bad _ _ _ _ _ _ _ he
theorem tailQ_bad (id : Int) (fr to : I4) (size sb : Int) (fl : List Fill × List Fill) {σ : Rs} (he : σ.2.2 ≠ 0) : tail10Q id fr to size sb fl σ = bad10 σ.2.2 := by
  have hq : (manyQ σ).2 = σ := by rw [manyQ_2, manyP_err he]
  unfold tail10Q
  dsimp only
  rw [pairsQ_err spP (by rw [hq]; exact he)]
  dsimp only
  rw [hq]
  exact finQ_bad _ _ _ _ _ _ _ he
theorem take10_eq {s : List UInt8} (h : s.length ≤ 2 ^ 40) (a : Int) : take10Q s a = take10 s a := by
  have h0 : LenOk ((s, a, 0) : Rs) := h
  have h1 := lit_len h0 2
  have h2 := rc_len h1
  have h3 := rc_len h2
  have h4 := lit_len h3 4
  have hal : ∀ σ : Rs, (lit σ 4).2.2.2 = 0 → LenOk (lit σ 4).2 → 0 ≤ (lit σ 4).2.2.1 ∧ (lit σ 4).2.2.1 % 8 = 0 ∧ (lit σ 4).2.2.1 ≤ 8796093022208 := by
    intro σ e hl
    have hs : σ.2.2 = 0 := by
      by_cases hs : σ.2.2 = 0
      · exact hs
      · rw [lit_err hs] at e; exact e
    obtain ⟨p, q, r⟩ := lit_al σ 4 hs e
    have hl : (lit σ 4).2.1.length ≤ 1099511627776 := hl
    exact ⟨p, q, by omega⟩
  have hz := hal (rc (rc (lit (s, a, 0) 2).2).2).2
  have hsz := lit4_rng (rc (rc (lit (s, a, 0) 2).2).2).2
  unfold take10Q take10
  dsimp only
  generalize lit (rc (rc (lit (s, a, 0) 2).2).2).2 4 = z at *
  by_cases hm : (manyP z.2).2.2.2 = 0
  · obtain ⟨q1, q2⟩ := many_of hm
    rw [q2]
    obtain ⟨c, d⟩ := pairsQ_eq (f := pfQ) (g := pfP) (fun σ h => pfP_err h) pfQ_eq (manyP z.2).1.toNat (manyP z.2).2
    by_cases hp : (pairsN pfP (manyP z.2).1.toNat (manyP z.2).2).2.2.2 = 0
    · rw [d hp]
      obtain ⟨m0, m1⟩ := many_bound z.2
      have n1 := (pairsN_n pfP (manyP z.2).1.toNat (manyP z.2).2).1
      exact tail_eq h _ _ _ hsz _ (by rw [n1]; omega) _ (pairsN_len (fun _ h => pfP_len h) _ _ (many_len h4)) (fun _ => hz q1 h4)
    · rw [tail_bad _ _ _ _ _ _ hp, tailQ_bad _ _ _ _ _ _ (by rw [c]; exact hp), c]
  · have hq : (manyQ z.2).2.2.2 ≠ 0 := by rw [manyQ_2]; exact hm
    rw [pairsQ_err pfQ hq, tailQ_bad _ _ _ _ _ _ hq]
    have e := pairsN_err (f := pfP) (fun σ h => pfP_err h) (manyP z.2).1.toNat _ hm
    rw [tail_bad _ _ _ _ _ _ (by rw [e]; exact hm), e, manyQ_2]
theorem qTake10_c {s : List UInt8} (h : s.length ≤ 2 ^ 40) (a : Int) : cW f_celluloidref10_Take [.s s, .i a, .i 0] [] = some (enc10 (take10 s a)) := by
  rw [qTake10_q h, take10_eq h]
end Go.AI
set_option linter.unusedVariables false
set_option linter.unusedSimpArgs false
set_option maxRecDepth 100000
namespace Go.AI
open Go Go.Proofs

def inW (a : Int) : Prop := -1099511627776 ≤ a ∧ a ≤ 1099511627776
instance (a : Int) : Decidable (inW a) := by unfold inW; infer_instance
end Go.AI
set_option linter.unusedVariables false
set_option linter.unusedSimpArgs false
set_option maxRecDepth 100000
namespace Go.AI
open Go Go.Proofs

end Go.AI
set_option linter.unusedVariables false
set_option linter.unusedSimpArgs false
set_option maxRecDepth 100000
namespace Go.AI
open Go Go.Proofs

theorem awake10 : cW f_celluloidlaw10_awake [] [] = some ([.b true], []) := c_at 100 (by kernel_rfl)
end Go.AI
set_option linter.unusedVariables false
set_option linter.unusedSimpArgs false
set_option maxRecDepth 100000
namespace Go.AI
open Go Go.Proofs

theorem ref10_m (m : Mor) : cW f_celluloidlaw10_ref m.e [] = some (m.e, []) := by
  unfold Mor.e
  rw [w_celluloidlaw10_ref]
theorem eq10_refl (m : Mor) (h : m.sh) : cW f_celluloidref10_Equal (m.e ++ m.e) [] = some ([.b true], []) := by
  unfold Mor.e
  simp only [List.cons_append, List.nil_append]
  rw [w_celluloidref10_Equal]
  simp only [sameLists_c h.f h.ff h.s, sameLists_c h.tf h.tff h.ts, rsame_c h.r h.rr, rsame_c h.t h.tt, beq_self_eq_true, decide_true, Bool.and_self, Bool.and_true, Bool.true_and, Bool.and_false, Bool.false_and, Bool.or_true, Bool.true_or, Bool.or_false, Bool.false_or, Bool.not_true, Bool.not_false, Option.bind_some, Option.bind_none, andB, orB, orB2, List.getD_cons_zero, List.getD_cons_succ, toB_b, toI_i, toS_s, toL_l, cond_true, cond_false, List.length_map]
theorem rcs_sh (σ : Rs) (f s kind : Int) : (rcs σ f s kind).1.length ≤ 2 ^ 40 ∧ Shs (rcs σ f s kind).1 := by
  have z : ([] : List Rec).length ≤ 2 ^ 40 ∧ Shs [] := ⟨Nat.zero_le _, fun r hr => by cases hr⟩
  unfold rcs
  split
  · exact z
  · unfold takeRecsF
    cases okArg f s kind
    · exact z
    · obtain ⟨a, b⟩ := takeRecsX_sh σ.1 σ.2.1 f s kind
      exact ⟨Nat.le_trans a (by decide), b⟩
theorem pfP_sh (σ : Rs) : (pfP σ).1.1.stops.length ≤ 2 ^ 40 ∧ (pfP σ).1.2.stops.length ≤ 2 ^ 40 := by
  unfold pfP
  dsimp only
  cases kindS (lit σ 1).1 with
  | true => exact ⟨Nat.zero_le _, Nat.zero_le _⟩
  | false =>
    cases kindP (lit σ 1).1 with
    | true => exact ⟨Nat.zero_le _, Nat.zero_le _⟩
    | false =>
      cases kindG (lit σ 1).1 with
      | false => exact ⟨Nat.zero_le _, Nat.zero_le _⟩
      | true =>
        obtain ⟨a, b⟩ := psP_n ((lit (mt (mt (lit σ 1).2).2).2 1).1 % 16).toNat 0 0 (gradS (mt (mt (lit σ 1).2).2).2)
        have n1 := lit1_lt (mt (mt (lit σ 1).2).2).2
        have h16 : ((lit (mt (mt (lit σ 1).2).2).2 1).1 % 16).toNat ≤ 16 := by omega
        refine ⟨?_, ?_⟩
        · show (psP ((lit (mt (mt (lit σ 1).2).2).2 1).1 % 16).toNat 0 0 (gradS (mt (mt (lit σ 1).2).2).2)).1.1.length ≤ 2 ^ 40
          rw [a]; exact Nat.le_trans h16 (by decide)
        · show (psP ((lit (mt (mt (lit σ 1).2).2).2 1).1 % 16).toNat 0 0 (gradS (mt (mt (lit σ 1).2).2).2)).1.2.length ≤ 2 ^ 40
          rw [b]; exact Nat.le_trans h16 (by decide)
theorem pairs_sh : ∀ (n : Nat) (σ : Rs), Shorts (pairsN pfP n σ).1.1 ∧ Shorts (pairsN pfP n σ).1.2
  | 0, _ => ⟨fun f hf => (by cases hf), fun f hf => (by cases hf)⟩
  | n + 1, σ => by
    obtain ⟨a, b⟩ := pairs_sh n (pfP σ).2
    obtain ⟨c, d⟩ := pfP_sh σ
    refine ⟨fun f hf => ?_, fun f hf => ?_⟩
    · have hf : f ∈ (pfP σ).1.1 :: (pairsN pfP n (pfP σ).2).1.1 := hf
      rcases List.mem_cons.1 hf with rfl | hf
      · exact c
      · exact a f hf
    · have hf : f ∈ (pfP σ).1.2 :: (pairsN pfP n (pfP σ).2).1.2 := hf
      rcases List.mem_cons.1 hf with rfl | hf
      · exact d
      · exact b f hf
theorem mor0_sh : mor0.sh := ⟨Nat.zero_le _, Nat.zero_le _, fun f hf => (by cases hf), fun f hf => (by cases hf), Nat.zero_le _, Nat.zero_le _, Nat.zero_le _, Nat.zero_le _, fun f hf => (by cases hf), fun f hf => (by cases hf)⟩
theorem fin10_sh (id : Int) (fr to : I4) (size start : Int) (fl : List Fill × List Fill) (st : List Strk × List Strk) (σ : Rs) (h1 : fl.1.length ≤ 2 ^ 40) (h2 : fl.2.length ≤ 2 ^ 40) (h3 : Shorts fl.1) (h4 : Shorts fl.2) (h5 : st.1.length ≤ 2 ^ 40) (h6 : st.2.length ≤ 2 ^ 40) : (fin10 id fr to size start fl st σ).1.sh := by
  unfold fin10
  dsimp only
  obtain ⟨a1, a2⟩ := rcs_sh σ (fl.1.length : Nat) (st.1.length : Nat) 1
  generalize rcs σ (fl.1.length : Nat) (st.1.length : Nat) 1 = u at a1 a2 ⊢
  obtain ⟨b1, b2⟩ := rcs_sh u.2 0 0 2
  generalize rcs u.2 0 0 2 = v at b1 b2 ⊢
  generalize (bif (IntKind.wrap .i64 (IntKind.wrap .i64 (Int.tdiv u.2.2.1 8) - start) != size) then failR v.2 3 else v.2) = w
  cases (w.2.2 != 0) with
  | true => exact mor0_sh
  | false => exact ⟨h1, h2, h3, h4, h5, h6, a1, b1, a2, b2⟩
theorem take10_sh (s : List UInt8) (a : Int) : (take10 s a).1.sh := by
  unfold take10 tail10
  dsimp only
  generalize lit (rc (rc (lit (s, a, 0) 2).2).2).2 4 = z
  obtain ⟨m0, m1⟩ := many_bound z.2
  obtain ⟨n1, n2⟩ := pairsN_n pfP (manyP z.2).1.toNat (manyP z.2).2
  obtain ⟨s1, s2⟩ := pairs_sh (manyP z.2).1.toNat (manyP z.2).2
  have k15 : (manyP z.2).1.toNat ≤ 15 := by omega
  generalize pairsN pfP (manyP z.2).1.toNat (manyP z.2).2 = fl at n1 n2 s1 s2 ⊢
  obtain ⟨p0, p1⟩ := many_bound fl.2
  obtain ⟨q1, q2⟩ := pairsN_n spP (manyP fl.2).1.toNat (manyP fl.2).2
  have j15 : (manyP fl.2).1.toNat ≤ 15 := by omega
  exact fin10_sh _ _ _ _ _ _ _ _ (by rw [n1]; exact Nat.le_trans k15 (by decide)) (by rw [n2]; exact Nat.le_trans k15 (by decide)) s1 s2 (by rw [q1]; exact Nat.le_trans j15 (by decide)) (by rw [q2]; exact Nat.le_trans j15 (by decide))
theorem MorphTakes_c (s : List UInt8) (a : Int) : cW f_celluloidlaw10_MorphTakes [.s s, .i a] [] = some ([.b true], []) := by
  rw [w_celluloidlaw10_MorphTakes]
  by_cases h : (s.length : Int) > 1024
  · rw [decide_eq_true h]
    simp only [awake10, Bool.and_true, Bool.true_and, Bool.and_false, Bool.false_and, Bool.or_true, Bool.true_or, Bool.or_false, Bool.false_or, Bool.not_true, Bool.not_false, Option.bind_some, Option.bind_none, andB, orB, orB2, List.getD_cons_zero, List.getD_cons_succ, toB_b, toI_i, toS_s, toL_l, cond_true, cond_false, List.length_map]
  · have hs : s.length ≤ 2 ^ 40 := by
      have : (2 : Nat) ^ 40 = 1099511627776 := rfl
      omega
    rw [decide_eq_false h]
    have e1 := Take10_c hs a
    have e2 := qTake10_c hs a
    have e3 := ref10_m (take10 s a).1
    have e4 := eq10_refl _ (take10_sh s a)
    unfold enc10 at e1 e2
    generalize take10 s a = r at *
    simp only [Mor.e, List.cons_append, List.nil_append] at e1 e2 e3 e4
    simp only [e1, e2, e3, e4, awake10, beq_self_eq_true, Bool.and_self, Bool.and_true, Bool.true_and, Bool.and_false, Bool.false_and, Bool.or_true, Bool.true_or, Bool.or_false, Bool.false_or, Bool.not_true, Bool.not_false, Option.bind_some, Option.bind_none, andB, orB, orB2, List.getD_cons_zero, List.getD_cons_succ, toB_b, toI_i, toS_s, toL_l, cond_true, cond_false, List.length_map]
end Go.AI
