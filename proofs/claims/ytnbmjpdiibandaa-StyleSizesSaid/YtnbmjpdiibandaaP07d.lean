/- Matrices and colours that are read, by the field layer and by the document. -/
import Derived.Test.YtnbmjpdiibandaaP07c
set_option linter.unusedVariables false
set_option linter.unusedSimpArgs false
set_option maxRecDepth 100000
namespace Go.AI
open Go Go.Proofs

def opt2 (c : Int × Rs) (da db : Int) : (Int × Int) × Rs := if c.1 = 1 then (((tk 5 2 c.2).1.getD 0 0, (tk 5 2 c.2).1.getD 1 0), (tk 5 2 c.2).2) else ((da, db), c.2)
theorem opt2_len {c : Int × Rs} (h : LenOk c.2) (da db : Int) : LenOk (opt2 c da db).2 := by
  unfold opt2; split
  · exact tk_len 5 2 h
  · exact h
abbrev Mat := Int × Int × Int × Int × Int × Int
def finM (p q r : (Int × Int) × Rs) : Mat × Rs :=
  let d := doneF r.2 (matB p.1.1 q.1.1 q.1.2 p.1.2 r.1.1 r.1.2)
  if d.2.2 ≠ 0 then ((0, 0, 0, 0, 0, 0), d) else ((p.1.1, q.1.1, q.1.2, p.1.2, r.1.1, r.1.2), d)
def two (σ : Rs) : (Int × Int) × Rs := (((tk 5 2 σ).1.getD 0 0, (tk 5 2 σ).1.getD 1 0), (tk 5 2 σ).2)
/-- a matrix that is read -/
def takeMatF (σ : Rs) : Mat × Rs :=
  finM (opt2 (pl σ 1) 65536 65536) (opt2 (pl (opt2 (pl σ 1) 65536 65536).2 1) 0 0) (two (opt2 (pl (opt2 (pl σ 1) 65536 65536).2 1) 0 0).2)
def encM (r : Mat × Rs) : Res := ([.i r.1.1, .i r.1.2.1, .i r.1.2.2.1, .i r.1.2.2.2.1, .i r.1.2.2.2.2.1, .i r.1.2.2.2.2.2] ++ encS r.2, [])
theorem two_eq (σ : Rs) : two σ = (((sg (pl σ 5).2 (pl σ 5).1).1, (sg (sg (pl σ 5).2 (pl σ 5).1).2 (pl σ 5).1).1), (sg (sg (pl σ 5).2 (pl σ 5).1).2 (pl σ 5).1).2) := rfl
theorem opt2_yes {c : Int × Rs} (h : (c.1 == 1) = true) (da db : Int) : opt2 c da db = two c.2 := by unfold opt2; rw [if_pos (by simpa using h)]; rfl
theorem opt2_no {c : Int × Rs} (h : (c.1 == 1) = false) (da db : Int) : opt2 c da db = ((da, db), c.2) := by unfold opt2; rw [if_neg (by simpa using h)]
theorem two_len {σ : Rs} (h : LenOk σ) : LenOk (two σ).2 := tk_len 5 2 h

/-- the last part: right or not -/
theorem fin_tree {σ : Rs} {p q r : (Int × Int) × Rs} {ok : Bool} (hok : ok = matB p.1.1 q.1.1 q.1.2 p.1.2 r.1.1 r.1.2) (a b c d x y : Int) (ha : a = p.1.1) (hb : b = q.1.1) (hc : c = q.1.2) (hd : d = p.1.2) (hx : x = r.1.1) (hy : y = r.1.2) :
    Ans (fun _ => bif (doneF r.2 ok).2.2 != 0 then some ([PV.i 0, .i 0, .i 0, .i 0, .i 0, .i 0, .s (doneF r.2 ok).1, .i (doneF r.2 ok).2.1, .i (doneF r.2 ok).2.2], ([] : List BX))
      else some ([.i a, .i b, .i c, .i d, .i x, .i y, .s (doneF r.2 ok).1, .i (doneF r.2 ok).2.1, .i 0], [])) (encM (finM p q r)) := by
  subst hok ha hb hc hd hx hy
  unfold finM
  refine .ite (fun e => ?_) (fun e => ?_)
  · rw [if_pos (by simpa using e)]; exact .pure _
  · have e : (doneF r.2 (matB p.1.1 q.1.1 q.1.2 p.1.2 r.1.1 r.1.2)).2.2 = 0 := by simpa using e
    rw [if_neg (by rw [e]; decide)]
    refine .pure' ?_
    simp [encM, encS, e]
theorem two_ans {σ : Rs} (h : LenOk σ) {γ : Type} {r : γ} {g : Nat → Res → Res → Res → Option γ}
    (h2 : Ans (fun k => g k ([.i (pl σ 5).1], rbox (pl σ 5).2) ([.i (two σ).1.1], rbox (sg (pl σ 5).2 (pl σ 5).1).2) ([.i (two σ).1.2], rbox (two σ).2)) r) :
    Ans (fun k => (call k f___celluloid_field_reader__plain [.u, .i 5] (rbox σ)).bind fun x => (call k f___celluloid_field_reader__signed [.u, .i ((x.1.getD 0 .u)).toI] [(t_field_reader, [.s ((((x.2.getD 0 (0, []))).2.getD 0 .u)).toS, .i ((((x.2.getD 0 (0, []))).2.getD 1 .u)).toI, .i ((((x.2.getD 0 (0, []))).2.getD 2 .u)).toI])]).bind fun y =>
      (call k f___celluloid_field_reader__signed [.u, .i ((x.1.getD 0 .u)).toI] [(t_field_reader, [.s ((((y.2.getD 0 (0, []))).2.getD 0 .u)).toS, .i ((((y.2.getD 0 (0, []))).2.getD 1 .u)).toI, .i ((((y.2.getD 0 (0, []))).2.getD 2 .u)).toI])]).bind fun z => g k x y z) r :=
  .bind (rpl_ans h 5) (.bind (rsg_ans (pl_len h 5) _) (.bind (rsg_ans (sg_len (pl_len h 5) _) _) h2))
theorem takeMat_ans {s : List UInt8} (h : s.length ≤ 2 ^ 40) (a : Int) : Ans (fun k => call k f_field_TakeMatrix [.s s, .i a] []) (encM (takeMatF (beginP s a))) := by
  refine Ans.succ (fun k => u_field_TakeMatrix k s a) (.bind (begin_ans h a) (.bind (.succ (fun k => u_field_Same k) (.pure _)) ?_))
  have l0 := (begin_len h a).1
  generalize beginP s a = σ at l0 ⊢
  unfold takeMatF
  have l1 := pl_len l0 1
  refine .bind (rpl_ans l0 1) (.ite (fun hp => ?_) (fun hp => ?_))
  · rw [opt2_yes hp]
    have l2 := two_len l1
    refine two_ans l1 ?_
    generalize two (pl σ 1).2 = p at l2 ⊢
    have l3 := pl_len l2 1
    refine .bind (rpl_ans l2 1) (.ite (fun hq => ?_) (fun hq => ?_))
    · rw [opt2_yes hq]
      have l4 := two_len l3
      refine two_ans l3 ?_
      generalize two (pl p.2 1).2 = q at l4 ⊢
      have l5 := two_len l4
      refine two_ans l4 ?_
      generalize two q.2 = r at l5 ⊢
      refine .bind (rightMatrix_ans _ _ _ _ _ _) (.bind (rdone_ans l5 _) ?_)
      exact fin_tree (σ := σ) rfl _ _ _ _ _ _ rfl rfl rfl rfl rfl rfl
    · rw [opt2_no hq]
      have l5 := two_len l3
      refine two_ans l3 ?_
      simp only
      generalize two (pl p.2 1).2 = r at l5 ⊢
      refine .bind (rightMatrix_ans _ _ _ _ _ _) (.bind (rdone_ans l5 _) ?_)
      exact fin_tree (σ := σ) (q := ((0, 0), (pl p.2 1).2)) rfl _ _ _ _ _ _ rfl rfl rfl rfl rfl rfl
  · rw [opt2_no hp]
    have l3 := pl_len l1 1
    refine .bind (rpl_ans l1 1) (.ite (fun hq => ?_) (fun hq => ?_))
    · simp only
      rw [opt2_yes hq]
      have l4 := two_len l3
      refine two_ans l3 ?_
      generalize two (pl (pl σ 1).2 1).2 = q at l4 ⊢
      have l5 := two_len l4
      refine two_ans l4 ?_
      generalize two q.2 = r at l5 ⊢
      refine .bind (rightMatrix_ans _ _ _ _ _ _) (.bind (rdone_ans l5 _) ?_)
      exact fin_tree (σ := σ) (p := ((65536, 65536), (pl σ 1).2)) rfl _ _ _ _ _ _ rfl rfl rfl rfl rfl rfl
    · simp only
      rw [opt2_no hq]
      have l5 := two_len l3
      refine two_ans l3 ?_
      simp only
      generalize two (pl (pl σ 1).2 1).2 = r at l5 ⊢
      refine .bind (rightMatrix_ans _ _ _ _ _ _) (.bind (rdone_ans l5 _) ?_)
      exact fin_tree (σ := σ) (p := ((65536, 65536), (pl σ 1).2)) (q := ((0, 0), (pl (pl σ 1).2 1).2)) rfl _ _ _ _ _ _ rfl rfl rfl rfl rfl rfl
end Go.AI
