/- Matrices and changes of colour that the document reads. -/
import Derived.Test.YtnbmjpdiibandaaP07e
set_option linter.unusedVariables false
set_option linter.unusedSimpArgs false
set_option maxRecDepth 100000
namespace Go.AI
open Go Go.Proofs

theorem qMatrix_ans (a b c d x y : Int) : Ans (fun k => call k f_celluloidref07_Matrix [.i a, .i b, .i c, .i d, .i x, .i y] []) ([.b (matB a b c d x y)], []) := by
  refine Ans.succ (fun k => u_celluloidref07_Matrix k a b c d x y) ?_
  have e : matB a b c d x y = (inB2 (-4194304) 4194304 a && (inB2 (-4194304) 4194304 b && (inB2 (-4194304) 4194304 c && (inB2 (-4194304) 4194304 d && (inB2 (-1048576) 1048576 x && inB2 (-1048576) 1048576 y))))) := by
    simp [matB, Bool.and_assoc]
  rw [e]
  refine .bind (.andB (qin_ans a 4194304 (by omega) (by omega)) fun _ => .andB (qin_ans b 4194304 (by omega) (by omega)) fun _ => .andB (qin_ans c 4194304 (by omega) (by omega)) fun _ => .andB (qin_ans d 4194304 (by omega) (by omega)) fun _ => .andB (qin_ans x 1048576 (by omega) (by omega)) fun _ => .bind (qin_ans y 1048576 (by omega) (by omega)) (.pure _)) (.pure _)

theorem qfin {p q r : (Int × Int) × Rs} (h : LenOk r.2) (a b c d x y : Int) (ha : a = p.1.1) (hb : b = q.1.1) (hc : c = q.1.2) (hd : d = p.1.2) (hx : x = r.1.1) (hy : y = r.1.2) :
    Ans (fun k => (call k f_celluloidref07_Matrix [.i a, .i b, .i c, .i d, .i x, .i y] []).bind fun r7 => (call k f_celluloidref07_Done [.s r.2.1, .i r.2.2.1, .i r.2.2.2, .b (r7.1.getD 0 .u).toB] []).bind fun r8 =>
      bif (r8.1.getD 2 .u).toI != 0 then some ([PV.i 0, .i 0, .i 0, .i 0, .i 0, .i 0, .s (r8.1.getD 0 .u).toS, .i (r8.1.getD 1 .u).toI, .i (r8.1.getD 2 .u).toI], ([] : List BX))
      else some ([.i a, .i b, .i c, .i d, .i x, .i y, .s (r8.1.getD 0 .u).toS, .i (r8.1.getD 1 .u).toI, .i (r8.1.getD 2 .u).toI], [])) (encM (finM p q r)) := by
  subst ha hb hc hd hx hy
  refine .bind (qMatrix_ans _ _ _ _ _ _) (.bind (qdone_ans h _) ?_)
  simp only [encS, List.getD_cons_zero, List.getD_cons_succ, PV.toI, PV.toS, PV.toB]
  unfold finM
  refine .ite (fun e => ?_) (fun e => ?_)
  · rw [if_pos (by simpa using e)]; exact .pure _
  · rw [if_neg (by simpa using e)]; exact .pure _
theorem qtwo_ans {σ : Rs} (h : LenOk σ) {γ : Type} {r : γ} {g : Nat → Res → Option γ} (h2 : Ans (fun k => g k (.l (ints (tk 5 2 σ).1) :: encS (tk 5 2 σ).2, [])) r) :
    Ans (fun k => (call k f_celluloidref07_several [.s σ.1, .i σ.2.1, .i σ.2.2, .i 5, .i 2] []).bind fun x => bif inB 0 (List.length ((x.1.getD 0 .u)).toL) then (bif inB 1 (List.length ((x.1.getD 0 .u)).toL) then g k x else none) else none) r := by
  refine .bind (qseveral_ans h 5 (m := 2) (by omega)) ?_
  have hl := tk_length 5 2 σ
  simp only [List.getD_cons_zero, PV.toL, ints_length, hl]
  exact .yes rfl (.yes rfl h2)
theorem el0 (σ : Rs) : ((elemAt (ints (tk 5 2 σ).1) 0).getD 0 .u).toI = (two σ).1.1 := el_ints (l := (tk 5 2 σ).1) (i := 0) (by rw [tk_length]; omega)
theorem el1 (σ : Rs) : ((elemAt (ints (tk 5 2 σ).1) 1).getD 0 .u).toI = (two σ).1.2 := el_ints (l := (tk 5 2 σ).1) (i := 1) (by rw [tk_length]; omega)
theorem qtakeMat_ans {s : List UInt8} (h : s.length ≤ 2 ^ 40) (a : Int) : Ans (fun k => call k f_celluloidref07_TakeMatrix [.s s, .i a] []) (encM (takeMatF (beginR s a))) := by
  refine Ans.succ (fun k => u_celluloidref07_TakeMatrix k s a) (.bind (qbegin_ans h a) ?_)
  have l0 := (begin_len h a).2
  generalize beginR s a = σ at l0 ⊢
  unfold takeMatF
  have l1 := pl_len l0 1
  refine .bind (qpl_ans l0 1) (.ite (fun hp => ?_) (fun hp => ?_))
  · rw [opt2_yes hp]
    have l2 := two_len l1
    refine qtwo_ans l1 ?_
    have l3 := pl_len l2 1
    refine .bind (qpl_ans l2 1) (.ite (fun hq => ?_) (fun hq => ?_))
    · rw [opt2_yes hq]
      have l4 := two_len l3
      refine qtwo_ans l3 ?_
      have l5 := two_len l4
      refine qtwo_ans l4 ?_
      exact qfin l5 _ _ _ _ _ _ (el0 _) (el0 _) (el1 _) (el1 _) (el0 _) (el1 _)
    · rw [opt2_no hq]
      have l5 := two_len l3
      refine qtwo_ans l3 ?_
      exact qfin (q := ((0, 0), (pl (two (pl σ 1).2).2 1).2)) l5 _ _ _ _ _ _ (el0 _) rfl rfl (el1 _) (el0 _) (el1 _)
  · rw [opt2_no hp]
    have l3 := pl_len l1 1
    refine .bind (qpl_ans l1 1) (.ite (fun hq => ?_) (fun hq => ?_))
    · simp only
      rw [opt2_yes hq]
      have l4 := two_len l3
      refine qtwo_ans l3 ?_
      have l5 := two_len l4
      refine qtwo_ans l4 ?_
      exact qfin (p := ((65536, 65536), (pl σ 1).2)) l5 _ _ _ _ _ _ rfl (el0 _) (el1 _) rfl (el0 _) (el1 _)
    · simp only
      rw [opt2_no hq]
      have l5 := two_len l3
      refine qtwo_ans l3 ?_
      exact qfin (p := ((65536, 65536), (pl σ 1).2)) (q := ((0, 0), (pl (pl σ 1).2 1).2)) l5 _ _ _ _ _ _ rfl rfl rfl rfl (el0 _) (el1 _)
end Go.AI
