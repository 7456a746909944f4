/- Changes of colour that the document reads. -/
import Derived.Test.YtdfhhanbapkegaaP07f
set_option linter.unusedVariables false
set_option linter.unusedSimpArgs false
set_option maxRecDepth 100000
namespace Go.AI
open Go Go.Proofs

theorem qcx_step {x y : Int} {g : Nat → Option Res} {r : Bool} (h2 : (inB2 (-512) 512 x && inB2 (-255) 255 y) = true → Ans g ([.b r], [])) :
    Ans (fun k => ((call k f_celluloidref07_in [.i x, .i 512] []).bind fun r1 => (bif (!((r1.1.getD 0 .u)).toB) then some [PV.b true] else (call k f_celluloidref07_in [.i y, .i 255] []).bind fun r2 => some [.b (!((r2.1.getD 0 .u)).toB)])).bind fun r3 =>
      bif ((r3.getD 0 .u)).toB then some ([PV.b false], ([] : List BX)) else g k) ([.b (inB2 (-512) 512 x && inB2 (-255) 255 y && r)], []) := by
  refine .bind (x := [.b (!(inB2 (-512) 512 x && inB2 (-255) 255 y))]) (.bind (qin_ans x 512 (by omega) (by omega)) ?_) ?_
  · simp only [List.getD_cons_zero, PV.toB]
    refine .ite (fun h => .pure' ?_) (fun h => .bind (qin_ans y 255 (by omega) (by omega)) (.pure' ?_))
    · have h : inB2 (-512) 512 x = false := by simpa using h
      rw [h]; rfl
    · have h : inB2 (-512) 512 x = true := by simpa using h
      rw [h]; rfl
  · simp only [List.getD_cons_zero, PV.toB]
    refine .ite (fun h => .pure' ?_) (fun h => ?_)
    · have h : (inB2 (-512) 512 x && inB2 (-255) 255 y) = false := by rwa [Bool.not_eq_true'] at h
      rw [h]; rfl
    · have h : (inB2 (-512) 512 x && inB2 (-255) 255 y) = true := by rwa [Bool.not_eq_false'] at h
      rw [h, Bool.true_and]; exact h2 h
theorem qCx_ans (m a : I4) : Ans (fun k => call k f_celluloidref07_Cx [.i m.1, .i m.2.1, .i m.2.2.1, .i m.2.2.2, .i a.1, .i a.2.1, .i a.2.2.1, .i a.2.2.2] []) ([.b (cxB m.l a.l)], []) := by
  refine Ans.succ (fun k => u_celluloidref07_Cx k ..) ?_
  have e : cxB m.l a.l = (inB2 (-512) 512 m.1 && inB2 (-255) 255 a.1 && (inB2 (-512) 512 m.2.1 && inB2 (-255) 255 a.2.1 && (inB2 (-512) 512 m.2.2.1 && inB2 (-255) 255 a.2.2.1 && (inB2 (-512) 512 m.2.2.2 && inB2 (-255) 255 a.2.2.2 && true)))) := by
    unfold cxB I4.l
    simp only [List.all_cons, List.all_nil]
    cases inB2 (-512) 512 m.1 <;> cases inB2 (-512) 512 m.2.1 <;> cases inB2 (-512) 512 m.2.2.1 <;> cases inB2 (-512) 512 m.2.2.2 <;> cases inB2 (-255) 255 a.1 <;> cases inB2 (-255) 255 a.2.1 <;> cases inB2 (-255) 255 a.2.2.1 <;> cases inB2 (-255) 255 a.2.2.2 <;> rfl
  rw [e]
  refine .succ (fun k => u_celluloidref07_Cx_L0 k ..) (qcx_step fun _ => ?_)
  refine .succ (fun k => u_celluloidref07_Cx_L0_1 k ..) (qcx_step fun _ => ?_)
  refine .succ (fun k => u_celluloidref07_Cx_L0_2 k ..) (qcx_step fun _ => ?_)
  refine .succ (fun k => u_celluloidref07_Cx_L0_3 k ..) (qcx_step fun _ => ?_)
  exact .succ (fun k => u_celluloidref07_Cx_L0_4 k ..) (.pure _)

theorem qcx_end {m a : I4} {σ : Rs} (h : LenOk σ) :
    Ans (fun k => (call k f_celluloidref07_Cx [.i m.1, .i m.2.1, .i m.2.2.1, .i m.2.2.2, .i a.1, .i a.2.1, .i a.2.2.1, .i a.2.2.2] []).bind fun r5 => (call k f_celluloidref07_Done [.s σ.1, .i σ.2.1, .i σ.2.2, .b (r5.1.getD 0 .u).toB] []).bind fun r6 =>
      bif (r6.1.getD 2 .u).toI != 0 then some ([PV.i 0, .i 0, .i 0, .i 0, .i 0, .i 0, .i 0, .i 0, .s (r6.1.getD 0 .u).toS, .i (r6.1.getD 1 .u).toI, .i (r6.1.getD 2 .u).toI], ([] : List BX))
      else some ([.i m.1, .i m.2.1, .i m.2.2.1, .i m.2.2.2, .i a.1, .i a.2.1, .i a.2.2.1, .i a.2.2.2, .s (r6.1.getD 0 .u).toS, .i (r6.1.getD 1 .u).toI, .i (r6.1.getD 2 .u).toI], [])) (encC (finCx m a σ)) := by
  refine .bind (qCx_ans m a) (.bind (qdone_ans h _) ?_)
  simp only [encS, List.getD_cons_zero, List.getD_cons_succ, PV.toI, PV.toS, PV.toB]
  unfold finCx
  refine .ite (fun e => ?_) (fun e => ?_)
  · rw [if_pos (by simpa using e)]; exact .pure _
  · rw [if_neg (by simpa using e)]; exact .pure _

theorem pl_bit {σ : Rs} : (pl σ 1).1 = 0 ∨ (pl σ 1).1 = 1 := by
  unfold pl
  split
  · exact .inl rfl
  · rcases plainF_cases σ.1 σ.2.1 1 with e | e | ⟨a', n', _, hn, _, _, e⟩
    · rw [e]; exact .inl rfl
    · rw [e]; exact .inl rfl
    · have hn : n' = 1 := by omega
      subst hn
      have := fieldN_lt σ.1 a' 1
      rw [e]
      show ((fieldN σ.1 a' 1 : Nat) : Int) = 0 ∨ ((fieldN σ.1 a' 1 : Nat) : Int) = 1
      omega
theorem sgs_add (n : Int) (k : Nat) : ∀ (m : Nat) (σ : Rs), sgs n (m + k) σ = ((sgs n m σ).1 ++ (sgs n k (sgs n m σ).2).1, (sgs n k (sgs n m σ).2).2)
  | 0, σ => by simp [sgs]
  | m + 1, σ => by
    rw [show m + 1 + k = (m + k) + 1 by omega]
    simp only [sgs, sgs_add n k m]
    rfl
theorem qtakeCx_ans {s : List UInt8} (h : s.length ≤ 2 ^ 40) (a : Int) : Ans (fun k => call k f_celluloidref07_TakeCx [.s s, .i a] []) (encC (takeCxF (beginR s a))) := by
  refine Ans.succ (fun k => u_celluloidref07_TakeCx k s a) (.bind (qbegin_ans h a) ?_)
  have l0 := (begin_len h a).2
  generalize beginR s a = σ at l0 ⊢
  have l1 := pl_len l0 1; have l2 := pl_len l1 1
  refine .bind (qpl_ans l0 1) (.bind (qpl_ans l1 1) ?_)
  unfold takeCxF cxOf
  have b1 := pl_bit (σ := σ)
  have b2 := pl_bit (σ := (pl σ 1).2)
  simp only [encQ, encS, List.getD_cons_zero, List.getD_cons_succ, PV.toI, PV.toS]
  generalize (pl σ 1).1 = ad at b1 ⊢
  generalize (pl (pl σ 1).2 1).1 = mu at b2 ⊢
  generalize (pl (pl σ 1).2 1).2 = τ at l2 ⊢
  have l3 := pl_len l2 4
  have tk4 : ∀ m, tk 4 m τ = sgs (pl τ 4).1 m (pl τ 4).2 := fun m => rfl
  rcases b1 with rfl | rfl <;> rcases b2 with rfl | rfl
  · refine .bind (qseveral_ans l2 4 (m := 0) (by omega)) ?_
    refine .succ (fun k => u_celluloidref07_TakeCx_L0 k ..) (.no rfl ?_)
    refine .succ (fun k => u_celluloidref07_TakeCx_L2 k ..) (.no rfl ?_)
    exact qcx_end (m := (256, 256, 256, 256)) (a := (0, 0, 0, 0)) (σ := (pl τ 4).2) l3
  · refine .bind (qseveral_ans l2 4 (m := 4) (by omega)) ?_
    have l4 := tk_len 4 4 l2
    refine .succ (fun k => u_celluloidref07_TakeCx_L0 k ..) (.yes rfl (.yes rfl ?_))
    refine .succ (fun k => u_celluloidref07_TakeCx_L0_1 k ..) (.yes rfl (.yes rfl ?_))
    refine .succ (fun k => u_celluloidref07_TakeCx_L0_2 k ..) (.yes rfl (.yes rfl ?_))
    refine .succ (fun k => u_celluloidref07_TakeCx_L0_3 k ..) (.yes rfl (.yes rfl ?_))
    refine .succ (fun k => u_celluloidref07_TakeCx_L0_4 k ..) ?_
    refine .succ (fun k => u_celluloidref07_TakeCx_L2 k ..) (.no rfl ?_)
    exact qcx_end (m := (four true (pl τ 4).1 (256, 256, 256, 256) (pl τ 4).2).1) (a := (0, 0, 0, 0)) (σ := (tk 4 4 τ).2) l4
  · refine .bind (qseveral_ans l2 4 (m := 4) (by omega)) ?_
    have l4 := tk_len 4 4 l2
    refine .succ (fun k => u_celluloidref07_TakeCx_L0 k ..) (.no rfl ?_)
    refine .succ (fun k => u_celluloidref07_TakeCx_L2 k ..) (.yes rfl (.yes rfl ?_))
    refine .succ (fun k => u_celluloidref07_TakeCx_L2_1 k ..) (.yes rfl (.yes rfl ?_))
    refine .succ (fun k => u_celluloidref07_TakeCx_L2_2 k ..) (.yes rfl (.yes rfl ?_))
    refine .succ (fun k => u_celluloidref07_TakeCx_L2_3 k ..) (.yes rfl (.yes rfl ?_))
    refine .succ (fun k => u_celluloidref07_TakeCx_L2_4 k ..) ?_
    exact qcx_end (m := (256, 256, 256, 256)) (a := (four true (pl τ 4).1 (0, 0, 0, 0) (pl τ 4).2).1) (σ := (tk 4 4 τ).2) l4
  · refine .bind (qseveral_ans l2 4 (m := 8) (by omega)) ?_
    have l4 := tk_len 4 8 l2
    refine .succ (fun k => u_celluloidref07_TakeCx_L0 k ..) (.yes rfl (.yes rfl ?_))
    refine .succ (fun k => u_celluloidref07_TakeCx_L0_1 k ..) (.yes rfl (.yes rfl ?_))
    refine .succ (fun k => u_celluloidref07_TakeCx_L0_2 k ..) (.yes rfl (.yes rfl ?_))
    refine .succ (fun k => u_celluloidref07_TakeCx_L0_3 k ..) (.yes rfl (.yes rfl ?_))
    refine .succ (fun k => u_celluloidref07_TakeCx_L0_4 k ..) ?_
    refine .succ (fun k => u_celluloidref07_TakeCx_L2 k ..) (.yes rfl (.yes rfl ?_))
    refine .succ (fun k => u_celluloidref07_TakeCx_L2_1 k ..) (.yes rfl (.yes rfl ?_))
    refine .succ (fun k => u_celluloidref07_TakeCx_L2_2 k ..) (.yes rfl (.yes rfl ?_))
    refine .succ (fun k => u_celluloidref07_TakeCx_L2_3 k ..) (.yes rfl (.yes rfl ?_))
    refine .succ (fun k => u_celluloidref07_TakeCx_L2_4 k ..) ?_
    exact qcx_end (m := (four true (pl τ 4).1 (256, 256, 256, 256) (pl τ 4).2).1) (a := (four true (pl τ 4).1 (0, 0, 0, 0) (four true (pl τ 4).1 (256, 256, 256, 256) (pl τ 4).2).2).1) (σ := (tk 4 8 τ).2) l4
end Go.AI
