/- Changes of colour that the document reads. -/
import Derived.Test.YtnbmjpdiibandaaP07f
set_option linter.unusedVariables false
set_option linter.unusedSimpArgs false
set_option maxRecDepth 100000
namespace Go.AI
open Go Go.Proofs

theorem qcx_step {x y : Int} {g : Nat → Option Res} {r : Bool} (h2 : (inB2 (-512) 512 x && inB2 (-255) 255 y) = true → Ans g ([.b r], [])) :
    Ans (fun k => ((call k f_celluloidref07_in [.i x, .i 512] []).bind fun r1 => (bif (!((r1.1.getD 0 .u)).toB) then some [PV.b true] else (call k f_celluloidref07_in [.i y, .i 255] []).bind fun r2 => some [.b (!((r2.1.getD 0 .u)).toB)])).bind fun r3 =>
      bif ((r3.getD 0 .u)).toB then some ([PV.b false], ([] : List BX)) else g k) ([.b (inB2 (-512) 512 x && inB2 (-255) 255 y && r)], []) := by
  refine .bind (x := [.b (!(inB2 (-512) 512 x && inB2 (-255) 255 y))]) (.bind (qin_ans x 512 (by omega) (by omega)) ?_) ?_
  · simp only [List.getD_cons_zero, PV.toB]
    refine .ite (fun h => .pure' ?_) (fun h => .bind (qin_ans y 255 (by omega) (by omega)) (.pure' ?_))
    · have h : inB2 (-512) 512 x = false := by simpa using h
      rw [h]; rfl
    · have h : inB2 (-512) 512 x = true := by simpa using h
      rw [h]; rfl
  · simp only [List.getD_cons_zero, PV.toB]
    refine .ite (fun h => .pure' ?_) (fun h => ?_)
    · have h : (inB2 (-512) 512 x && inB2 (-255) 255 y) = false := by rwa [Bool.not_eq_true'] at h
      rw [h]; rfl
    · have h : (inB2 (-512) 512 x && inB2 (-255) 255 y) = true := by rwa [Bool.not_eq_false'] at h
      rw [h, Bool.true_and]; exact h2 h
theorem pl_bit {σ : Rs} : (pl σ 1).1 = 0 ∨ (pl σ 1).1 = 1 := by
  unfold pl
  split
  · exact .inl rfl
  · rcases plainF_cases σ.1 σ.2.1 1 with e | e | ⟨a', n', _, hn, _, _, e⟩
    · rw [e]; exact .inl rfl
    · rw [e]; exact .inl rfl
    · have hn : n' = 1 := by omega
      subst hn
      have := fieldN_lt σ.1 a' 1
      rw [e]
      show ((fieldN σ.1 a' 1 : Nat) : Int) = 0 ∨ ((fieldN σ.1 a' 1 : Nat) : Int) = 1
      omega
theorem sgs_add (n : Int) (k : Nat) : ∀ (m : Nat) (σ : Rs), sgs n (m + k) σ = ((sgs n m σ).1 ++ (sgs n k (sgs n m σ).2).1, (sgs n k (sgs n m σ).2).2)
  | 0, σ => by simp [sgs]
  | m + 1, σ => by
    rw [show m + 1 + k = (m + k) + 1 by omega]
    simp only [sgs, sgs_add n k m]
    rfl
end Go.AI
