/- What the field layer writes: numbers with their width ahead; flags. -/
import Derived.Test.YtlahaamidmbajaaGreatP02
set_option linter.unusedVariables false
set_option linter.unusedSimpArgs false
set_option maxRecDepth 100000
namespace Go.AI
open Go Go.Proofs

def ints (l : List Int) : List (List PV) := l.map fun v => [.i v]
theorem ints_length (l : List Int) : (ints l).length = l.length := by simp [ints]
theorem elI_ints {l : List Int} {i : Nat} (h : i < l.length) : elI (ints l) i = l.getD i 0 := by
  simp [elI, ints, List.getD, h, PV.toI]
/-- the greatest width -/
def WL (l : List Int) : Nat := widthL (ints l) l.length
theorem widthL_bound {l : List Int} {b : Nat} (h : ∀ v, v ∈ l → widthN v ≤ b) : ∀ n, n ≤ l.length → widthL (ints l) n ≤ b
  | 0, _ => by simp [widthL]
  | n + 1, hn => by
    have := widthL_bound h n (by omega)
    simp only [widthL, elI_ints (show n < l.length by omega)]
    have h2 := h (l.getD n 0) (by rw [show l.getD n 0 = l[n] by simp [List.getD, show n < l.length by omega]]; exact List.getElem_mem _)
    omega
theorem WL_bound {l : List Int} {b : Nat} (h : ∀ v, v ∈ l → widthN v ≤ b) : WL l ≤ b := widthL_bound h _ (Nat.le_refl _)
theorem widthN_abs {v : Int} {n : Nat} (hn : 0 < n) (h : -((2 ^ (n - 1) : Nat) : Int) ≤ v ∧ v < ((2 ^ (n - 1) : Nat) : Int)) : widthN v ≤ n := by
  by_cases h0 : v = 0
  · subst h0; rw [widthN_zero]; omega
  · exact (widthN_le h0 hn).2 h

theorem ints_get {l : List Int} {i : Nat} (h : i < l.length) : elemAt (ints l) (i : Int) = [.i (l.getD i 0)] := by
  rw [elemAt_nat]; simp [ints, List.getD, h]
/-! ### the document's -/
/-! ### behind other bytes -/
end Go.AI
set_option linter.unusedVariables false
set_option linter.unusedSimpArgs false
set_option maxRecDepth 100000
namespace Go.AI
open Go Go.Proofs

theorem Ans.andB {m : Nat → Option Res} {c d : Bool} {y : Nat → Option (List PV)} (h : Ans m ([.b c], [])) (h2 : c = true → Ans y [.b d]) :
    Ans (fun k => (m k).bind fun r => bif (r.1.getD 0 .u).toB then y k else some [.b false]) [.b (c && d)] := by
  refine .bind h ?_
  simp only [List.getD_cons_zero, PV.toB]
  cases c with
  | true => exact .yes rfl (h2 rfl)
  | false => exact .no rfl (.pure _)

def inB2 (a b v : Int) : Bool := decide (a ≤ v) && decide (v ≤ b)
def rectB (l r t b : Int) : Bool := [l, r, t, b].all (inB2 (-1048576) 1048576) && (decide (l ≤ r) && decide (t ≤ b))
def matB (a b c d x y : Int) : Bool := [a, b, c, d].all (inB2 (-4194304) 4194304) && [x, y].all (inB2 (-1048576) 1048576)
/-- numbers that fit -/
def Fits (l : List Int) : Prop := ∀ v, v ∈ l → -4194304 ≤ v ∧ v ≤ 4194304
theorem Fits.i64 {l : List Int} (h : Fits l) : ∀ v, v ∈ l → I64 v := fun v hv => by have := h v hv; unfold I64; omega
theorem Fits.wl {l : List Int} (h : Fits l) : WL l ≤ 24 := WL_bound fun v hv => by
  have := h v hv
  refine widthN_abs (by omega) ?_
  have e : ((2 ^ (24 - 1) : Nat) : Int) = 8388608 := rfl
  rw [e]; omega
theorem inB2_iff {a b v : Int} : inB2 a b v = true ↔ a ≤ v ∧ v ≤ b := by unfold inB2; simp
end Go.AI
set_option linter.unusedVariables false
set_option linter.unusedSimpArgs false
set_option maxRecDepth 100000
namespace Go.AI
open Go Go.Proofs

/-- a reader's bytes, its place, its error -/
abbrev Rs := List UInt8 × Int × Int
def pl (σ : Rs) (n : Int) : Int × Rs := if σ.2.2 ≠ 0 then (0, σ) else plainF σ.1 σ.2.1 n
def sg (σ : Rs) (n : Int) : Int × Rs := if σ.2.2 ≠ 0 then (0, σ) else signedF σ.1 σ.2.1 n
def sgs (n : Int) : Nat → Rs → List Int × Rs
  | 0, σ => ([], σ)
  | m + 1, σ => ((sg σ n).1 :: (sgs n m (sg σ n).2).1, (sgs n m (sg σ n).2).2)
def LenOk (σ : Rs) : Prop := σ.1.length ≤ 2 ^ 40
def doneF (σ : Rs) (ok : Bool) : Rs := if σ.2.2 ≠ 0 then ([], 0, σ.2.2) else if ok = false then ([], 0, 3) else (σ.1, alignF σ.1 σ.2.1, 0)
def beginP (s : List UInt8) (a : Int) : Rs := (s, alignF s a, if rightB s a = true then 0 else 1)
/-! ### the document's -/
/-- numbers whose width stands ahead -/
def tk (h : Int) (m : Nat) (σ : Rs) : List Int × Rs := sgs (pl σ h).1 m (pl σ h).2
theorem qin_ans (n m : Int) (h0 : 0 ≤ m) (h1 : m ≤ 9223372036854775807) : Ans (fun k => call k f_celluloidref07_in [.i n, .i m] []) ([.b (inB2 (-m) m n)], []) := by
  refine Ans.succ (fun k => u_celluloidref07_in k n m) ?_
  rw [wrap64 (by omega) (by omega), show 0 - m = -m by omega]
  refine .bind (x := [.b (inB2 (-m) m n)]) ?_ (.pure _)
  unfold inB2
  refine .ite (fun h => .pure' ?_) (fun h => .pure' ?_)
  · have : decide (-m ≤ n) = true := by simpa using h
    rw [this]; rfl
  · have : decide (-m ≤ n) = false := by simpa using h
    rw [this]; rfl
theorem qRect_ans (l r t b : Int) : Ans (fun k => call k f_celluloidref07_Rect [.i l, .i r, .i t, .i b] []) ([.b (rectB l r t b)], []) := by
  refine Ans.succ (fun k => u_celluloidref07_Rect k l r t b) ?_
  have e : rectB l r t b = (inB2 (-1048576) 1048576 l && (inB2 (-1048576) 1048576 r && (inB2 (-1048576) 1048576 t && (inB2 (-1048576) 1048576 b && (decide (l ≤ r) && decide (t ≤ b)))))) := by
    simp [rectB, Bool.and_assoc]
  rw [e]
  refine .bind (.andB (qin_ans l 1048576 (by omega) (by omega)) fun _ => .andB (qin_ans r 1048576 (by omega) (by omega)) fun _ => .andB (qin_ans t 1048576 (by omega) (by omega)) fun _ => .andB (qin_ans b 1048576 (by omega) (by omega)) fun _ => ?_) (.pure _)
  exact .ite (fun h => .pure' (by rw [h]; rfl)) (fun h => .pure' (by rw [h]; rfl))
end Go.AI
set_option linter.unusedVariables false
set_option linter.unusedSimpArgs false
set_option maxRecDepth 100000
namespace Go.AI
open Go Go.Proofs

def opt2 (c : Int × Rs) (da db : Int) : (Int × Int) × Rs := if c.1 = 1 then (((tk 5 2 c.2).1.getD 0 0, (tk 5 2 c.2).1.getD 1 0), (tk 5 2 c.2).2) else ((da, db), c.2)
abbrev Mat := Int × Int × Int × Int × Int × Int
def finM (p q r : (Int × Int) × Rs) : Mat × Rs :=
  let d := doneF r.2 (matB p.1.1 q.1.1 q.1.2 p.1.2 r.1.1 r.1.2)
  if d.2.2 ≠ 0 then ((0, 0, 0, 0, 0, 0), d) else ((p.1.1, q.1.1, q.1.2, p.1.2, r.1.1, r.1.2), d)
def two (σ : Rs) : (Int × Int) × Rs := (((tk 5 2 σ).1.getD 0 0, (tk 5 2 σ).1.getD 1 0), (tk 5 2 σ).2)
/-- a matrix that is read -/
def takeMatF (σ : Rs) : Mat × Rs :=
  finM (opt2 (pl σ 1) 65536 65536) (opt2 (pl (opt2 (pl σ 1) 65536 65536).2 1) 0 0) (two (opt2 (pl (opt2 (pl σ 1) 65536 65536).2 1) 0 0).2)
end Go.AI
set_option linter.unusedVariables false
set_option linter.unusedSimpArgs false
set_option maxRecDepth 100000
namespace Go.AI
open Go Go.Proofs

def cxB (m a : List Int) : Bool := m.all (inB2 (-512) 512) && a.all (inB2 (-255) 255)
abbrev I4 := Int × Int × Int × Int
def I4.l (x : I4) : List Int := [x.1, x.2.1, x.2.2.1, x.2.2.2]
/-- a colour that is read -/
def takeKF (s : List UInt8) (a : Int) : I4 × Rs :=
  let q := bytesF s a 4
  if q.2.2.2 ≠ 0 then ((0, 0, 0, 0), ([], 0, q.2.2.2)) else ((((q.1.getD 0 0).toNat : Nat), ((q.1.getD 1 0).toNat : Nat), ((q.1.getD 2 0).toNat : Nat), ((q.1.getD 3 0).toNat : Nat)), (q.2.1, q.2.2.1, 0))
end Go.AI
set_option linter.unusedVariables false
set_option linter.unusedSimpArgs false
set_option maxRecDepth 100000
namespace Go.AI
open Go Go.Proofs

theorem qMatrix_ans (a b c d x y : Int) : Ans (fun k => call k f_celluloidref07_Matrix [.i a, .i b, .i c, .i d, .i x, .i y] []) ([.b (matB a b c d x y)], []) := by
  refine Ans.succ (fun k => u_celluloidref07_Matrix k a b c d x y) ?_
  have e : matB a b c d x y = (inB2 (-4194304) 4194304 a && (inB2 (-4194304) 4194304 b && (inB2 (-4194304) 4194304 c && (inB2 (-4194304) 4194304 d && (inB2 (-1048576) 1048576 x && inB2 (-1048576) 1048576 y))))) := by
    simp [matB, Bool.and_assoc]
  rw [e]
  refine .bind (.andB (qin_ans a 4194304 (by omega) (by omega)) fun _ => .andB (qin_ans b 4194304 (by omega) (by omega)) fun _ => .andB (qin_ans c 4194304 (by omega) (by omega)) fun _ => .andB (qin_ans d 4194304 (by omega) (by omega)) fun _ => .andB (qin_ans x 1048576 (by omega) (by omega)) fun _ => .bind (qin_ans y 1048576 (by omega) (by omega)) (.pure _)) (.pure _)

end Go.AI
set_option linter.unusedVariables false
set_option linter.unusedSimpArgs false
set_option maxRecDepth 100000
namespace Go.AI
open Go Go.Proofs

theorem qcx_step {x y : Int} {g : Nat → Option Res} {r : Bool} (h2 : (inB2 (-512) 512 x && inB2 (-255) 255 y) = true → Ans g ([.b r], [])) :
    Ans (fun k => ((call k f_celluloidref07_in [.i x, .i 512] []).bind fun r1 => (bif (!((r1.1.getD 0 .u)).toB) then some [PV.b true] else (call k f_celluloidref07_in [.i y, .i 255] []).bind fun r2 => some [.b (!((r2.1.getD 0 .u)).toB)])).bind fun r3 =>
      bif ((r3.getD 0 .u)).toB then some ([PV.b false], ([] : List BX)) else g k) ([.b (inB2 (-512) 512 x && inB2 (-255) 255 y && r)], []) := by
  refine .bind (x := [.b (!(inB2 (-512) 512 x && inB2 (-255) 255 y))]) (.bind (qin_ans x 512 (by omega) (by omega)) ?_) ?_
  · simp only [List.getD_cons_zero, PV.toB]
    refine .ite (fun h => .pure' ?_) (fun h => .bind (qin_ans y 255 (by omega) (by omega)) (.pure' ?_))
    · have h : inB2 (-512) 512 x = false := by simpa using h
      rw [h]; rfl
    · have h : inB2 (-512) 512 x = true := by simpa using h
      rw [h]; rfl
  · simp only [List.getD_cons_zero, PV.toB]
    refine .ite (fun h => .pure' ?_) (fun h => ?_)
    · have h : (inB2 (-512) 512 x && inB2 (-255) 255 y) = false := by rwa [Bool.not_eq_true'] at h
      rw [h]; rfl
    · have h : (inB2 (-512) 512 x && inB2 (-255) 255 y) = true := by rwa [Bool.not_eq_false'] at h
      rw [h, Bool.true_and]; exact h2 h
theorem qCx_ans (m a : I4) : Ans (fun k => call k f_celluloidref07_Cx [.i m.1, .i m.2.1, .i m.2.2.1, .i m.2.2.2, .i a.1, .i a.2.1, .i a.2.2.1, .i a.2.2.2] []) ([.b (cxB m.l a.l)], []) := by
  refine Ans.succ (fun k => u_celluloidref07_Cx k ..) ?_
  have e : cxB m.l a.l = (inB2 (-512) 512 m.1 && inB2 (-255) 255 a.1 && (inB2 (-512) 512 m.2.1 && inB2 (-255) 255 a.2.1 && (inB2 (-512) 512 m.2.2.1 && inB2 (-255) 255 a.2.2.1 && (inB2 (-512) 512 m.2.2.2 && inB2 (-255) 255 a.2.2.2 && true)))) := by
    unfold cxB I4.l
    simp only [List.all_cons, List.all_nil]
    cases inB2 (-512) 512 m.1 <;> cases inB2 (-512) 512 m.2.1 <;> cases inB2 (-512) 512 m.2.2.1 <;> cases inB2 (-512) 512 m.2.2.2 <;> cases inB2 (-255) 255 a.1 <;> cases inB2 (-255) 255 a.2.1 <;> cases inB2 (-255) 255 a.2.2.1 <;> cases inB2 (-255) 255 a.2.2.2 <;> rfl
  rw [e]
  refine .succ (fun k => u_celluloidref07_Cx_L0 k ..) (qcx_step fun _ => ?_)
  refine .succ (fun k => u_celluloidref07_Cx_L0_1 k ..) (qcx_step fun _ => ?_)
  refine .succ (fun k => u_celluloidref07_Cx_L0_2 k ..) (qcx_step fun _ => ?_)
  refine .succ (fun k => u_celluloidref07_Cx_L0_3 k ..) (qcx_step fun _ => ?_)
  exact .succ (fun k => u_celluloidref07_Cx_L0_4 k ..) (.pure _)

end Go.AI
set_option linter.unusedVariables false
set_option linter.unusedSimpArgs false
set_option maxRecDepth 100000
namespace Go.AI
open Go Go.Proofs

def rgbaB (c : I4) : Bool := c.l.all (inB2 0 255)
end Go.AI
set_option linter.unusedVariables false
set_option linter.unusedSimpArgs false
set_option maxRecDepth 100000
namespace Go.AI
open Go Go.Proofs

/-- a writer of so many bytes at most -/
def WB (n : Nat) (w : Wt) : Prop := WOk w ∧ w.1.length ≤ n
theorem WB.zero : WB 0 (([], 0) : Wt) := ⟨ok_zero [], Nat.le_refl _⟩
theorem qRGBA_loop {l : List Int} (hll : l.length ≤ 100) : ∀ (rest pre : List Int), l = pre ++ rest →
    Ans (fun k => run k f_celluloidref07_RGBA [] at_celluloidref07_RGBA_L0 (S_celluloidref07_RGBA_L0 (ints l) l.length pre.length)) ([.b (rest.all (inB2 0 255))], [])
  | [], pre, hp => by
    refine Ans.succ (fun k => u_celluloidref07_RGBA_L0 k ..) ?_
    exact .no (by rw [hp]; simp) (.pure _)
  | v :: rest, pre, hp => by
    refine Ans.succ (fun k => u_celluloidref07_RGBA_L0 k ..) ?_
    have hlen : l.length = pre.length + rest.length + 1 := by rw [hp]; simp; omega
    have hget : l.getD pre.length 0 = v := by rw [hp]; simp [List.getD]
    have e2 : IntKind.wrap .i64 ((pre.length : Int) + 1) = (((pre ++ [v]).length : Nat) : Int) := by rw [wrap64 (by omega) (by omega)]; simp
    have ih := qRGBA_loop hll rest (pre ++ [v]) (by rw [hp]; simp)
    rw [ints_get (by omega), hget, e2]
    simp only [List.getD_cons_zero, PV.toI]
    refine .yes (by simp; omega) (.yes (by unfold inB; simp [ints_length]; omega) (.bind (x := [.b (!inB2 0 255 v)]) ?_ ?_))
    · unfold inB2
      refine .ite (fun h => .pure' ?_) (fun h => .pure' ?_)
      · have : decide (0 ≤ v) = false := by simp at h ⊢; omega
        rw [this]; rfl
      · have h1 : decide (0 ≤ v) = true := by simp at h ⊢; omega
        have h2 : decide (v > 255) = !decide (v ≤ 255) := by
          by_cases c : v ≤ 255
          · rw [decide_eq_true c, decide_eq_false (by omega)]; rfl
          · rw [decide_eq_false c, decide_eq_true (by omega)]; rfl
        rw [h1, h2]; rfl
    · simp only [List.getD_cons_zero, PV.toB]
      refine .ite (fun h => .pure' ?_) (fun h => ?_)
      · have : inB2 0 255 v = false := by simpa using h
        rw [List.all_cons, this]; rfl
      · have : inB2 0 255 v = true := by simpa using h
        rw [List.all_cons, this]; exact ih
theorem qRGBA_ans (c : I4) : Ans (fun k => call k f_celluloidref07_RGBA [.i c.1, .i c.2.1, .i c.2.2.1, .i c.2.2.2] []) ([.b (rgbaB c)], []) :=
  Ans.succ (fun k => u_celluloidref07_RGBA k ..) (qRGBA_loop (l := c.l) (by simp [I4.l]) c.l [] rfl)

end Go.AI
set_option linter.unusedVariables false
set_option linter.unusedSimpArgs false
set_option maxRecDepth 100000
namespace Go.AI
open Go Go.Proofs

end Go.AI
set_option linter.unusedVariables false
set_option linter.unusedSimpArgs false
set_option maxRecDepth 100000
namespace Go.AI
open Go Go.Proofs

end Go.AI
set_option linter.unusedVariables false
set_option linter.unusedSimpArgs false
set_option maxRecDepth 100000
namespace Go.AI
open Go Go.Proofs

end Go.AI
