/- What the document writes: rectangles, matrices, changes, colours. -/
import Derived.Test.YtnbmjpdiibandaaP07h
set_option linter.unusedVariables false
set_option linter.unusedSimpArgs false
set_option maxRecDepth 100000
namespace Go.AI
open Go Go.Proofs

/-- a writer of so many bytes at most -/
def WB (n : Nat) (w : Wt) : Prop := WOk w ∧ w.1.length ≤ n
theorem WB.zero : WB 0 (([], 0) : Wt) := ⟨ok_zero [], Nat.le_refl _⟩
theorem qflag_step {n : Nat} {w : Wt} (hw : WB n w) (hn : n ≤ 5000) {b : Bool} {γ : Type} {r : γ} {g : Nat → Res → Option γ}
    (h2 : WB (n + 1) (flagW b w) → Ans (fun k => g k ([.s (flagW b w).1, .i (((flagW b w).2 : Nat) : Int)], [])) r) :
    Ans (fun k => (call k f_celluloidref07_flag [.s w.1, .i ((w.2 : Nat) : Int), .b b] []).bind fun x => g k x) r := by
  obtain ⟨a, _, _, d⟩ := flagW_ok b w hw.1
  have := hw.2
  exact .bind (rflag_ans hw.1 (by omega) b) (h2 ⟨a, by omega⟩)
theorem qnums_step {n : Nat} {w : Wt} (hw : WB n w) (hn : n ≤ 5000) {l : List Int} (hf : Fits l) {h : Nat} (hh : h ≤ 31) (hwl : WL l < 2 ^ h) (hll : l.length ≤ 8) {γ : Type} {r : γ} {g : Nat → Res → Option γ}
    (h2 : WB (n + 300) (nums h l w) → Ans (fun k => g k ([.s (nums h l w).1, .i (((nums h l w).2 : Nat) : Int)], [])) r) :
    Ans (fun k => (call k f_celluloidref07_numbers [.s w.1, .i ((w.2 : Nat) : Int), .i (h : Int), .l (ints l)] []).bind fun x => g k x) r := by
  obtain ⟨a, _, _, d⟩ := nums_ok h l w hw.1
  have := hw.2
  have h24 := hf.wl
  have : WL l * l.length ≤ 24 * 8 := Nat.mul_le_mul h24 hll
  exact .bind (rnums_ans hf.i64 (by omega) hh hwl (by omega) hw.1 (by omega)) (h2 ⟨a, by omega⟩)
theorem qnums5 {n : Nat} {w : Wt} (hw : WB n w) (hn : n ≤ 5000) {l : List Int} (hf : Fits l) (hll : l.length ≤ 8) {γ : Type} {r : γ} {g : Nat → Res → Option γ}
    (h2 : WB (n + 300) (nums 5 l w) → Ans (fun k => g k ([.s (nums 5 l w).1, .i (((nums 5 l w).2 : Nat) : Int)], [])) r) :
    Ans (fun k => (call k f_celluloidref07_numbers [.s w.1, .i ((w.2 : Nat) : Int), .i 5, .l (ints l)] []).bind fun x => g k x) r :=
  qnums_step hw hn hf (h := 5) (by omega) (by have := hf.wl; show WL l < 32; omega) hll h2
theorem nums_behind (s : List UInt8) {h : Nat} {l : List Int} {w : Wt} (hw : WOk w) : s ++ (nums h l w).1 = (nums h l (s ++ w.1, w.2)).1 := by rw [nums_pre s h l w hw]
theorem flag_behind (s : List UInt8) {b : Bool} {w : Wt} (hw : WOk w) : flagW b (s ++ w.1, w.2) = (s ++ (flagW b w).1, (flagW b w).2) := putN_pre s _ _ w hw
theorem opt_behind (s : List UInt8) {c : Bool} {l : List Int} {w : Wt} (hw : WOk w) : optW c l (s ++ w.1, w.2) = (s ++ (optW c l w).1, (optW c l w).2) := by
  unfold optW; split
  · exact nums_pre s 5 l w hw
  · rfl
theorem mat_behind (s : List UInt8) (a b c d x y : Int) : (matW a b c d x y (s, 0)).1 = s ++ (matW a b c d x y ([], 0)).1 := by
  unfold matW
  generalize (a != 65536 || d != 65536) = p
  generalize (b != 0 || c != 0) = q
  have o0 : WOk (([], 0) : Wt) := ok_zero []
  have o1 := (flagW_ok p ([], 0) o0).1
  have o2 := (optW_ok p [a, d] _ o1).1
  have o3 := (flagW_ok q _ o2).1
  have o4 := (optW_ok q [b, c] _ o3).1
  rw [nums_behind s o4, ← opt_behind s o3, ← flag_behind s o2, ← opt_behind s o1, ← flag_behind s o0, List.append_nil]
theorem qPutMat_ans {s : List UInt8} (hs : s.length ≤ 450000000) {a b c d x y : Int} (h : matB a b c d x y = true) : Ans (fun k => call k f_celluloidref07_PutMatrix [.s s, .i a, .i b, .i c, .i d, .i x, .i y] []) ([.s (putMatF s a b c d x y).1], []) := by
  refine Ans.succ (fun k => u_celluloidref07_PutMatrix k ..) ?_
  have e : (putMatF s a b c d x y).1 = s ++ (matW a b c d x y ([], 0)).1 := by
    unfold putMatF; rw [if_pos h, mat_behind]
  rw [e]
  obtain ⟨f1, f2, f3⟩ := matB_fits h
  unfold matW
  generalize (a != 65536) = b1
  generalize (d != 65536) = b2
  generalize (b != 0) = b3
  generalize (c != 0) = b4
  cases b1 <;> cases b2 <;> cases b3 <;> cases b4
  all_goals
    first | refine .yes rfl ?_ | refine .no rfl ?_
    refine qflag_step (w := ([], 0)) WB.zero (by omega) fun hw => ?_
    first | refine .bind (.yes rfl (.pure _)) (.yes rfl (qnums5 hw (by omega) f1 (by simp) fun hw => ?_)) | refine .bind (.no rfl (.pure _)) (.yes rfl (qnums5 hw (by omega) f1 (by simp) fun hw => ?_)) | refine .bind (.no rfl (.pure _)) (.no rfl ?_)
    all_goals
      first | refine .yes rfl ?_ | refine .no rfl ?_
      refine qflag_step hw (by omega) fun hw => ?_
      first | refine .bind (.yes rfl (.pure _)) (.yes rfl (qnums5 hw (by omega) f2 (by simp) fun hw => ?_)) | refine .bind (.no rfl (.pure _)) (.yes rfl (qnums5 hw (by omega) f2 (by simp) fun hw => ?_)) | refine .bind (.no rfl (.pure _)) (.no rfl ?_)
      all_goals
        refine qnums5 hw (by omega) f3 (by simp) fun hw => ?_
        exact .yes (by have := hw.2; simp [PV.toS] at this ⊢; omega) (.pure _)

theorem cx_behind (s : List UInt8) (m a : I4) : (cxW m a (s, 0)).1 = s ++ (cxW m a ([], 0)).1 := by
  unfold cxW
  have o0 : WOk (([], 0) : Wt) := ok_zero []
  have o1 := (flagW_ok (!zeroI a) ([], 0) o0).1
  have o2 := (flagW_ok (!fullI m) _ o1).1
  rw [nums_behind s o2, ← flag_behind s o1, ← flag_behind s o0, List.append_nil]
theorem cx_fits' {m a : I4} (h : cxB m.l a.l = true) : Fits (cxL m a) := fun v hv => by have := cx_fits h v hv; omega
theorem qnums4 {n : Nat} {w : Wt} (hw : WB n w) (hn : n ≤ 5000) {m a : I4} (hf : cxB m.l a.l = true) {γ : Type} {r : γ} {g : Nat → Res → Option γ}
    (h2 : WB (n + 300) (nums 4 (cxL m a) w) → Ans (fun k => g k ([.s (nums 4 (cxL m a) w).1, .i (((nums 4 (cxL m a) w).2 : Nat) : Int)], [])) r) :
    Ans (fun k => (call k f_celluloidref07_numbers [.s w.1, .i ((w.2 : Nat) : Int), .i 4, .l (ints (cxL m a))] []).bind fun x => g k x) r :=
  qnums_step hw hn (cx_fits' hf) (h := 4) (by omega) (by have := cx_wl hf; show WL _ < 16; omega) (cxL_len m a) h2
theorem qputCx_end {s : List UInt8} (hs : s.length ≤ 450000000) {m a : I4} (h : cxB m.l a.l = true) {adds muls : Bool} (ha : adds = !zeroI a) (hm : muls = !fullI m) {L : List (List PV)} (hL : L = ints (cxL m a)) :
    Ans (fun k => (call k f_celluloidref07_flag [.s [], .i 0, .b adds] []).bind fun r21 =>
      (call k f_celluloidref07_flag [.s (r21.1.getD 0 .u).toS, .i (r21.1.getD 1 .u).toI, .b muls] []).bind fun r22 =>
      (call k f_celluloidref07_numbers [.s (r22.1.getD 0 .u).toS, .i (r22.1.getD 1 .u).toI, .i 4, .l L] []).bind fun r23 =>
      bif decide (s.length + (r23.1.getD 0 .u).toS.length ≤ 1099511627776) then some ([PV.s (s ++ (r23.1.getD 0 .u).toS)], ([] : List BX)) else none) ([.s (cxW m a (s, 0)).1], []) := by
  rw [cx_behind]
  unfold cxW
  rw [← ha, ← hm, hL]
  refine qflag_step (w := ([], 0)) WB.zero (by omega) fun hw => ?_
  refine qflag_step hw (by omega) fun hw => ?_
  refine qnums4 hw (by omega) h fun hw => ?_
  exact .yes (by have := hw.2; simp [PV.toS] at this ⊢; omega) (.pure _)
theorem or_ans {b c : Bool} : Ans (fun _ => bif b then some [PV.b true] else some [PV.b c]) [.b (b || c)] := by
  cases b with
  | true => exact .yes rfl (.pure _)
  | false => exact .no rfl (.pure _)
theorem qPutK_ans {s : List UInt8} (hs : s.length ≤ 450000000) {c : I4} (h : rgbaB c = true) : Ans (fun k => call k f_celluloidref07_PutRGBA [.s s, .i c.1, .i c.2.1, .i c.2.2.1, .i c.2.2.2] []) ([.s (putKF s c).1], []) := by
  refine Ans.succ (fun k => u_celluloidref07_PutRGBA k ..) ?_
  have e : (putKF s c).1 = s ++ rgbaS c := by unfold putKF; rw [if_pos h]
  rw [e, rgba_bytes h]
  exact .yes (by simp [rgbaS]; omega) (.pure _)
theorem qRGBA_loop {l : List Int} (hll : l.length ≤ 100) : ∀ (rest pre : List Int), l = pre ++ rest →
    Ans (fun k => run k f_celluloidref07_RGBA [] at_celluloidref07_RGBA_L0 (S_celluloidref07_RGBA_L0 (ints l) l.length pre.length)) ([.b (rest.all (inB2 0 255))], [])
  | [], pre, hp => by
    refine Ans.succ (fun k => u_celluloidref07_RGBA_L0 k ..) ?_
    exact .no (by rw [hp]; simp) (.pure _)
  | v :: rest, pre, hp => by
    refine Ans.succ (fun k => u_celluloidref07_RGBA_L0 k ..) ?_
    have hlen : l.length = pre.length + rest.length + 1 := by rw [hp]; simp; omega
    have hget : l.getD pre.length 0 = v := by rw [hp]; simp [List.getD]
    have e2 : IntKind.wrap .i64 ((pre.length : Int) + 1) = (((pre ++ [v]).length : Nat) : Int) := by rw [wrap64 (by omega) (by omega)]; simp
    have ih := qRGBA_loop hll rest (pre ++ [v]) (by rw [hp]; simp)
    rw [ints_get (by omega), hget, e2]
    simp only [List.getD_cons_zero, PV.toI]
    refine .yes (by simp; omega) (.yes (by unfold inB; simp [ints_length]; omega) (.bind (x := [.b (!inB2 0 255 v)]) ?_ ?_))
    · unfold inB2
      refine .ite (fun h => .pure' ?_) (fun h => .pure' ?_)
      · have : decide (0 ≤ v) = false := by simp at h ⊢; omega
        rw [this]; rfl
      · have h1 : decide (0 ≤ v) = true := by simp at h ⊢; omega
        have h2 : decide (v > 255) = !decide (v ≤ 255) := by
          by_cases c : v ≤ 255
          · rw [decide_eq_true c, decide_eq_false (by omega)]; rfl
          · rw [decide_eq_false c, decide_eq_true (by omega)]; rfl
        rw [h1, h2]; rfl
    · simp only [List.getD_cons_zero, PV.toB]
      refine .ite (fun h => .pure' ?_) (fun h => ?_)
      · have : inB2 0 255 v = false := by simpa using h
        rw [List.all_cons, this]; rfl
      · have : inB2 0 255 v = true := by simpa using h
        rw [List.all_cons, this]; exact ih
theorem qRGBA_ans (c : I4) : Ans (fun k => call k f_celluloidref07_RGBA [.i c.1, .i c.2.1, .i c.2.2.1, .i c.2.2.2] []) ([.b (rgbaB c)], []) :=
  Ans.succ (fun k => u_celluloidref07_RGBA k ..) (qRGBA_loop (l := c.l) (by simp [I4.l]) c.l [] rfl)

end Go.AI
