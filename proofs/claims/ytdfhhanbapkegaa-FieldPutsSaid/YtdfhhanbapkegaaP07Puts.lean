/- Any rectangle, matrix, change and colour is written as the document says, or refused. -/
import Derived.Test.YtdfhhanbapkegaaP07A
import Derived.Test.YtdfhhanbapkegaaP07g
import Derived.Test.YtdfhhanbapkegaaP07i
set_option linter.unusedVariables false
set_option linter.unusedSimpArgs false
set_option maxRecDepth 100000
namespace Go.AI
open Go Go.Proofs

theorem lput_ok' {F : List UInt8 × Int × Int} {s : List UInt8} (h : F = (s, 0, 0)) {γ : Type} {r : γ} {g : Nat → Res → Option γ} (h2 : Ans (fun k => g k ([.b true], [])) r) :
    Ans (fun k => (call k f_celluloidlaw07_put [.s F.1, .i F.2.1, .i F.2.2, .b true, .s F.1] []).bind fun x => g k x) r := by
  subst h; exact .bind (lput_ok s) h2
theorem lput_no' {F : List UInt8 × Int × Int} (h : F = ([], 0, 1)) {γ : Type} {r : γ} {g : Nat → Res → Option γ} (h2 : Ans (fun k => g k ([.b true], [])) r) :
    Ans (fun k => (call k f_celluloidlaw07_put [.s F.1, .i F.2.1, .i F.2.2, .b false, .s []] []).bind fun x => g k x) r := by
  subst h; exact .bind lput_no h2
theorem putRect_no {s l r t b} (h : rectB l r t b = false) : putRectF s l r t b = ([], 0, 1) := by unfold putRectF; rw [h]; rfl
theorem putMat_no {s a b c d x y} (h : matB a b c d x y = false) : putMatF s a b c d x y = ([], 0, 1) := by unfold putMatF; rw [h]; rfl
theorem putCx_no {s : List UInt8} {m a : I4} (h : cxB m.l a.l = false) : putCxF s m a = ([], 0, 1) := by unfold putCxF; rw [h]; rfl
theorem putK_no {s : List UInt8} {c : I4} (h : rgbaB c = false) : putKF s c = ([], 0, 1) := by unfold putKF; rw [h]; rfl
theorem putRect_yes {s l r t b} (h : rectB l r t b = true) : ∃ o, putRectF s l r t b = (o, 0, 0) := by unfold putRectF; rw [h]; exact ⟨_, rfl⟩
theorem putMat_yes {s a b c d x y} (h : matB a b c d x y = true) : ∃ o, putMatF s a b c d x y = (o, 0, 0) := by unfold putMatF; rw [h]; exact ⟨_, rfl⟩
theorem putCx_yes {s : List UInt8} {m a : I4} (h : cxB m.l a.l = true) : ∃ o, putCxF s m a = (o, 0, 0) := by unfold putCxF; rw [h]; exact ⟨_, rfl⟩
theorem putK_yes {s : List UInt8} {c : I4} (h : rgbaB c = true) : ∃ o, putKF s c = (o, 0, 0) := by unfold putKF; rw [h]; exact ⟨_, rfl⟩
theorem FieldPuts_ans (s : List UInt8) (f l r t b a0 b0 c0 d0 x0 y0 : Int) (m a k : I4) : Ans (fun n => call n f_celluloidlaw07_FieldPuts [.s s, .i f, .i l, .i r, .i t, .i b, .i a0, .i b0, .i c0, .i d0, .i x0, .i y0, .i m.1, .i m.2.1, .i m.2.2.1, .i m.2.2.2, .i a.1, .i a.2.1, .i a.2.2.1, .i a.2.2.2, .i k.1, .i k.2.1, .i k.2.2.1, .i k.2.2.2] []) ([.b true], []) := by
  refine Ans.succ (fun k => u_celluloidlaw07_FieldPuts k ..) ?_
  refine .ite (fun h => .bind awake07 (.pure _)) (fun h => ?_)
  have h : ¬ ((s.length : Int) > 1024) := by simpa using h
  have hs : s.length ≤ 45000 := by omega
  refine .bind (putRect_ans hs f l r t b) (.bind (putMat_ans hs f a0 b0 c0 d0 x0 y0) (.bind (putCx_ans hs f m a) (.bind (putK_ans hs f k) ?_)))
  refine .bind (qRect_ans l r t b) (.bind (qMatrix_ans a0 b0 c0 d0 x0 y0) (.bind (qCx_ans m a) (.bind (qRGBA_ans k) ?_)))
  refine .bind (x := [.b false]) (.bind (rightRect_ans l r t b) (.no (by simp) (.bind (rightMatrix_ans a0 b0 c0 d0 x0 y0) (.no (by simp) (.bind (rightCx_ans m a) (.no (by simp) (.bind (rightK_ans k) (.pure' (by simp))))))))) (.no rfl ?_)
  have q1 := fun h => qPutRect_ans hs (l := l) (r := r) (t := t) (b := b) h
  have q2 := fun h => qPutMat_ans hs (a := a0) (b := b0) (c := c0) (d := d0) (x := x0) (y := y0) h
  have q3 := fun h => qPutCx_ans hs (m := m) (a := a) h
  have q4 := fun h => qPutK_ans hs (c := k) h
  have y1 := fun h => putRect_yes (s := s) (l := l) (r := r) (t := t) (b := b) h
  have y2 := fun h => putMat_yes (s := s) (a := a0) (b := b0) (c := c0) (d := d0) (x := x0) (y := y0) h
  have y3 := fun h => putCx_yes (s := s) (m := m) (a := a) h
  have y4 := fun h => putK_yes (s := s) (c := k) h
  have n1 := fun h => putRect_no (s := s) (l := l) (r := r) (t := t) (b := b) h
  have n2 := fun h => putMat_no (s := s) (a := a0) (b := b0) (c := c0) (d := d0) (x := x0) (y := y0) h
  have n3 := fun h => putCx_no (s := s) (m := m) (a := a) h
  have n4 := fun h => putK_no (s := s) (c := k) h
  generalize putRectF s l r t b = F1 at q1 y1 n1 ⊢
  generalize putMatF s a0 b0 c0 d0 x0 y0 = F2 at q2 y2 n2 ⊢
  generalize putCxF s m a = F3 at q3 y3 n3 ⊢
  generalize putKF s k = F4 at q4 y4 n4 ⊢
  generalize rectB l r t b = B1 at q1 y1 n1 ⊢
  generalize matB a0 b0 c0 d0 x0 y0 = B2 at q2 y2 n2 ⊢
  generalize cxB m.l a.l = B3 at q3 y3 n3 ⊢
  generalize rgbaB k = B4 at q4 y4 n4 ⊢
  simp only [encW, List.getD_cons_zero, List.getD_cons_succ, PV.toI, PV.toS, PV.toB]
  refine .bind (x := [.b false]) ?_ (.no rfl (.bind (x := [.b true]) ?_ (.pure _)))
  · cases B1 <;> cases B2 <;> cases B3 <;> cases B4
    all_goals
      first | refine .no rfl ?_ | (refine .yes rfl (.bind (q1 rfl) ?_); obtain ⟨o1, rfl⟩ := y1 rfl; refine .bind (lput_ok o1) (.no rfl ?_))
      first | refine .no rfl ?_ | (refine .yes rfl (.bind (q2 rfl) ?_); obtain ⟨o2, rfl⟩ := y2 rfl; refine .bind (lput_ok o2) (.no rfl ?_))
      first | refine .no rfl ?_ | (refine .yes rfl (.bind (q3 rfl) ?_); obtain ⟨o3, rfl⟩ := y3 rfl; refine .bind (lput_ok o3) (.no rfl ?_))
      first | exact .no rfl (.pure _) | (refine .yes rfl (.bind (q4 rfl) ?_); obtain ⟨o4, rfl⟩ := y4 rfl; exact .bind (lput_ok o4) (.pure _))
  · cases B1 <;> cases B2 <;> cases B3 <;> cases B4
    all_goals
      first | refine .yes rfl ?_ | (cases n1 rfl; refine .no rfl (.bind lput_no (.yes rfl ?_)))
      first | refine .yes rfl ?_ | (cases n2 rfl; refine .no rfl (.bind lput_no (.yes rfl ?_)))
      first | refine .yes rfl ?_ | (cases n3 rfl; refine .no rfl (.bind lput_no (.yes rfl ?_)))
      first | exact .yes rfl (.bind awake07 (.pure _)) | (cases n4 rfl; exact .no rfl (.bind lput_no (.yes rfl (.bind awake07 (.pure _)))))
end Go.AI
