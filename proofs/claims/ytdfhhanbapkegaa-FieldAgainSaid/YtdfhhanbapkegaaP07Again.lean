/- What is taken of any bytes, and written, is taken as the same again, of no more bytes. -/
import Derived.Test.YtdfhhanbapkegaaP07A
import Derived.Test.YtdfhhanbapkegaaP07k
set_option linter.unusedVariables false
set_option linter.unusedSimpArgs false
set_option maxRecDepth 100000
namespace Go.AI
open Go Go.Proofs

theorem begin_zero (s : List UInt8) : beginP s 0 = (s, 0, 0) := by
  have hr : rightB s 0 = true := rightB_iff.2 ⟨by omega, by omega⟩
  unfold beginP alignF
  rw [if_pos hr, if_pos hr]; rfl
theorem self_ext {w : Wt} (hw : WOk w) : WExt w (w.1, 0) := align_ext w.1 w.2
theorem rat0 (w : Wt) : ((w.1, 0, 0) : Rs) = rat (w.1, 0) ([], 0) := rfl
theorem rectA {s : List UInt8} (hs : s.length ≤ 2 ^ 40) (he : (takeRectF (beginP s 0)).2.2.2 = 0) {γ : Type} {r : γ} {g : Nat → List PV → Option γ} (h2 : Ans (fun k => g k [.b false]) r) :
    Ans (fun k => (call k f_field_PutRect [.s [], .i 0, .i (takeRectF (beginP s 0)).1.1, .i (takeRectF (beginP s 0)).1.2.1, .i (takeRectF (beginP s 0)).1.2.2.1, .i (takeRectF (beginP s 0)).1.2.2.2] []).bind fun r5 =>
      (call k f_field_TakeRect [.s (r5.1.getD 0 .u).toS, .i 0] []).bind fun r6 =>
      (bif (r5.1.getD 2 .u).toI != 0 then some [PV.b true]
       else bif (r6.1.getD 6 .u).toI != 0 then some [.b true]
       else bif !((r6.1.getD 0 .u).toI == (takeRectF (beginP s 0)).1.1 && ((r6.1.getD 1 .u).toI == (takeRectF (beginP s 0)).1.2.1 && ((r6.1.getD 2 .u).toI == (takeRectF (beginP s 0)).1.2.2.1 && (r6.1.getD 3 .u).toI == (takeRectF (beginP s 0)).1.2.2.2))) then some [.b true]
       else some [.b (decide (IntKind.wrap .i64 (8 * (((r5.1.getD 0 .u).toS.length : Nat) : Int)) > (takeRectF (beginP s 0)).2.2.1))]).bind fun r7 => g k r7) r := by
  obtain ⟨l, rr, t, b, e1, e2, e3, e4, e5⟩ := rect_val he
  have e6 : (takeRectF (beginP s 0)).2.2.1 = alignF s (tk 5 4 (beginP s 0)).2.2.1 := by rw [e5]; rfl
  rw [e1, e6]
  simp only
  rw [begin_zero] at e3 e4 ⊢
  simp only at e3 e4
  have hw := (nums_ok 5 [l, rr, t, b] ([], 0) (ok_zero [])).1
  have hb := (nums_ok 5 [l, rr, t, b] ([], 0) (ok_zero [])).2.2.2
  have hf := (rectB_fits e2).wl
  simp only [List.length_cons, List.length_nil] at hb
  have hends := ends_ahead (w := rectW l rr t b ([], 0)) hw (s := s) (by omega) e4
  have hback := rect_back (W := ((rectW l rr t b ([], 0)).1, 0)) (ok_zero []) e2 (align_ext _ _)
  have hp := putRect_ans (s := []) (by simp) 0 l rr t b
  have hpe : putRectF [] l rr t b = ((rectW l rr t b ([], 0)).1, 0, 0) := by unfold putRectF; rw [if_pos e2]
  rw [hpe] at hp
  have hlen : (rectW l rr t b ([], 0)).1.length ≤ 200 := by show (nums 5 _ _).1.length ≤ 200; omega
  rw [← rat0] at hback
  generalize rectW l rr t b ([], 0) = w at hends hback hp hlen
  have ht := takeRect_ans (s := w.1) (Nat.le_trans hlen (by decide)) 0
  rw [begin_zero, hback] at ht
  refine .bind hp (.bind ht (.bind (x := [.b false]) ?_ h2))
  simp only [encW, encR, encS, List.cons_append, List.nil_append, List.getD_cons_zero, List.getD_cons_succ, PV.toI, PV.toS]
  rw [wrap64 (by omega) (by omega)]
  exact .no rfl (.no rfl (.no (by simp) (.pure' (by rw [decide_eq_false (by omega)]))))
theorem matA {s : List UInt8} (hs : s.length ≤ 2 ^ 40) (he : (takeMatF (beginP s 0)).2.2.2 = 0) {γ : Type} {r : γ} {g : Nat → List PV → Option γ} (h2 : Ans (fun k => g k [.b false]) r) :
    Ans (fun k => (call k f_field_PutMatrix [.s [], .i 0, .i (takeMatF (beginP s 0)).1.1, .i (takeMatF (beginP s 0)).1.2.1, .i (takeMatF (beginP s 0)).1.2.2.1, .i (takeMatF (beginP s 0)).1.2.2.2.1, .i (takeMatF (beginP s 0)).1.2.2.2.2.1, .i (takeMatF (beginP s 0)).1.2.2.2.2.2] []).bind fun r5 =>
      (call k f_field_TakeMatrix [.s (r5.1.getD 0 .u).toS, .i 0] []).bind fun r6 =>
      (bif (r5.1.getD 2 .u).toI != 0 then some [PV.b true]
       else bif (r6.1.getD 8 .u).toI != 0 then some [.b true]
       else bif !((r6.1.getD 0 .u).toI == (takeMatF (beginP s 0)).1.1 && ((r6.1.getD 1 .u).toI == (takeMatF (beginP s 0)).1.2.1 && ((r6.1.getD 2 .u).toI == (takeMatF (beginP s 0)).1.2.2.1 && ((r6.1.getD 3 .u).toI == (takeMatF (beginP s 0)).1.2.2.2.1 && ((r6.1.getD 4 .u).toI == (takeMatF (beginP s 0)).1.2.2.2.2.1 && (r6.1.getD 5 .u).toI == (takeMatF (beginP s 0)).1.2.2.2.2.2))))) then some [.b true]
       else some [.b (decide (IntKind.wrap .i64 (8 * (((r5.1.getD 0 .u).toS.length : Nat) : Int)) > (takeMatF (beginP s 0)).2.2.1))]).bind fun r7 => g k r7) r := by
  obtain ⟨a, b, c, d, x, y, P, e1, e2, e3, e4, e5⟩ := mat_val he
  have e6 : (takeMatF (beginP s 0)).2.2.1 = alignF s P := by rw [e5]; rfl
  rw [e1, e6]
  simp only
  rw [begin_zero] at e3 e4
  simp only at e3 e4
  have hw := (matW_ok a b c d x y ([], 0) (ok_zero [])).1
  have hends := ends_ahead hw (s := s) (by omega) e4
  have hback := mat_back (W := ((matW a b c d x y ([], 0)).1, 0)) (ok_zero []) e2 (align_ext _ _)
  have hp := putMat_ans (s := []) (by simp) 0 a b c d x y
  have hpe : putMatF [] a b c d x y = ((matW a b c d x y ([], 0)).1, 0, 0) := by unfold putMatF; rw [if_pos e2]
  rw [hpe] at hp
  have hlen : 8 * (matW a b c d x y ([], 0)).1.length ≤ 8 * s.length + 7 := by
    obtain ⟨k1, k2⟩ := hw.len
    omega
  rw [← rat0] at hback
  have hs' : s.length ≤ 1099511627776 := hs
  generalize matW a b c d x y ([], 0) = w at hends hback hp hlen
  have ht := takeMat_ans (s := w.1) (by show _ ≤ 1099511627776; omega) 0
  rw [begin_zero, hback] at ht
  refine .bind hp (.bind ht (.bind (x := [.b false]) ?_ h2))
  simp only [encW, encM, encS, List.cons_append, List.nil_append, List.getD_cons_zero, List.getD_cons_succ, PV.toI, PV.toS]
  rw [wrap64 (by omega) (by omega)]
  exact .no rfl (.no rfl (.no (by simp) (.pure' (by rw [decide_eq_false (by omega)]))))
theorem cxA {s : List UInt8} (hs : s.length ≤ 2 ^ 40) (he : (takeCxF (beginP s 0)).2.2.2.2 = 0) {γ : Type} {r : γ} {g : Nat → List PV → Option γ} (h2 : Ans (fun k => g k [.b false]) r) :
    Ans (fun k => (call k f_field_PutCx [.s [], .i 0, .i (takeCxF (beginP s 0)).1.1, .i (takeCxF (beginP s 0)).1.2.1, .i (takeCxF (beginP s 0)).1.2.2.1, .i (takeCxF (beginP s 0)).1.2.2.2, .i (takeCxF (beginP s 0)).2.1.1, .i (takeCxF (beginP s 0)).2.1.2.1, .i (takeCxF (beginP s 0)).2.1.2.2.1, .i (takeCxF (beginP s 0)).2.1.2.2.2] []).bind fun r5 =>
      (call k f_field_TakeCx [.s (r5.1.getD 0 .u).toS, .i 0] []).bind fun r6 =>
      (bif (r5.1.getD 2 .u).toI != 0 then some [PV.b true]
       else bif (r6.1.getD 10 .u).toI != 0 then some [.b true]
       else bif !((r6.1.getD 0 .u).toI == (takeCxF (beginP s 0)).1.1 && ((r6.1.getD 1 .u).toI == (takeCxF (beginP s 0)).1.2.1 && ((r6.1.getD 2 .u).toI == (takeCxF (beginP s 0)).1.2.2.1 && ((r6.1.getD 3 .u).toI == (takeCxF (beginP s 0)).1.2.2.2 && ((r6.1.getD 4 .u).toI == (takeCxF (beginP s 0)).2.1.1 && ((r6.1.getD 5 .u).toI == (takeCxF (beginP s 0)).2.1.2.1 && ((r6.1.getD 6 .u).toI == (takeCxF (beginP s 0)).2.1.2.2.1 && (r6.1.getD 7 .u).toI == (takeCxF (beginP s 0)).2.1.2.2.2))))))) then some [.b true]
       else some [.b (decide (IntKind.wrap .i64 (8 * (((r5.1.getD 0 .u).toS.length : Nat) : Int)) > (takeCxF (beginP s 0)).2.2.2.1))]).bind fun r7 => g k r7) r := by
  obtain ⟨P, e2, e3, e4, e5⟩ := cx_val he
  have e6 : (takeCxF (beginP s 0)).2.2.2.1 = alignF s P := by rw [e5]; rfl
  rw [e6]
  generalize (takeCxF (beginP s 0)).1 = m at e2 e3 ⊢
  generalize (takeCxF (beginP s 0)).2.1 = a at e2 e3 ⊢
  rw [begin_zero] at e3 e4
  simp only at e3 e4
  have hw := (cxW_ok m a ([], 0) (ok_zero [])).1
  have hends := ends_ahead hw (s := s) (by omega) e4
  have hback := cx_back (W := ((cxW m a ([], 0)).1, 0)) (ok_zero []) e2 (align_ext _ _)
  have hp := putCx_ans (s := []) (by simp) 0 m a
  have hpe : putCxF [] m a = ((cxW m a ([], 0)).1, 0, 0) := by unfold putCxF; rw [if_pos e2]
  rw [hpe] at hp
  have hlen : 8 * (cxW m a ([], 0)).1.length ≤ 8 * s.length + 7 := by
    obtain ⟨k1, k2⟩ := hw.len
    omega
  rw [← rat0] at hback
  have hs' : s.length ≤ 1099511627776 := hs
  generalize cxW m a ([], 0) = w at hends hback hp hlen
  have ht := takeCx_ans (s := w.1) (by show _ ≤ 1099511627776; omega) 0
  rw [begin_zero, hback] at ht
  refine .bind hp (.bind ht (.bind (x := [.b false]) ?_ h2))
  simp only [encW, encC, encI4, encS, List.cons_append, List.nil_append, List.getD_cons_zero, List.getD_cons_succ, PV.toI, PV.toS]
  rw [wrap64 (by omega) (by omega)]
  exact .no rfl (.no rfl (.no (by simp) (.pure' (by rw [decide_eq_false (by omega)]))))
theorem FieldAgain_ans (s : List UInt8) : Ans (fun k => call k f_celluloidlaw07_FieldAgain [.s s] []) ([.b true], []) := by
  refine Ans.succ (fun k => u_celluloidlaw07_FieldAgain k s) ?_
  refine .ite (fun h => .bind awake07 (.pure _)) (fun h => ?_)
  have h : ¬ ((s.length : Int) > 1024) := by simpa using h
  have hs : s.length ≤ 2 ^ 40 := Nat.le_trans (by omega : s.length ≤ 1024) (by decide)
  have h1 := fun he => @rectA s hs he
  have h2 := fun he => @matA s hs he
  have h3 := fun he => @cxA s hs he
  refine .bind (takeRect_ans hs 0) (.bind (takeMat_ans hs 0) (.bind (takeCx_ans hs 0) ?_))
  generalize takeRectF (beginP s 0) = q1 at h1 ⊢
  generalize takeMatF (beginP s 0) = q2 at h2 ⊢
  generalize takeCxF (beginP s 0) = q3 at h3 ⊢
  simp only [encR, encM, encC, encI4, encS, List.cons_append, List.nil_append, List.getD_cons_zero, List.getD_cons_succ]
  refine .ite (fun e => h1 (by simpa [PV.toI] using e) (.no rfl ?_)) (fun _ => ?_)
  · refine .ite (fun e => h2 (by simpa [PV.toI] using e) (.no rfl ?_)) (fun _ => ?_)
    · exact .ite (fun e => h3 (by simpa [PV.toI] using e) (.no rfl (.bind awake07 (.pure _)))) (fun _ => .bind awake07 (.pure _))
    · exact .ite (fun e => h3 (by simpa [PV.toI] using e) (.no rfl (.bind awake07 (.pure _)))) (fun _ => .bind awake07 (.pure _))
  · refine .ite (fun e => h2 (by simpa [PV.toI] using e) (.no rfl ?_)) (fun _ => ?_)
    · exact .ite (fun e => h3 (by simpa [PV.toI] using e) (.no rfl (.bind awake07 (.pure _)))) (fun _ => .bind awake07 (.pure _))
    · exact .ite (fun e => h3 (by simpa [PV.toI] using e) (.no rfl (.bind awake07 (.pure _)))) (fun _ => .bind awake07 (.pure _))
end Go.AI
