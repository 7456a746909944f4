/- What is written, one behind the other, is taken back, in its order. -/
import Derived.Test.YtdfhhanbapkegaaP07A
import Derived.Test.YtdfhhanbapkegaaP07j
set_option linter.unusedVariables false
set_option linter.unusedSimpArgs false
set_option maxRecDepth 100000
namespace Go.AI
open Go Go.Proofs

theorem FieldBack_ans (l r t b a0 b0 c0 d0 x0 y0 : Int) (m a k : I4) : Ans (fun n => call n f_celluloidlaw07_FieldBack [.i l, .i r, .i t, .i b, .i a0, .i b0, .i c0, .i d0, .i x0, .i y0, .i m.1, .i m.2.1, .i m.2.2.1, .i m.2.2.2, .i a.1, .i a.2.1, .i a.2.2.1, .i a.2.2.2, .i k.1, .i k.2.1, .i k.2.2.1, .i k.2.2.2] []) ([.b true], []) := by
  refine Ans.succ (fun k => u_celluloidlaw07_FieldBack k ..) ?_
  refine .bind (putRect_ans (s := []) (by simp) 0 l r t b) ?_
  have b1 : (putRectF [] l r t b).1.length ≤ 200 ∧ (rectB l r t b = true → (putRectF [] l r t b).1 = (rectW l r t b ([], 0)).1) := by
    unfold putRectF
    refine ⟨?_, fun h => by rw [if_pos h]⟩
    split
    · rename_i h
      have hw := (rectB_fits h).wl
      have := (nums_ok 5 [l, r, t, b] ([], 0) (ok_zero [])).2.2.2
      simp only [List.length_cons, List.length_nil] at this
      show (nums 5 [l, r, t, b] ([], 0)).1.length ≤ 200
      omega
    · exact Nat.zero_le _
  have c1 : (putRectF [] l r t b).2.2 = if rectB l r t b = true then 0 else 1 := by unfold putRectF; split <;> rfl
  have d1 : (putRectF [] l r t b).2.1 = 0 := by unfold putRectF; split <;> rfl
  simp only [encW, List.getD_cons_zero, List.getD_cons_succ, PV.toI, PV.toS, PV.toB]
  rw [c1, d1]
  generalize (putRectF [] l r t b).1 = s1 at b1 ⊢
  refine .bind (putMat_ans (s := s1) (by omega) 0 a0 b0 c0 d0 x0 y0) ?_
  have b2 : (putMatF s1 a0 b0 c0 d0 x0 y0).1.length ≤ 500 ∧ (matB a0 b0 c0 d0 x0 y0 = true → (putMatF s1 a0 b0 c0 d0 x0 y0).1 = (matW a0 b0 c0 d0 x0 y0 (s1, 0)).1) := by
    unfold putMatF
    refine ⟨?_, fun h => by rw [if_pos h]⟩
    split
    · rename_i h
      obtain ⟨f1, f2, f3⟩ := matB_fits h
      have w1 := f1.wl; have w2 := f2.wl; have w3 := f3.wl
      unfold matW
      generalize (a0 != 65536 || d0 != 65536) = p
      generalize (b0 != 0 || c0 != 0) = q
      obtain ⟨o1, _, _, l1⟩ := flagW_ok p (s1, 0) (ok_zero s1)
      obtain ⟨o2, _, _, l2⟩ := optW_ok p [a0, d0] _ o1
      obtain ⟨o3, _, _, l3⟩ := flagW_ok q _ o2
      obtain ⟨o4, _, _, l4⟩ := optW_ok q [b0, c0] _ o3
      obtain ⟨o5, _, _, l5⟩ := nums_ok 5 [x0, y0] _ o4
      simp only [List.length_cons, List.length_nil] at l1 l2 l3 l4 l5
      show (nums 5 _ _).1.length ≤ _
      omega
    · exact Nat.zero_le _
  have c2 : (putMatF s1 a0 b0 c0 d0 x0 y0).2.2 = if matB a0 b0 c0 d0 x0 y0 = true then 0 else 1 := by unfold putMatF; split <;> rfl
  have d2 : (putMatF s1 a0 b0 c0 d0 x0 y0).2.1 = 0 := by unfold putMatF; split <;> rfl
  simp only [encW, List.getD_cons_zero, List.getD_cons_succ, PV.toI, PV.toS, PV.toB]
  rw [c2, d2]
  generalize (putMatF s1 a0 b0 c0 d0 x0 y0).1 = s2 at b2 ⊢
  refine .bind (putCx_ans (s := s2) (by omega) 0 m a) ?_
  have b3 : (putCxF s2 m a).1.length ≤ 1000 ∧ (cxB m.l a.l = true → (putCxF s2 m a).1 = (cxW m a (s2, 0)).1) := by
    unfold putCxF
    refine ⟨?_, fun h => by rw [if_pos h]⟩
    split
    · rename_i h
      have w1 := cx_wl h
      have hl := cxL_len m a
      unfold cxW
      obtain ⟨o1, _, _, l1⟩ := flagW_ok (!zeroI a) (s2, 0) (ok_zero s2)
      obtain ⟨o2, _, _, l2⟩ := flagW_ok (!fullI m) _ o1
      obtain ⟨o3, _, _, l3⟩ := nums_ok 4 (cxL m a) _ o2
      have hm : WL (cxL m a) * (cxL m a).length ≤ 11 * 8 := Nat.mul_le_mul w1 hl
      simp only at l1
      show (nums 4 _ _).1.length ≤ _
      omega
    · exact Nat.zero_le _
  have c3 : (putCxF s2 m a).2.2 = if cxB m.l a.l = true then 0 else 1 := by unfold putCxF; split <;> rfl
  have d3 : (putCxF s2 m a).2.1 = 0 := by unfold putCxF; split <;> rfl
  simp only [encW, List.getD_cons_zero, List.getD_cons_succ, PV.toI, PV.toS, PV.toB]
  rw [c3, d3]
  generalize (putCxF s2 m a).1 = s3 at b3 ⊢
  refine .bind (putK_ans (s := s3) (by omega) 0 k) ?_
  have b4 : rgbaB k = true → (putKF s3 k).1 = s3 ++ rgbaS k := fun h => by unfold putKF; rw [if_pos h]
  have c4 : (putKF s3 k).2.2 = if rgbaB k = true then 0 else 1 := by unfold putKF; split <;> rfl
  simp only [encW, List.getD_cons_zero, List.getD_cons_succ, PV.toI, PV.toS, PV.toB]
  rw [c4]
  generalize (putKF s3 k).1 = s4 at b4 ⊢
  refine .bind (x := [.b (!(rectB l r t b && (matB a0 b0 c0 d0 x0 y0 && (cxB m.l a.l && rgbaB k))))]) ?_ ?_
  · cases rectB l r t b
    · exact .yes rfl (.pure _)
    · refine .no rfl ?_
      cases matB a0 b0 c0 d0 x0 y0
      · exact .yes rfl (.pure _)
      · refine .no rfl ?_
        cases cxB m.l a.l
        · exact .yes rfl (.pure _)
        · refine .no rfl ?_
          cases rgbaB k <;> exact .pure _
  · refine .ite (fun _ => .bind awake07 (.pure _)) (fun h => ?_)
    have h : (rectB l r t b && (matB a0 b0 c0 d0 x0 y0 && (cxB m.l a.l && rgbaB k))) = true := by simpa using h
    simp only [Bool.and_eq_true] at h
    obtain ⟨h1, h2, h3, h4⟩ := h
    obtain rfl := b4 h4
    have g1 := b1.2 h1
    have g2 := b2.2 h2
    have g3 := b3.2 h3
    obtain ⟨W, hW⟩ : ∃ W : Wt, W = (s3 ++ rgbaS k, 0) := ⟨_, rfl⟩
    have hs4 : s3 ++ rgbaS k = W.1 := by rw [hW]
    have hl4 : W.1.length ≤ 2 ^ 40 := by rw [hW]; have : (rgbaS k).length = 4 := rfl; show (s3 ++ rgbaS k).length ≤ 1099511627776; rw [List.length_append]; omega
    have x3 : WExt (s3, 0) W := by rw [hW]; exact append_ext s3 _ 0
    have x3' : WExt (cxW m a (s2, 0)) W := by
      refine WExt.trans ?_ x3
      rw [g3]; exact align_ext _ _
    have x2 : WExt (s2, 0) W := (cxW_ok m a (s2, 0) (ok_zero _)).2.trans x3'
    have x2' : WExt (matW a0 b0 c0 d0 x0 y0 (s1, 0)) W := by
      refine WExt.trans ?_ x2
      rw [g2]; exact align_ext _ _
    have x1 : WExt (s1, 0) W := (matW_ok a0 b0 c0 d0 x0 y0 (s1, 0) (ok_zero _)).2.trans x2'
    have x1' : WExt (rectW l r t b ([], 0)) W := by
      refine WExt.trans ?_ x1
      rw [g1]; exact align_ext _ _
    have x0' : WExt ([], 0) W := (nums_ok 5 [l, r, t, b] ([], 0) (ok_zero [])).2.1.trans x1'
    have t1 : takeRectF (beginP W.1 0) = ((l, r, t, b), (W.1, ((8 * s1.length : Nat) : Int), 0)) := by
      have := begin_back x0'
      simp only [List.length_nil, Nat.mul_zero] at this
      rw [show ((0 : Nat) : Int) = 0 from rfl] at this
      rw [this, rect_back (ok_zero []) h1 x1', g1]
    have t2 : takeMatF (beginP W.1 ((8 * s1.length : Nat) : Int)) = ((a0, b0, c0, d0, x0, y0), (W.1, ((8 * s2.length : Nat) : Int), 0)) := by
      rw [begin_back x1, mat_back (ok_zero _) h2 x2', g2]
    have t3 : takeCxF (beginP W.1 ((8 * s2.length : Nat) : Int)) = (m, a, (W.1, ((8 * s3.length : Nat) : Int), 0)) := by
      rw [begin_back x2, cx_back (ok_zero _) h3 x3', g3]
    have t4 : takeKF W.1 ((8 * s3.length : Nat) : Int) = (k, (W.1, ((8 * W.1.length : Nat) : Int), 0)) := by
      have := k_back (s := s3) (t := []) h4
      rw [List.append_nil, hs4] at this
      exact this
    rw [hs4]
    have a1 := takeRect_ans hl4 0
    rw [t1] at a1
    refine .bind a1 ?_
    have a2 := takeMat_ans hl4 ((8 * s1.length : Nat) : Int)
    rw [t2] at a2
    refine .bind a2 ?_
    have a3 := takeCx_ans hl4 ((8 * s2.length : Nat) : Int)
    rw [t3] at a3
    refine .bind a3 ?_
    have a4 := takeK_ans hl4 ((8 * s3.length : Nat) : Int)
    rw [t4] at a4
    refine .bind a4 ?_
    clear hW
    have hl5 : W.1.length ≤ 1099511627776 := hl4
    simp only [encR, encM, encC, encK, encI4, encS, List.cons_append, List.nil_append, List.getD_cons_zero, List.getD_cons_succ, PV.toI, PV.toS, PV.toB]
    rw [wrap64 (by omega) (by omega)]
    refine .bind (x := [.b true]) ?_ (.pure _)
    repeat refine .yes (by simp) ?_
    exact .bind awake07 (.pure _)
end Go.AI
