/- What is taken, and how many bits were read for it. -/
import Derived.Test.YtnbmjpdiibandaaP07j
set_option linter.unusedVariables false
set_option linter.unusedSimpArgs false
set_option maxRecDepth 100000
namespace Go.AI
open Go Go.Proofs

theorem pl_val {σ : Rs} {n : Int} (h : (pl σ n).2.2.2 = 0) : σ.2.2 = 0 ∧ 0 ≤ σ.2.1 ∧ ∃ N v : Nat, n = N ∧ N ≤ 31 ∧ v < 2 ^ N ∧ σ.2.1 + N ≤ 8 * (σ.1.length : Int) ∧ pl σ n = ((v : Int), (σ.1, σ.2.1 + N, 0)) := by
  by_cases he : σ.2.2 = 0
  · have e : pl σ n = plainF σ.1 σ.2.1 n := by unfold pl; rw [if_neg (by rw [he]; decide)]
    rw [e] at h ⊢
    rcases plainF_cases σ.1 σ.2.1 n with q | q | ⟨a, N, h1, h2, h3, h4, q⟩
    · rw [q] at h; simp at h
    · rw [q] at h; simp at h
    · refine ⟨he, by omega, N, fieldN σ.1 a N, h2, h3, fieldN_lt _ _ _, by omega, ?_⟩
      rw [q, h1]; rfl
  · have e : pl σ n = (0, σ) := by unfold pl; rw [if_pos he]
    rw [e] at h; exact absurd h he
theorem sg_val {σ : Rs} {n : Int} (h : (sg σ n).2.2.2 = 0) : σ.2.2 = 0 ∧ 0 ≤ σ.2.1 ∧ ∃ N : Nat, n = N ∧ N ≤ 31 ∧ widthN (sg σ n).1 ≤ N ∧ σ.2.1 + N ≤ 8 * (σ.1.length : Int) ∧ (sg σ n).2 = (σ.1, σ.2.1 + N, 0) := by
  by_cases he : σ.2.2 = 0
  · have e : sg σ n = signedF σ.1 σ.2.1 n := by unfold sg; rw [if_neg (by rw [he]; decide)]
    rw [e] at h ⊢
    rcases plainF_cases σ.1 σ.2.1 n with q | q | ⟨a, N, h1, h2, h3, h4, q⟩
    · unfold signedF at h; rw [q] at h; simp at h
    · unfold signedF at h; rw [q] at h; simp at h
    · refine ⟨he, by omega, N, h2, h3, ?_, by omega, ?_⟩
      · unfold signedF
        rw [q, h2]
        simp only [true_and, Int.toNat_natCast]
        have hlt := fieldN_lt σ.1 a N
        generalize fieldN σ.1 a N = u at hlt ⊢
        cases N with
        | zero =>
          have : u = 0 := by simp at hlt; omega
          subst this
          simp [widthN_zero]
        | succ N =>
          refine widthN_abs (by omega) ?_
          rw [Nat.add_sub_cancel]
          have hp : (2 : Int) ^ (N + 1) = 2 * ((2 ^ N : Nat) : Int) := by rw [Int.pow_succ]; simp; omega
          have hq : (2 : Nat) ^ (N + 1) = 2 * 2 ^ N := by rw [Nat.pow_succ]; omega
          rw [hp]
          rw [hq] at hlt
          generalize 2 ^ N = p at hlt ⊢
          split <;> omega
      · unfold signedF
        rw [q, h1]; rfl
  · have e : sg σ n = (0, σ) := by unfold sg; rw [if_pos he]
    rw [e] at h; exact absurd h he
theorem sgs_val {n : Int} : ∀ (m : Nat) (σ : Rs), (sgs n m σ).2.2.2 = 0 → σ.2.2 = 0 ∧ (sgs n m σ).2 = (σ.1, σ.2.1 + n * m, 0) ∧ (∀ v, v ∈ (sgs n m σ).1 → (widthN v : Int) ≤ n) ∧ (0 < m → 0 ≤ n ∧ n ≤ 31 ∧ σ.2.1 + n * m ≤ 8 * (σ.1.length : Int))
  | 0, σ, h => by
    refine ⟨h, ?_, (fun v hv => nomatch hv), (fun h => absurd h (by decide))⟩
    have h : σ.2.2 = 0 := h
    show σ = _
    refine Prod.ext rfl (Prod.ext ?_ h)
    show σ.2.1 = σ.2.1 + n * 0
    omega
  | m + 1, σ, h => by
    simp only [sgs] at h ⊢
    obtain ⟨a, b, c, d⟩ := sgs_val m (sg σ n).2 h
    obtain ⟨e, _, N, g1, g2, g3, g4, g5⟩ := sg_val a
    rw [g5] at b d
    simp only at b d
    have hmul : n * ((m + 1 : Nat) : Int) = n + n * m := by rw [Int.natCast_succ, Int.mul_add, Int.mul_one, Int.add_comm]
    refine ⟨e, ?_, ?_, ?_⟩
    · rw [g5, b, hmul]
      refine Prod.ext rfl (Prod.ext ?_ rfl)
      show σ.2.1 + N + n * m = σ.2.1 + (n + n * m)
      omega
    · intro v hv
      rcases List.mem_cons.1 hv with rfl | hv
      · omega
      · exact c v hv
    · intro _
      refine ⟨by omega, by omega, ?_⟩
      cases m with
      | zero => simp at hmul ⊢; omega
      | succ m => have := (d (by omega)).2.2; omega
theorem tk_val {h : Int} {m : Nat} (hm : 0 < m) {σ : Rs} (he : (tk h m σ).2.2.2 = 0) : σ.2.2 = 0 ∧ 0 ≤ σ.2.1 ∧ ∃ H W : Nat, h = H ∧ WL (tk h m σ).1 ≤ W ∧ W ≤ 31 ∧ (tk h m σ).2 = (σ.1, σ.2.1 + H + W * m, 0) ∧ σ.2.1 + H + W * m ≤ 8 * (σ.1.length : Int) := by
  unfold tk at he ⊢
  obtain ⟨a, b, c, d⟩ := sgs_val m _ he
  obtain ⟨e, e0, N, v, g1, g2, g3, g4, g5⟩ := pl_val a
  rw [g5] at b c d
  obtain ⟨d1, d2, d3⟩ := d hm
  refine ⟨e, e0, N, v, g1, WL_bound fun u hu => ?_, by simp only at d2; omega, ?_, d3⟩
  · have := c u (by rw [g5] at hu; exact hu)
    simp only at this; omega
  · rw [g5]; exact b
theorem done_val {σ : Rs} {ok : Bool} (h : (doneF σ ok).2.2 = 0) : σ.2.2 = 0 ∧ ok = true ∧ doneF σ ok = (σ.1, alignF σ.1 σ.2.1, 0) := by
  unfold doneF at h ⊢
  by_cases he : σ.2.2 = 0
  · rw [if_neg (by rw [he]; decide)] at h ⊢
    cases ok with
    | true => exact ⟨he, rfl, rfl⟩
    | false => rw [if_pos rfl] at h; simp at h
  · rw [if_pos he] at h; exact absurd h he
/-- a writer of fewer bits ends ahead of where the reader is -/
theorem ends_ahead {w : Wt} (hw : WOk w) {s : List UInt8} {p : Int} (h : (wl w : Int) ≤ p) (h2 : p ≤ 8 * (s.length : Int)) : 8 * (w.1.length : Int) ≤ alignF s p := by
  obtain ⟨e1, e2⟩ := hw.len
  unfold alignF
  rw [if_pos (rightB_iff.2 ⟨by omega, h2⟩)]
  omega

theorem list4 {l : List Int} (h : l.length = 4) : l = [l.getD 0 0, l.getD 1 0, l.getD 2 0, l.getD 3 0] := by
  match l, h with
  | [a, b, c, d], _ => rfl
theorem list2 {l : List Int} (h : l.length = 2) : l = [l.getD 0 0, l.getD 1 0] := by
  match l, h with
  | [a, b], _ => rfl
theorem rect_val {σ : Rs} (h : (takeRectF σ).2.2.2 = 0) : ∃ l r t b : Int, (takeRectF σ).1 = (l, r, t, b) ∧ rectB l r t b = true ∧ ((wl (rectW l r t b ([], 0)) : Nat) : Int) + σ.2.1 ≤ (tk 5 4 σ).2.2.1 ∧ (tk 5 4 σ).2.2.1 ≤ 8 * (σ.1.length : Int) ∧ (takeRectF σ).2 = (σ.1, alignF σ.1 (tk 5 4 σ).2.2.1, 0) := by
  unfold takeRectF at h ⊢
  have hl := list4 (tk_length 5 4 σ)
  simp only at h ⊢
  have e : ((doneF (tk 5 4 σ).2 (rectB ((tk 5 4 σ).1.getD 0 0) ((tk 5 4 σ).1.getD 1 0) ((tk 5 4 σ).1.getD 2 0) ((tk 5 4 σ).1.getD 3 0)))).2.2 = 0 := by
    split at h <;> exact h
  rw [if_neg (by rw [e]; decide)] at h ⊢
  obtain ⟨e1, e2, e3⟩ := done_val e
  obtain ⟨f1, f2, H, W, g1, g2, g3, g4, g5⟩ := tk_val (by decide) e1
  refine ⟨_, _, _, _, rfl, e2, ?_, ?_, ?_⟩
  · have := (nums_ok 5 [(tk 5 4 σ).1.getD 0 0, (tk 5 4 σ).1.getD 1 0, (tk 5 4 σ).1.getD 2 0, (tk 5 4 σ).1.getD 3 0] ([], 0) (ok_zero [])).2.2.1
    rw [← hl] at this
    unfold rectW
    rw [← hl, this, g4, tk_length]
    have e0 : wl (([], 0) : Wt) = 0 := rfl
    rw [e0]
    simp only
    have : WL (tk 5 4 σ).1 * 4 ≤ W * 4 := Nat.mul_le_mul_right _ g2
    omega
  · rw [g4]; exact g5
  · rw [e3, g4]

theorem opt_val {ρ : Rs} {da db : Int} (h : (opt2 (pl ρ 1) da db).2.2.2 = 0) {w : Wt} (hw : WOk w) :
    ρ.2.2 = 0 ∧ (opt2 (pl ρ 1) da db).2.1 = ρ.1 ∧ wl (optW ((opt2 (pl ρ 1) da db).1.1 != da || (opt2 (pl ρ 1) da db).1.2 != db) [(opt2 (pl ρ 1) da db).1.1, (opt2 (pl ρ 1) da db).1.2] w) + ρ.2.1 + 1 ≤ wl w + (opt2 (pl ρ 1) da db).2.2.1 := by
  by_cases hc : (pl ρ 1).1 = 1
  · have e : opt2 (pl ρ 1) da db = two (pl ρ 1).2 := by unfold opt2; rw [if_pos hc]; rfl
    rw [e] at h ⊢
    have h' : (tk 5 2 (pl ρ 1).2).2.2.2 = 0 := h
    obtain ⟨f1, f2, H, W, g1, g2, g3, g4, g5⟩ := tk_val (by decide) h'
    obtain ⟨k1, k2, N, v, k3, k4, k5, k6, k7⟩ := pl_val f1
    have e1 : (two (pl ρ 1).2).1.1 = (tk 5 2 (pl ρ 1).2).1.getD 0 0 := rfl
    have e2 : (two (pl ρ 1).2).1.2 = (tk 5 2 (pl ρ 1).2).1.getD 1 0 := rfl
    have e3 : (two (pl ρ 1).2).2 = (tk 5 2 (pl ρ 1).2).2 := rfl
    have hl := list2 (tk_length 5 2 (pl ρ 1).2)
    rw [e1, e2, e3, ← hl]
    refine ⟨k1, by rw [g4, k7], ?_⟩
    have ho := (optW_ok ((tk 5 2 (pl ρ 1).2).1.getD 0 0 != da || (tk 5 2 (pl ρ 1).2).1.getD 1 0 != db) (tk 5 2 (pl ρ 1).2).1 w hw).2.2.1
    rw [tk_length] at ho
    have hm : WL (tk 5 2 (pl ρ 1).2).1 * 2 ≤ W * 2 := Nat.mul_le_mul_right _ g2
    have hr : (pl ρ 1).2.2.1 = ρ.2.1 + N := by rw [k7]
    rw [ho, g4]
    simp only
    split <;> omega
  · have e : opt2 (pl ρ 1) da db = ((da, db), (pl ρ 1).2) := by unfold opt2; rw [if_neg hc]
    rw [e] at h ⊢
    obtain ⟨k1, k2, N, v, k3, k4, k5, k6, k7⟩ := pl_val h
    refine ⟨k1, by rw [k7], ?_⟩
    have hr : (pl ρ 1).2.2.1 = ρ.2.1 + N := by rw [k7]
    have hb : (da != da || db != db) = false := by simp
    simp only
    rw [hb, hr]
    unfold optW
    rw [if_neg (by decide)]
    omega
theorem mat_val {σ : Rs} (h : (takeMatF σ).2.2.2 = 0) : ∃ a b c d x y P : Int, (takeMatF σ).1 = (a, b, c, d, x, y) ∧ matB a b c d x y = true ∧ ((wl (matW a b c d x y ([], 0)) : Nat) : Int) + σ.2.1 ≤ P ∧ P ≤ 8 * (σ.1.length : Int) ∧ (takeMatF σ).2 = (σ.1, alignF σ.1 P, 0) := by
  unfold takeMatF at h ⊢
  obtain ⟨p, hp⟩ : ∃ p, p = opt2 (pl σ 1) 65536 65536 := ⟨_, rfl⟩
  have vp := fun (h : (opt2 (pl σ 1) 65536 65536).2.2.2 = 0) {w : Wt} (hw : WOk w) => opt_val h hw
  rw [← hp] at h vp ⊢
  obtain ⟨q, hq⟩ : ∃ q, q = opt2 (pl p.2 1) 0 0 := ⟨_, rfl⟩
  have vq := fun (h : (opt2 (pl p.2 1) 0 0).2.2.2 = 0) {w : Wt} (hw : WOk w) => opt_val h hw
  rw [← hq] at h vq ⊢
  unfold finM at h ⊢
  have hl := list2 (tk_length 5 2 q.2)
  have t1 : (two q.2).1.1 = (tk 5 2 q.2).1.getD 0 0 := rfl
  have t2 : (two q.2).1.2 = (tk 5 2 q.2).1.getD 1 0 := rfl
  have t3 : (two q.2).2 = (tk 5 2 q.2).2 := rfl
  rw [← t1, ← t2] at hl
  simp only at h ⊢
  have e : ((doneF (two q.2).2 (matB p.1.1 q.1.1 q.1.2 p.1.2 (two q.2).1.1 (two q.2).1.2))).2.2 = 0 := by
    split at h <;> exact h
  rw [if_neg (by rw [e]; decide)] at h ⊢
  obtain ⟨e1, e2, e3⟩ := done_val e
  rw [t3] at e1
  obtain ⟨f1, f2, H, W, g1, g2, g3, g4, g5⟩ := tk_val (by decide) e1
  have o0 : WOk (([], 0) : Wt) := ok_zero []
  obtain ⟨o1, _, w1, _⟩ := flagW_ok (p.1.1 != 65536 || p.1.2 != 65536) _ o0
  obtain ⟨o2, _⟩ := optW_ok (p.1.1 != 65536 || p.1.2 != 65536) [p.1.1, p.1.2] _ o1
  obtain ⟨o3, _, w3, _⟩ := flagW_ok (q.1.1 != 0 || q.1.2 != 0) _ o2
  obtain ⟨o4, _⟩ := optW_ok (q.1.1 != 0 || q.1.2 != 0) [q.1.1, q.1.2] _ o3
  obtain ⟨q1, q2, q3⟩ := vq f1 o3
  obtain ⟨p1, p2, p3⟩ := vp q1 o1
  refine ⟨_, _, _, _, _, _, (tk 5 2 q.2).2.2.1, rfl, e2, ?_, ?_, ?_⟩
  · have w5 := (nums_ok 5 [(two q.2).1.1, (two q.2).1.2] _ o4).2.2.1
    rw [← hl, tk_length] at w5
    have hm : WL (tk 5 2 q.2).1 * 2 ≤ W * 2 := Nat.mul_le_mul_right _ g2
    unfold matW
    rw [← hl, w5, g4]
    simp only
    have e0 : wl (([], 0) : Wt) = 0 := rfl
    rw [e0] at w1
    omega
  · rw [g4]
    rw [q2, p2] at g5
    exact g5
  · rw [e3, t3, g4]
    simp only
    rw [q2, p2]
theorem four_val {c : Bool} {n : Int} {d : I4} {σ : Rs} (h : (four c n d σ).2.2.2 = 0) : σ.2.2 = 0 ∧ (four c n d σ).2 = (σ.1, σ.2.1 + n * (if c = true then 4 else 0), 0) ∧ (c = false → (four c n d σ).1 = d) ∧ (c = true → 0 ≤ n ∧ σ.2.1 + n * 4 ≤ 8 * (σ.1.length : Int) ∧ ∀ v, v ∈ (four c n d σ).1.l → (widthN v : Int) ≤ n) := by
  cases c with
  | true =>
    have e : four true n d σ = (((sgs n 4 σ).1.getD 0 0, (sgs n 4 σ).1.getD 1 0, (sgs n 4 σ).1.getD 2 0, (sgs n 4 σ).1.getD 3 0), (sgs n 4 σ).2) := rfl
    rw [e] at h ⊢
    have hl := list4 (sgs_length n 4 σ)
    have hv := sgs_val (n := n) 4 σ
    generalize sgs n 4 σ = S at h hl hv ⊢
    obtain ⟨a, b, c, d⟩ := hv h
    refine ⟨a, ?_, fun h => by (cases h), fun _ => ⟨(d (by decide)).1, (d (by decide)).2.2, fun v hv => c v ?_⟩⟩
    · rw [b, if_pos rfl]; rfl
    · rw [hl]; exact hv
  | false =>
    refine ⟨h, ?_, fun _ => rfl, fun h => by (cases h)⟩
    have h : σ.2.2 = 0 := h
    show σ = _
    refine Prod.ext rfl (Prod.ext ?_ h)
    rw [if_neg (by decide)]
    show σ.2.1 = σ.2.1 + n * 0
    omega
theorem cx_val {σ : Rs} (h : (takeCxF σ).2.2.2.2 = 0) : ∃ P : Int, cxB (takeCxF σ).1.l (takeCxF σ).2.1.l = true ∧ ((wl (cxW (takeCxF σ).1 (takeCxF σ).2.1 ([], 0)) : Nat) : Int) + σ.2.1 ≤ P ∧ P ≤ 8 * (σ.1.length : Int) ∧ (takeCxF σ).2.2 = (σ.1, alignF σ.1 P, 0) := by
  unfold takeCxF cxOf at h ⊢
  generalize hb1 : ((pl σ 1).1 == 1) = adds at h ⊢
  generalize hb2 : ((pl (pl σ 1).2 1).1 == 1) = muls at h ⊢
  obtain ⟨τ, hτ⟩ : ∃ τ, τ = pl (pl (pl σ 1).2 1).2 4 := ⟨_, rfl⟩
  rw [← hτ] at h ⊢
  obtain ⟨M, hM⟩ : ∃ M, M = four muls τ.1 (256, 256, 256, 256) τ.2 := ⟨_, rfl⟩
  rw [← hM] at h ⊢
  obtain ⟨A, hA⟩ : ∃ A, A = four adds τ.1 (0, 0, 0, 0) M.2 := ⟨_, rfl⟩
  rw [← hA] at h ⊢
  unfold finCx at h ⊢
  have e : (doneF A.2 (cxB M.1.l A.1.l)).2.2 = 0 := by
    split at h <;> exact h
  rw [if_neg (by rw [e]; decide)] at h ⊢
  obtain ⟨e1, e2, e3⟩ := done_val e
  have fa := four_val (c := adds) (n := τ.1) (d := (0, 0, 0, 0)) (σ := M.2) (by rw [← hA]; exact e1)
  rw [← hA] at fa
  obtain ⟨a1, a2, a3, a4⟩ := fa
  have fm := four_val (c := muls) (n := τ.1) (d := (256, 256, 256, 256)) (σ := τ.2) (by rw [← hM]; exact a1)
  rw [← hM] at fm
  obtain ⟨m1, m2, m3, m4⟩ := fm
  have k := pl_val (σ := (pl (pl σ 1).2 1).2) (n := 4) (by rw [← hτ]; exact m1)
  rw [← hτ] at k
  obtain ⟨k1, k2, N4, n, k3, _, _, k5, k6⟩ := k
  obtain ⟨j1, j2, N1, v1, j3, _, _, j5, j6⟩ := pl_val k1
  obtain ⟨i1, i2, N0, v0, i3, _, _, i5, i6⟩ := pl_val j1
  have hτ1 : τ.1 = (n : Int) := by rw [k6]
  have hτ2 : τ.2 = (σ.1, σ.2.1 + N0 + N1 + N4, 0) := by rw [k6, j6, i6]
  have hk5 : σ.2.1 + N0 + N1 + N4 ≤ 8 * (σ.1.length : Int) := by rw [j6, i6] at k5; exact k5
  rw [hτ1] at m2 m4 a2 a4
  rw [hτ2] at m2 m4
  simp only at m2 m4
  rw [m2] at a2 a4
  simp only at a2 a4
  have hL : ∀ v, v ∈ cxL M.1 A.1 → widthN v ≤ n := by
    intro v hv
    unfold cxL at hv
    rcases List.mem_append.1 hv with hv | hv
    · cases muls with
      | true => split at hv
                · cases hv
                · have := (m4 rfl).2.2 v hv; omega
      | false => rw [m3 rfl, if_pos (by decide)] at hv; cases hv
    · cases adds with
      | true => split at hv
                · cases hv
                · have := (a4 rfl).2.2 v hv; omega
      | false => rw [a3 rfl, if_pos (by decide)] at hv; cases hv
  have hlen : ((cxL M.1 A.1).length : Int) ≤ (if muls = true then 4 else 0) + (if adds = true then 4 else 0) := by
    unfold cxL
    rw [List.length_append]
    have h1 : (((if fullI M.1 = true then [] else M.1.l).length : Nat) : Int) ≤ if muls = true then 4 else 0 := by
      cases muls with
      | true => split <;> simp [I4.l]
      | false => rw [m3 rfl, if_pos (by decide)]; simp
    have h2 : (((if zeroI A.1 = true then [] else A.1.l).length : Nat) : Int) ≤ if adds = true then 4 else 0 := by
      cases adds with
      | true => split <;> simp [I4.l]
      | false => rw [a3 rfl, if_pos (by decide)]; simp
    omega
  have hWL : WL (cxL M.1 A.1) ≤ n := WL_bound hL
  obtain ⟨o1, _, w1, _⟩ := flagW_ok (!zeroI A.1) ([], 0) (ok_zero [])
  obtain ⟨o2, _, w2, _⟩ := flagW_ok (!fullI M.1) _ o1
  have w3 := (nums_ok 4 (cxL M.1 A.1) _ o2).2.2.1
  have e0 : wl (([], 0) : Wt) = 0 := rfl
  rw [e0] at w1
  have hmul : WL (cxL M.1 A.1) * (cxL M.1 A.1).length ≤ n * (cxL M.1 A.1).length := Nat.mul_le_mul_right _ hWL
  have hmul2 : (n : Int) * ((cxL M.1 A.1).length : Int) ≤ (n : Int) * ((if muls = true then 4 else 0) + (if adds = true then 4 else 0)) := Int.mul_le_mul_of_nonneg_left hlen (by omega)
  rw [Int.mul_add] at hmul2
  have hmul3 : ((WL (cxL M.1 A.1) * (cxL M.1 A.1).length : Nat) : Int) ≤ (n : Int) * ((cxL M.1 A.1).length : Int) := by exact_mod_cast hmul
  refine ⟨A.2.2.1, e2, ?_, ?_, ?_⟩
  · unfold cxW
    rw [w3, w2, w1, a2]
    simp only
    omega
  · rw [a2]
    simp only
    cases muls with
    | true =>
      cases adds with
      | true => have := (a4 rfl).2.1; simpa using this
      | false => have := (m4 rfl).2.1; simp at this ⊢; omega
    | false =>
      cases adds with
      | true => have := (a4 rfl).2.1; simpa using this
      | false => simp; omega
  · rw [e3, a2]
end Go.AI
