/- What is read is right, and is written in no more bytes. -/
import Derived.Test.YtnbmjpdiibandaaP08i
import Derived.Test.YtnbmjpdiibandaaP07k
import Derived.Test.YtnbmjpdiibandaaP08Takes
set_option linter.unusedVariables false
set_option linter.unusedSimpArgs false
set_option maxRecDepth 100000
namespace Go.AI
open Go Go.Proofs

/-- a reader that went on, over so many bytes at least -/
def Val (σ τ : Rs) (k : Nat) : Prop := σ.2.2 = 0 ∧ ∃ p q : Nat, σ.2.1 = p ∧ τ = (σ.1, (q : Int), 0) ∧ 8 * k + p ≤ q
theorem Val.trans {σ τ ρ : Rs} {k j : Nat} (h : Val σ τ k) (h' : Val τ ρ j) : Val σ ρ (k + j) := by
  obtain ⟨e, p, q, hp, rfl, hk⟩ := h
  obtain ⟨e', p', q', hp', rfl, hj⟩ := h'
  have : ((q : Nat) : Int) = ((p' : Nat) : Int) := hp'
  exact ⟨e, p, q', hp, rfl, by omega⟩
theorem Val.ok {σ τ : Rs} {k : Nat} (h : Val σ τ k) : τ.2.2 = 0 := by obtain ⟨_, _, _, _, rfl, _⟩ := h; rfl
theorem Val.ok0 {σ τ : Rs} {k : Nat} (h : Val σ τ k) : σ.2.2 = 0 := h.1
theorem lit_valn {σ : Rs} {n : Nat} (h : (lit σ n).2.2.2 = 0) : Val σ (lit σ n).2 n := by
  have he : σ.2.2 = 0 := by
    by_cases he : σ.2.2 = 0
    · exact he
    · rw [lit_err he] at h; exact absurd h he
  unfold lit at *
  rw [if_neg (by simp [he])] at *
  unfold littleF at *
  split at h
  · cases h
  · rename_i hn
    rw [if_neg hn]
    rcases bytesF_cases σ.1 σ.2.1 n with e | e | ⟨a', n', ha, hn', _, _, e⟩ <;> rw [e] at h ⊢
    · cases h
    · cases h
    · have : n = n' := by omega
      subst this
      exact ⟨he, a', _, ha, rfl, by omega⟩
theorem byte_rng (b : UInt8) : inB2 0 255 ((b.toNat : Nat) : Int) = true := by
  have : b.toNat < 256 := UInt8.toNat_lt _
  unfold inB2; simp; omega
theorem col_valn {σ : Rs} (h : (col σ).2.2.2 = 0) : Val σ (col σ).2 4 ∧ rgbaB (col σ).1 = true := by
  have he : σ.2.2 = 0 := by
    by_cases he : σ.2.2 = 0
    · exact he
    · rw [col_err he] at h; exact absurd h he
  unfold col at *
  rw [if_neg (by simp [he])] at *
  unfold takeKF at *
  rcases bytesF_cases σ.1 σ.2.1 4 with e | e | ⟨a', n', ha, hn', _, _, e⟩ <;> rw [e] at h ⊢
  · cases h
  · cases h
  · dsimp only at h ⊢
    rw [if_neg (by simp)]
    refine ⟨⟨he, a', _, ha, rfl, by omega⟩, ?_⟩
    unfold rgbaB I4.l
    simp only [List.all_cons, List.all_nil, byte_rng, Bool.and_self]
theorem mt_valn {σ : Rs} (h : (mt σ).2.2.2 = 0) : Val σ (mt σ).2 (matS (mt σ).1).length ∧ mB (mt σ).1 = true := by
  have he : σ.2.2 = 0 := by
    by_cases he : σ.2.2 = 0
    · exact he
    · rw [mt_err he] at h; exact absurd h he
  unfold mt at *
  rw [if_neg (by simp [he])] at *
  by_cases hr : rightB σ.1 σ.2.1 = true
  · obtain ⟨a, b, c, d, x, y, P, e1, e2, e3, e4, e5⟩ := mat_val h
    rw [e1, e5]
    obtain ⟨r0, r1⟩ := rightB_iff.1 hr
    have hb : (beginP σ.1 σ.2.1).2.1 = (σ.2.1 + 7) / 8 * 8 := by unfold beginP alignF; rw [if_pos hr]
    have hb1 : (beginP σ.1 σ.2.1).1 = σ.1 := rfl
    rw [hb] at e3
    rw [hb1] at e4 ⊢
    have hal : alignF σ.1 P = (P + 7) / 8 * 8 := by unfold alignF; rw [if_pos (rightB_iff.2 ⟨by omega, e4⟩)]
    obtain ⟨l1, l2⟩ := (matW_ok a b c d x y ([], 0) (ok_zero [])).1.len
    refine ⟨⟨he, σ.2.1.toNat, ((P + 7) / 8 * 8).toNat, by omega, by rw [hal, Int.toNat_of_nonneg (by omega)], ?_⟩, e2⟩
    show 8 * (matW a b c d x y ([], 0)).1.length + _ ≤ _
    omega
  · have hbe : (beginP σ.1 σ.2.1).2.2 ≠ 0 := by rw [beginP_err hr]; decide
    rw [mat_err hbe] at h
    exact absurd h hbe
theorem failR_ne {σ : Rs} {e : Int} (he : e ≠ 0) : (failR σ e).2.2 ≠ 0 := by
  unfold failR
  split
  · exact he
  · assumption
theorem stop1_valn {last : Int} {σ : Rs} (h : (stop1 last σ).2.2.2 = 0) : Val σ (stop1 last σ).2 5 ∧ stopB (stop1 last σ).1 last = true := by
  unfold stop1 at *
  dsimp only at *
  cases hc : ((lit σ 1).2.2.2 == 0) && decide ((lit σ 1).1 < last) with
  | true =>
    rw [hc, cond_true, col_err (failR_ne (by decide))] at h
    exact absurd h (failR_ne (by decide))
  | false =>
    rw [hc, cond_false] at h
    simp only [cond_false]
    obtain ⟨v, hk⟩ := col_valn h
    have v1 := lit_valn (n := 1) v.ok0
    refine ⟨v1.trans v, ?_⟩
    have z := v.ok0
    rw [show ((lit σ 1).2.2.2 == 0) = true by simpa using z, Bool.true_and, decide_eq_false_iff_not] at hc
    have := lit1_lt σ
    unfold stopB
    simp only [hk, Bool.and_true, Bool.and_eq_true, decide_eq_true_eq]
    exact ⟨by omega, by omega⟩
theorem stopsP_valn : ∀ (n : Nat) (last : Int) (σ : Rs) (p : Nat), σ.2.1 = p → (stopsP n last σ).2.2.2 = 0 → Val σ (stopsP n last σ).2 (stopsS (stopsP n last σ).1).length ∧ stopsB last (stopsP n last σ).1 = true
  | 0, last, σ, p, hp, h => ⟨⟨h, p, p, hp, by rw [← hp, ← h]; rfl, by show 8 * 0 + p ≤ p; omega⟩, rfl⟩
  | n + 1, last, σ, p, hp, h => by
    have h : (stopsP n (stop1 last σ).1.ratio (stop1 last σ).2).2.2.2 = 0 := h
    have h1 : (stop1 last σ).2.2.2 = 0 := by
      by_cases h1 : (stop1 last σ).2.2.2 = 0
      · exact h1
      · rw [stopsP_err n h1] at h; exact h
    obtain ⟨v, hb⟩ := stop1_valn h1
    obtain ⟨_, _, q, _, e, _⟩ := id v
    obtain ⟨v2, hb2⟩ := stopsP_valn n (stop1 last σ).1.ratio (stop1 last σ).2 q (by rw [e]) h
    refine ⟨?_, ?_⟩
    · have := v.trans v2
      show Val σ _ (stopsS ((stop1 last σ).1 :: _)).length
      rw [stopsS_len] at this ⊢
      rwa [List.length_cons, show 5 * ((stopsP n (stop1 last σ).1.ratio (stop1 last σ).2).1.length + 1) = 5 + 5 * (stopsP n (stop1 last σ).1.ratio (stop1 last σ).2).1.length by omega]
    · show stopsB last ((stop1 last σ).1 :: _) = true
      unfold stopsB
      rw [hb, hb2]; rfl
theorem gradS_valn {σ : Rs} (h : (gradS σ).2.2 = 0) : Val σ (gradS σ) 1 ∧ badN (lit σ 1).1 = false ∧ gradS σ = (lit σ 1).2 := by
  unfold gradS at *
  cases hc : ((lit σ 1).2.2.2 == 0) && badN (lit σ 1).1 with
  | true =>
    rw [hc, cond_true] at h
    exact absurd h (failR_ne (by decide))
  | false =>
    rw [hc, cond_false] at h
    simp only [cond_false]
    rw [show ((lit σ 1).2.2.2 == 0) = true by simpa using h, Bool.true_and] at hc
    exact ⟨lit_valn (n := 1) h, hc, trivial⟩
theorem Val.pos {σ τ : Rs} {k : Nat} (h : Val σ τ k) : ∃ q : Nat, τ.2.1 = q := by obtain ⟨_, _, q, _, rfl, _⟩ := h; exact ⟨q, rfl⟩
theorem lit2_lt (σ : Rs) : (lit σ 2).1 < 65536 := by
  unfold lit littleF
  split
  · show (0 : Int) < 65536; decide
  · rw [if_neg (by decide)]
    have h := littleN_lt (bytesF σ.1 σ.2.1 2).1
    have hl : (bytesF σ.1 σ.2.1 2).1.length ≤ 2 := by
      rcases bytesF_cases σ.1 σ.2.1 2 with e | e | ⟨_, n', _, hn, _, _, e⟩ <;> rw [e]
      · exact Nat.zero_le _
      · exact Nat.zero_le _
      · simp; omega
    have : 256 ^ (bytesF σ.1 σ.2.1 2).1.length ≤ 256 ^ 2 := Nat.pow_le_pow_right (by decide) hl
    have e1 : 256 ^ 2 = 65536 := rfl
    simp only
    omega
theorem fillP_valn {σ : Rs} (h : (fillP σ).2.2.2 = 0) : Val σ (fillP σ).2 (fillS (fillP σ).1).length ∧ fillB (fillP σ).1 = true := by
  unfold fillP at *
  dsimp only at *
  cases ks : kindS (lit σ 1).1 with
  | true =>
    rw [ks, cond_true] at h
    simp only [cond_true]
    obtain ⟨v, hc⟩ := col_valn h
    have v1 := lit_valn (n := 1) v.ok0
    have k0 : (lit σ 1).1 = 0 := by unfold kindS at ks; simpa using ks
    refine ⟨?_, ?_⟩
    · have := v1.trans v
      unfold fillS
      simp only [ks, cond_true]
      exact this
    · unfold fillB
      simp only [k0]
      rw [show kindS 0 = true from rfl, cond_true, hc]; simp
  | false =>
    rw [ks, cond_false] at h
    simp only [cond_false]
    cases kp : kindP (lit σ 1).1 with
    | true =>
      rw [kp, cond_true] at h
      simp only [cond_true]
      obtain ⟨v, hm⟩ := mt_valn h
      have v2 := lit_valn (n := 2) v.ok0
      have v1 := lit_valn (n := 1) v2.ok0
      refine ⟨?_, ?_⟩
      · have := (v1.trans v2).trans v
        unfold fillS
        simp only [ks, kp, cond_true, cond_false]
        rw [List.length_append, List.length_append]
        rwa [show (oneS (lit σ 1).1).length + ((twoS (lit (lit σ 1).2 2).1).length + (matS (mt (lit (lit σ 1).2 2).2).1).length) = 1 + 2 + (matS (mt (lit (lit σ 1).2 2).2).1).length by show 1 + (2 + _) = _; omega]
      · have n0 := lit_pos (lit σ 1).2 2
        have n1 := lit2_lt (lit σ 1).2
        unfold fillB
        simp only [ks, kp, cond_true, cond_false, hm, decide_true, Bool.and_true, Bool.true_and, Bool.and_eq_true, decide_eq_true_eq]
        exact ⟨n0, n1⟩
    | false =>
      rw [kp, cond_false] at h
      simp only [cond_false]
      cases kg : kindG (lit σ 1).1 with
      | false =>
        rw [kg, cond_false] at h
        exact absurd h (failR_ne (by decide))
      | true =>
        rw [kg, cond_true] at h
        simp only [cond_true]
        have hg : (gradS (mt (lit σ 1).2).2).2.2 = 0 := by
          by_cases hg : (gradS (mt (lit σ 1).2).2).2.2 = 0
          · exact hg
          · rw [stopsP_err _ hg] at h; exact h
        obtain ⟨v3, hb, _⟩ := gradS_valn hg
        obtain ⟨q, hq⟩ := v3.pos
        obtain ⟨v4, hs⟩ := stopsP_valn _ 0 _ q hq h
        obtain ⟨v2, hm⟩ := mt_valn v3.ok0
        have v1 := lit_valn (n := 1) v2.ok0
        have n0 := lit_pos (mt (lit σ 1).2).2 1
        have n1 := lit1_lt (mt (lit σ 1).2).2
        have hn := stopsP_n ((lit (mt (lit σ 1).2).2 1).1 % 16).toNat 0 (gradS (mt (lit σ 1).2).2)
        refine ⟨?_, ?_⟩
        · have := ((v1.trans v2).trans v3).trans v4
          unfold fillS
          simp only [ks, kp, cond_false]
          rw [List.length_append, List.length_append, List.length_append]
          generalize (stopsS (stopsP ((lit (mt (lit σ 1).2).2 1).1 % 16).toNat 0 (gradS (mt (lit σ 1).2).2)).1).length = B at this ⊢
          rwa [show ∀ a : Int, (oneS (lit σ 1).1).length + ((matS (mt (lit σ 1).2).1).length + ((oneS a).length + B)) = 1 + (matS (mt (lit σ 1).2).1).length + 1 + B by intro a; show 1 + (_ + (1 + _)) = _; omega]
        · unfold badN at hb
          simp only [Bool.or_eq_false_iff, decide_eq_false_iff_not, beq_eq_false_iff_ne] at hb
          unfold fillB gradB
          simp only [ks, kp, kg, cond_false, cond_true, decide_true, Bool.and_true, hs, hm, hn, Bool.true_and, Bool.and_eq_true, decide_eq_true_eq]
          exact ⟨by omega, by omega, by omega, by omega⟩
theorem fillsP_valn : ∀ (n : Nat) (σ : Rs) (p : Nat), σ.2.1 = p → (fillsP n σ).2.2.2 = 0 → Val σ (fillsP n σ).2 (fillsS (fillsP n σ).1).length ∧ (fillsP n σ).1.all fillB = true
  | 0, σ, p, hp, h => ⟨⟨h, p, p, hp, by rw [← hp, ← h]; rfl, by show 8 * 0 + p ≤ p; omega⟩, rfl⟩
  | n + 1, σ, p, hp, h => by
    have h : (fillsP n (fillP σ).2).2.2.2 = 0 := h
    have h1 : (fillP σ).2.2.2 = 0 := by
      by_cases h1 : (fillP σ).2.2.2 = 0
      · exact h1
      · rw [fillsP_err n h1] at h; exact h
    obtain ⟨v, hb⟩ := fillP_valn h1
    obtain ⟨q, hq⟩ := v.pos
    obtain ⟨v2, hb2⟩ := fillsP_valn n (fillP σ).2 q hq h
    refine ⟨?_, ?_⟩
    · have := v.trans v2
      show Val σ _ (fillsS ((fillP σ).1 :: _)).length
      unfold fillsS
      rw [List.length_append]; exact this
    · show List.all ((fillP σ).1 :: _) fillB = true
      rw [List.all_cons, hb, hb2]; rfl
theorem strkP_valn {σ : Rs} (h : (strkP σ).2.2.2 = 0) : Val σ (strkP σ).2 6 ∧ strkB (strkP σ).1 = true := by
  obtain ⟨v, hc⟩ := col_valn h
  have v1 := lit_valn (n := 2) v.ok0
  refine ⟨v1.trans v, ?_⟩
  have n0 := lit_pos σ 2
  have n1 := lit2_lt σ
  unfold strkB strkP
  simp only [hc, Bool.and_true, Bool.and_eq_true, decide_eq_true_eq]
  exact ⟨n0, n1⟩
theorem strksP_valn : ∀ (n : Nat) (σ : Rs) (p : Nat), σ.2.1 = p → (strksP n σ).2.2.2 = 0 → Val σ (strksP n σ).2 (strksS (strksP n σ).1).length ∧ (strksP n σ).1.all strkB = true
  | 0, σ, p, hp, h => ⟨⟨h, p, p, hp, by rw [← hp, ← h]; rfl, by show 8 * 0 + p ≤ p; omega⟩, rfl⟩
  | n + 1, σ, p, hp, h => by
    have h : (strksP n (strkP σ).2).2.2.2 = 0 := h
    have h1 : (strkP σ).2.2.2 = 0 := by
      by_cases h1 : (strkP σ).2.2.2 = 0
      · exact h1
      · rw [strksP_err n h1] at h; exact h
    obtain ⟨v, hb⟩ := strkP_valn h1
    obtain ⟨q, hq⟩ := v.pos
    obtain ⟨v2, hb2⟩ := strksP_valn n (strkP σ).2 q hq h
    refine ⟨?_, ?_⟩
    · have := v.trans v2
      show Val σ _ (strksS ((strkP σ).1 :: _)).length
      unfold strksS
      rw [List.length_append]; exact this
    · show List.all ((strkP σ).1 :: _) strkB = true
      rw [List.all_cons, hb, hb2]; rfl
theorem manyP_valn {σ : Rs} (h : (manyP σ).2.2.2 = 0) : Val σ (manyP σ).2 1 := by
  unfold manyP at *
  cases hc : decide ((lit σ 1).1 > 15) with
  | true => rw [hc, cond_true] at h; exact absurd h (failR_ne (by decide))
  | false =>
    rw [hc, cond_false] at h
    simp only [cond_false]
    exact lit_valn (n := 1) h
/-- THE STAGE'S THEOREM, without the document: lists that are taken are right, and stand in bytes enough -/
theorem lists_val {σ : Rs} (h : (listsP σ).2.2.2.2 = 0) : Val σ (listsP σ).2.2 (listsS (listsP σ).1 (listsP σ).2.1).length ∧ listsB (listsP σ).1 (listsP σ).2.1 = true := by
  unfold listsP at *
  dsimp only at *
  have a3 : (manyP (fillsP (manyP σ).1.toNat (manyP σ).2).2).2.2.2 = 0 := by
    by_cases a : (manyP (fillsP (manyP σ).1.toNat (manyP σ).2).2).2.2.2 = 0
    · exact a
    · rw [strksP_err _ a] at h; exact h
  have v3 := manyP_valn a3
  have a1 : (manyP σ).2.2.2 = 0 := by
    by_cases a : (manyP σ).2.2.2 = 0
    · exact a
    · have := v3.ok0; rw [fillsP_err _ a] at this; exact this
  have v1 := manyP_valn a1
  obtain ⟨q, hq⟩ := v1.pos
  obtain ⟨v2, b2⟩ := fillsP_valn _ _ q hq v3.ok0
  obtain ⟨r, hr⟩ := v3.pos
  obtain ⟨v4, b4⟩ := strksP_valn _ _ r hr h
  obtain ⟨m0, m1⟩ := many_bound σ
  obtain ⟨k0, k1⟩ := many_bound (fillsP (manyP σ).1.toNat (manyP σ).2).2
  have n1 := (fillsP_n (manyP σ).1.toNat (manyP σ).2).1
  have n2 := strksP_n (manyP (fillsP (manyP σ).1.toNat (manyP σ).2).2).1.toNat (manyP (fillsP (manyP σ).1.toNat (manyP σ).2).2).2
  refine ⟨?_, ?_⟩
  · have := ((v1.trans v2).trans v3).trans v4
    unfold listsS
    rw [List.length_append, List.length_append, List.length_append]
    refine cast ?_ this
    congr 1
    show 1 + _ + 1 + _ = 1 + (_ + (1 + _))
    omega
  · unfold listsB
    rw [b2, b4, n1, n2]
    simp; omega
end Go.AI
