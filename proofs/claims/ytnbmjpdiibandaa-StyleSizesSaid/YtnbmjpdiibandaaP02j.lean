/- What is written behind a writer, and what is read at its end: bits, by lengths. -/
import Derived.Test.YtnbmjpdiibandaaP02i
set_option linter.unusedVariables false
set_option linter.unusedSimpArgs false
set_option maxRecDepth 100000
namespace Go.AI
open Go Go.Proofs

abbrev Wt := List UInt8 × Nat
def signU (v n : Int) : Int := if v < 0 then v + 2 ^ n.toNat else v
/-- a number with a sign that fits, as bits -/
theorem signU_of {v : Int} {n : Nat} (h : widthN v ≤ n) (hn : n ≤ 31) : 0 ≤ signU v n ∧ signU v n < 2 ^ n ∧ (signU v n ≥ 0 → ((n : Int) > 0 ∧ 2 * signU v n ≥ 2 ^ n ↔ v < 0)) := by
  by_cases h0 : v = 0
  · subst h0
    have hp : (0 : Int) < 2 ^ n := Int.pow_pos (by omega)
    have e : signU 0 n = 0 := by unfold signU; simp
    rw [e]
    refine ⟨Int.le_refl _, hp, fun _ => ⟨fun ⟨_, h⟩ => absurd (Int.lt_of_lt_of_le hp h) (by decide), fun h => absurd h (by decide)⟩⟩
  · have hn0 : 0 < n := Nat.lt_of_lt_of_le (widthN_pos h0) h
    have hw := (widthN_le h0 hn0).1 h
    obtain ⟨p, hp⟩ : ∃ p : Nat, p = 2 ^ (n - 1) := ⟨_, rfl⟩
    have h2 : (2 : Int) ^ n = 2 * (p : Int) := by
      rw [hp]
      have : (2 : Nat) ^ n = 2 * 2 ^ (n - 1) := by rw [← Nat.pow_succ']; congr 1; omega
      exact_mod_cast this
    rw [← hp] at hw
    unfold signU
    rw [Int.toNat_natCast, h2]
    split <;> omega

theorem putPlainF_step {w : Wt} (hw : WOk w) (v n : Int) :
    (∃ w', (0 ≤ n ∧ n ≤ 31 ∧ 0 ≤ v ∧ v < 2 ^ n.toNat) ∧ w' = putN v.toNat n.toNat w ∧ putPlainF w.1 w.2 v n = (w'.1, ((w'.2 : Nat) : Int), 0)) ∨
    (¬ (0 ≤ n ∧ n ≤ 31 ∧ 0 ≤ v ∧ v < 2 ^ n.toNat) ∧ (putPlainF w.1 w.2 v n).2.2 = 1) := by
  unfold putPlainF
  by_cases h : n < 0 ∨ n > 31 ∨ v < 0 ∨ v ≥ 2 ^ n.toNat
  · right
    rw [if_pos h]
    refine ⟨fun ⟨a, b, c, d⟩ => ?_, rfl⟩
    rcases h with h | h | h | h
    · omega
    · omega
    · omega
    · exact absurd d (by omega)
  · left
    rw [if_neg h]
    simp only [not_or] at h
    refine ⟨_, ⟨by omega, by omega, by omega, by omega⟩, rfl, ?_⟩
    have : freeN w.1 (w.2 : Int) = w.2 := freeN_same hw
    rw [this]
theorem right_wl {W : Wt} {p : Nat} (h : p ≤ wl W) : rightB W.1 (p : Int) = true := rightB_iff.2 ⟨by omega, by have := wl_le (w := W); omega⟩
theorem plainF_at {W : Wt} {p n : Nat} (hn : n ≤ 31) (h : p + n ≤ wl W) : plainF W.1 p n = (((fieldN W.1 p n : Nat) : Int), W.1, ((p + n : Nat) : Int), 0) := by
  have := wl_le (w := W)
  unfold plainF
  rw [if_neg (ng (right_wl (W := W) (by omega)) (by omega) (by omega)), if_neg (by omega)]
  rfl
theorem align_wl {w W : Wt} (hw : WOk w) (h : wl w ≤ wl W) : alignF W.1 (wl w : Int) = ((8 * w.1.length : Nat) : Int) := by
  obtain ⟨h1, h2⟩ := hw.len
  unfold alignF
  rw [if_pos (right_wl h)]
  omega


theorem putPlain_ok {w : Wt} (hw : WOk w) {v n : Nat} (hn : n ≤ 31) (hv : v < 2 ^ n) : putPlainF w.1 w.2 v n = ((putN v n w).1, (((putN v n w).2 : Nat) : Int), 0) := by
  rcases putPlainF_step hw v n with ⟨w', _, h2, h3⟩ | ⟨h1, _⟩
  · rw [h3, h2]; simp
  · exact absurd ⟨by omega, by omega, by omega, by rw [Int.toNat_natCast]; exact_mod_cast hv⟩ h1
theorem putSigned_ok {w : Wt} (hw : WOk w) {v : Int} {n : Nat} (hn : n ≤ 31) (hv : widthN v ≤ n) : putSignedF w.1 w.2 v n = ((putN (signU v n).toNat n w).1, (((putN (signU v n).toNat n w).2 : Nat) : Int), 0) := by
  obtain ⟨s1, s2, _⟩ := signU_of hv hn
  unfold putSignedF
  rw [if_neg (by omega)]
  have e : (if v < 0 then v + 2 ^ (n : Int).toNat else v) = signU v n := rfl
  rw [e]
  obtain ⟨u, hu⟩ := Int.eq_ofNat_of_zero_le s1
  rw [hu] at s2 ⊢
  rw [Int.toNat_natCast]
  exact putPlain_ok hw hn (by exact_mod_cast s2)
theorem rputPlain_ok {w : Wt} (hw : WOk w) {v n : Nat} (hn : n ≤ 31) (hv : v < 2 ^ n) : rputPlainF w.1 w.2 v n = ([.s (putN v n w).1, .i (((putN v n w).2 : Nat) : Int), .b true], []) := by
  unfold rputPlainF; rw [putPlain_ok hw hn hv]; rfl
theorem rputSigned_ok {w : Wt} (hw : WOk w) {v : Int} {n : Nat} (hn : n ≤ 31) (hv : widthN v ≤ n) : rputSignedF w.1 w.2 v n = ([.s (putN (signU v n).toNat n w).1, .i (((putN (signU v n).toNat n w).2 : Nat) : Int), .b true], []) := by
  unfold rputSignedF; rw [putSigned_ok hw hn hv]; rfl
/-- reading what was written -/
theorem plain_back {w W : Wt} (hw : WOk w) {v n : Nat} (hn : n ≤ 31) (hv : v < 2 ^ n) (he : WExt (putN v n w) W) : plainF W.1 (wl w) n = ((v : Int), W.1, ((wl (putN v n w) : Nat) : Int), 0) := by
  obtain ⟨a, b, c, d, e⟩ := putN_ext v n w hw
  have hle := he.1
  rw [plainF_at hn (by omega), he.field (by omega), d, c, Nat.mod_eq_of_lt hv]
theorem signed_back {w W : Wt} (hw : WOk w) {v : Int} {n : Nat} (hn : n ≤ 31) (hv : widthN v ≤ n) (he : WExt (putN (signU v n).toNat n w) W) : signedF W.1 (wl w) n = (v, W.1, ((wl (putN (signU v n).toNat n w) : Nat) : Int), 0) := by
  obtain ⟨s1, s2, s3⟩ := signU_of hv hn
  obtain ⟨u, hu⟩ := Int.eq_ofNat_of_zero_le s1
  rw [hu] at s1 s2 s3 he ⊢
  rw [Int.toNat_natCast] at he ⊢
  unfold signedF
  rw [plain_back hw hn (by exact_mod_cast s2) he]
  simp only [true_and]
  have key : (if (n : Int) > 0 ∧ 2 * (u : Int) ≥ 2 ^ (n : Int).toNat then (u : Int) - 2 ^ (n : Int).toNat else (u : Int)) = v := by
    rw [Int.toNat_natCast]
    have hs := s3 (by omega)
    unfold signU at hu
    rw [Int.toNat_natCast] at hu
    by_cases hv0 : v < 0
    · rw [if_pos (hs.2 hv0)]
      rw [if_pos hv0] at hu
      omega
    · rw [if_neg (fun e => hv0 (hs.1 e))]
      rw [if_neg hv0] at hu
      exact hu.symm
  rw [key]
end Go.AI
