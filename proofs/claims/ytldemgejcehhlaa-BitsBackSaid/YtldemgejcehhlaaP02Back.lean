/- Fields that are written, one behind the other, are read back, in their order. -/
import Derived.Test.YtldemgejcehhlaaP02i
set_option linter.unusedVariables false
set_option linter.unusedSimpArgs false
set_option maxRecDepth 100000
namespace Go.AI
open Go Go.Proofs

abbrev Wt := List UInt8 × Nat
abbrev Fd := Int × Int × Int
def encFd (x : Fd) : List PV := [.i x.1, .i x.2.1, .i x.2.2]
def kd (x : Fd) : Int := Int.tmod (IntKind.wrap .u64 x.1) 4
def signU (v n : Int) : Int := if v < 0 then v + 2 ^ n.toNat else v
def stepW (w : Wt) (x : Fd) : Option Wt :=
  if kd x = 0 then (if 0 ≤ x.2.2 ∧ x.2.2 ≤ 31 ∧ 0 ≤ x.2.1 ∧ x.2.1 < 2 ^ x.2.2.toNat then some (putN x.2.1.toNat x.2.2.toNat w) else none)
  else if kd x = 1 then (if 0 ≤ x.2.2 ∧ x.2.2 ≤ 31 ∧ (widthN x.2.1 : Int) ≤ x.2.2 then some (putN (signU x.2.1 x.2.2).toNat x.2.2.toNat w) else none)
  else if kd x = 2 then (if 1 ≤ x.2.2 ∧ x.2.2 ≤ 4 ∧ 0 ≤ x.2.1 ∧ x.2.1 < 2 ^ (8 * x.2.2.toNat) then some (w.1 ++ littleB x.2.1.toNat x.2.2.toNat, 0) else none)
  else some (w.1, 0)
def runW (w : Wt) : List Fd → Option Wt
  | [] => some w
  | x :: l => (stepW w x).bind fun w' => runW w' l
theorem runW_snoc (x : Fd) : ∀ (l : List Fd) (w : Wt), runW w (l ++ [x]) = (runW w l).bind fun w' => stepW w' x
  | [], w => by simp [runW]
  | y :: l, w => by
    simp only [List.cons_append, runW]
    cases stepW w y with
    | none => rfl
    | some w' => exact runW_snoc x l w'

/-- a number with a sign that fits, as bits -/
theorem signU_of {v : Int} {n : Nat} (h : widthN v ≤ n) (hn : n ≤ 31) : 0 ≤ signU v n ∧ signU v n < 2 ^ n ∧ (signU v n ≥ 0 → ((n : Int) > 0 ∧ 2 * signU v n ≥ 2 ^ n ↔ v < 0)) := by
  by_cases h0 : v = 0
  · subst h0
    have hp : (0 : Int) < 2 ^ n := Int.pow_pos (by omega)
    have e : signU 0 n = 0 := by unfold signU; simp
    rw [e]
    refine ⟨Int.le_refl _, hp, fun _ => ⟨fun ⟨_, h⟩ => absurd (Int.lt_of_lt_of_le hp h) (by decide), fun h => absurd h (by decide)⟩⟩
  · have hn0 : 0 < n := Nat.lt_of_lt_of_le (widthN_pos h0) h
    have hw := (widthN_le h0 hn0).1 h
    obtain ⟨p, hp⟩ : ∃ p : Nat, p = 2 ^ (n - 1) := ⟨_, rfl⟩
    have h2 : (2 : Int) ^ n = 2 * (p : Int) := by
      rw [hp]
      have : (2 : Nat) ^ n = 2 * 2 ^ (n - 1) := by rw [← Nat.pow_succ']; congr 1; omega
      exact_mod_cast this
    rw [← hp] at hw
    unfold signU
    rw [Int.toNat_natCast, h2]
    split <;> omega

theorem putPlainF_step {w : Wt} (hw : WOk w) (v n : Int) :
    (∃ w', (0 ≤ n ∧ n ≤ 31 ∧ 0 ≤ v ∧ v < 2 ^ n.toNat) ∧ w' = putN v.toNat n.toNat w ∧ putPlainF w.1 w.2 v n = (w'.1, ((w'.2 : Nat) : Int), 0)) ∨
    (¬ (0 ≤ n ∧ n ≤ 31 ∧ 0 ≤ v ∧ v < 2 ^ n.toNat) ∧ (putPlainF w.1 w.2 v n).2.2 = 1) := by
  unfold putPlainF
  by_cases h : n < 0 ∨ n > 31 ∨ v < 0 ∨ v ≥ 2 ^ n.toNat
  · right
    rw [if_pos h]
    refine ⟨fun ⟨a, b, c, d⟩ => ?_, rfl⟩
    rcases h with h | h | h | h
    · omega
    · omega
    · omega
    · exact absurd d (by omega)
  · left
    rw [if_neg h]
    simp only [not_or] at h
    refine ⟨_, ⟨by omega, by omega, by omega, by omega⟩, rfl, ?_⟩
    have : freeN w.1 (w.2 : Int) = w.2 := freeN_same hw
    rw [this]
theorem stepW_ok {w w' : Wt} {x : Fd} (hw : WOk w) (h : stepW w x = some w') : WOk w' ∧ WExt w w' ∧ w'.1.length ≤ w.1.length + 31 := by
  unfold stepW at h
  split at h
  · split at h
    · rename_i hc
      cases h
      obtain ⟨a, b, c, d, e⟩ := putN_ext x.2.1.toNat x.2.2.toNat w hw
      exact ⟨a, b, by omega⟩
    · cases h
  · split at h
    · split at h
      · rename_i hc
        cases h
        obtain ⟨a, b, c, d, e⟩ := putN_ext (signU x.2.1 x.2.2).toNat x.2.2.toNat w hw
        exact ⟨a, b, by omega⟩
      · cases h
    · split at h
      · split at h
        · rename_i hc
          cases h
          exact ⟨ok_zero _, append_ext _ _ _, by rw [List.length_append, littleB_length]; omega⟩
        · cases h
      · cases h
        exact ⟨ok_zero _, align_ext _ _, by simp⟩
theorem runW_ok : ∀ (l : List Fd) (w W : Wt), WOk w → runW w l = some W → WOk W ∧ WExt w W
  | [], w, W, hw, h => by cases h; exact ⟨hw, WExt.refl _⟩
  | x :: l, w, W, hw, h => by
    simp only [runW, Option.bind_eq_some_iff] at h
    obtain ⟨w', h1, h2⟩ := h
    obtain ⟨a, b, _⟩ := stepW_ok hw h1
    obtain ⟨c, d⟩ := runW_ok l w' W a h2
    exact ⟨c, b.trans d⟩

theorem right_wl {W : Wt} {p : Nat} (h : p ≤ wl W) : rightB W.1 (p : Int) = true := rightB_iff.2 ⟨by omega, by have := wl_le (w := W); omega⟩
theorem plainF_at {W : Wt} {p n : Nat} (hn : n ≤ 31) (h : p + n ≤ wl W) : plainF W.1 p n = (((fieldN W.1 p n : Nat) : Int), W.1, ((p + n : Nat) : Int), 0) := by
  have := wl_le (w := W)
  unfold plainF
  rw [if_neg (ng (right_wl (W := W) (by omega)) (by omega) (by omega)), if_neg (by omega)]
  rfl
theorem align_wl {w W : Wt} (hw : WOk w) (h : wl w ≤ wl W) : alignF W.1 (wl w : Int) = ((8 * w.1.length : Nat) : Int) := by
  obtain ⟨h1, h2⟩ := hw.len
  unfold alignF
  rw [if_pos (right_wl h)]
  omega

section
variable {w w' W : Wt} {k v n : Int} (hw : WOk w) (h : stepW w (k, v, n) = some w') (he : WExt w' W) (hv : I64 v)
include hw h he
theorem read_plain (hk : kd (k, v, n) = 0) : plainF W.1 (wl w) n = (v, W.1, ((wl w' : Nat) : Int), 0) := by
  unfold stepW at h
  rw [if_pos hk] at h
  split at h
  · rename_i hc
    obtain ⟨c1, c2, c3, c4⟩ := hc
    simp only at c1 c2 c3 c4 h
    obtain ⟨n, rfl⟩ := Int.eq_ofNat_of_zero_le c1
    obtain ⟨v, rfl⟩ := Int.eq_ofNat_of_zero_le c3
    rw [Int.toNat_natCast] at c4 h
    rw [Int.toNat_natCast] at h
    cases h
    obtain ⟨a, b, c, d, e⟩ := putN_ext v n w hw
    have hle := he.1
    rw [plainF_at (by omega) (by omega), he.field (by omega), d, c]
    have : v % 2 ^ n = v := Nat.mod_eq_of_lt (by exact_mod_cast c4)
    rw [this]
  · cases h
theorem read_signed (hk : kd (k, v, n) = 1) : signedF W.1 (wl w) n = (v, W.1, ((wl w' : Nat) : Int), 0) := by
  unfold stepW at h
  rw [if_neg (by rw [hk]; decide), if_pos hk] at h
  split at h
  · rename_i hc
    obtain ⟨c1, c2, c3⟩ := hc
    simp only at c1 c2 c3 h
    obtain ⟨n, rfl⟩ := Int.eq_ofNat_of_zero_le c1
    rw [Int.toNat_natCast] at h
    obtain ⟨s1, s2, s3⟩ := signU_of (v := v) (n := n) (by omega) (by omega)
    obtain ⟨u, hu⟩ := Int.eq_ofNat_of_zero_le s1
    rw [hu] at s1 s2 s3 h
    rw [Int.toNat_natCast] at h
    cases h
    obtain ⟨a, b, c, d, e⟩ := putN_ext u n w hw
    have hle := he.1
    have hm : u % 2 ^ n = u := Nat.mod_eq_of_lt (by exact_mod_cast s2)
    unfold signedF
    rw [plainF_at (by omega) (by omega), he.field (by omega), d, c, hm]
    simp only [true_and]
    have key : (if (n : Int) > 0 ∧ 2 * (u : Int) ≥ 2 ^ (n : Int).toNat then (u : Int) - 2 ^ (n : Int).toNat else (u : Int)) = v := by
      rw [Int.toNat_natCast]
      have hs := s3 (by omega)
      unfold signU at hu
      rw [Int.toNat_natCast] at hu
      by_cases hv0 : v < 0
      · rw [if_pos (hs.2 hv0)]
        rw [if_pos hv0] at hu
        omega
      · rw [if_neg (fun e => hv0 (hs.1 e))]
        rw [if_neg hv0] at hu
        exact hu.symm
    rw [key]
  · cases h
theorem read_little (hk : kd (k, v, n) = 2) : littleF W.1 (wl w) n = (v, W.1, ((wl w' : Nat) : Int), 0) := by
  unfold stepW at h
  rw [if_neg (by rw [hk]; decide), if_neg (by rw [hk]; decide), if_pos hk] at h
  split at h
  · rename_i hc
    obtain ⟨c1, c2, c3, c4⟩ := hc
    simp only at c1 c2 c3 c4 h
    obtain ⟨n, rfl⟩ := Int.eq_ofNat_of_zero_le (by omega : 0 ≤ n)
    obtain ⟨v, rfl⟩ := Int.eq_ofNat_of_zero_le c3
    rw [Int.toNat_natCast] at c4 h
    rw [Int.toNat_natCast] at h
    cases h
    obtain ⟨l1, l2⟩ := hw.len
    obtain ⟨e1, e2⟩ := he.bytes
    rw [littleB_length] at e1 e2
    have hle := he.1
    have hW := wl_le (w := W)
    have hwl : wl (w.1 ++ littleB v n, 0) = 8 * (w.1.length + n) := by simp [wl, littleB_length]
    have h7 : (((wl w : Nat) : Int) + 7) / 8 = ((w.1.length : Nat) : Int) := by omega
    have hb : bytesF W.1 (wl w) n = (littleB v n, W.1, ((8 * (w.1.length + n) : Nat) : Int), 0) := by
      unfold bytesF
      rw [if_neg (ng2 (right_wl (W := W) (by omega)) (by omega)), h7, if_neg (by omega), Int.toNat_natCast, Int.toNat_natCast, e2]
      congr 3
    unfold littleF
    rw [if_neg (by omega), hb, littleN_B, hwl]
    have : v % 256 ^ n = v := Nat.mod_eq_of_lt (by
      have : (2 : Nat) ^ (8 * n) = 256 ^ n := by rw [Nat.pow_mul]
      rw [← this]; exact_mod_cast c4)
    rw [this]
  · cases h
theorem read_align (h0 : kd (k, v, n) ≠ 0) (h1 : kd (k, v, n) ≠ 1) (h2 : kd (k, v, n) ≠ 2) : alignF W.1 (wl w) = ((wl w' : Nat) : Int) := by
  unfold stepW at h
  rw [if_neg h0, if_neg h1, if_neg h2] at h
  cases h
  have hle := he.1
  obtain ⟨l1, l2⟩ := hw.len
  have : wl (w.1, 0) = 8 * w.1.length := by simp [wl]
  rw [align_wl hw (by omega), this]
end
end Go.AI
