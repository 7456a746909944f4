/- A number between two others: plain laws. -/
import Derived.Test.YtkclfiliefadlaaP02
import Derived.Test.YtkclfiliefadlaaU10
import Derived.Test.YtkclfiliefadlaaW
set_option linter.unusedVariables false
set_option linter.unusedSimpArgs false
set_option maxRecDepth 100000
namespace Go.AI
open Go Go.Proofs

def clT (t : Int) : Int := if t < 0 then 0 else if t > 65535 then 65535 else t
def inW (a : Int) : Prop := -1099511627776 ≤ a ∧ a ≤ 1099511627776
instance (a : Int) : Decidable (inW a) := by unfold inW; infer_instance
def betw (a b t : Int) : Int := if inW a ∧ inW b then a + ((b - a) * clT t) / 65535 else 0
theorem clT_r (t : Int) : 0 ≤ clT t ∧ clT t ≤ 65535 := by
  unfold clT
  split
  · omega
  · split <;> omega
theorem prod_r {d c : Int} (c0 : 0 ≤ c) (c1 : c ≤ 65535) : (0 ≤ d → 0 ≤ d * c ∧ d * c ≤ d * 65535) ∧ (d ≤ 0 → d * 65535 ≤ d * c ∧ d * c ≤ 0) := by
  refine ⟨fun h => ⟨Int.mul_nonneg h c0, Int.mul_le_mul_of_nonneg_left c1 h⟩, fun h => ⟨Int.mul_le_mul_of_nonpos_left h c1, Int.mul_nonpos_of_nonpos_of_nonneg h c0⟩⟩
theorem betw_mid {a b t : Int} (ha : inW a) (hb : inW b) : (a ≤ b → a ≤ betw a b t ∧ betw a b t ≤ b) ∧ (b ≤ a → b ≤ betw a b t ∧ betw a b t ≤ a) := by
  unfold betw
  rw [if_pos ⟨ha, hb⟩]
  obtain ⟨c0, c1⟩ := clT_r t
  obtain ⟨p, q⟩ := prod_r (d := b - a) c0 c1
  generalize (b - a) * clT t = x at *
  refine ⟨fun h => ?_, fun h => ?_⟩
  · have := p (by omega); omega
  · have := q (by omega); omega
theorem betw_rng {a b t lo hi : Int} (ha : inW a) (hb : inW b) (h1 : lo ≤ a ∧ a ≤ hi) (h2 : lo ≤ b ∧ b ≤ hi) : lo ≤ betw a b t ∧ betw a b t ≤ hi := by
  obtain ⟨p, q⟩ := betw_mid (t := t) ha hb
  rcases Int.le_total a b with h | h
  · have := p h; omega
  · have := q h; omega
theorem betw_0 {a b : Int} (ha : inW a) (hb : inW b) : betw a b 0 = a := by
  unfold betw
  rw [if_pos ⟨ha, hb⟩, show clT 0 = 0 from rfl, Int.mul_zero]
  simp
theorem betw_1 {a b : Int} (ha : inW a) (hb : inW b) : betw a b 65535 = b := by
  unfold betw
  rw [if_pos ⟨ha, hb⟩, show clT 65535 = 65535 from rfl, Int.mul_ediv_cancel _ (by decide)]
  omega
theorem betw_same {a : Int} (ha : inW a) (t : Int) : betw a a t = a := by
  unfold betw
  rw [if_pos ⟨ha, ha⟩, Int.sub_self, Int.zero_mul]
  simp
theorem clT_mono {t u : Int} (h : t ≤ u) : clT t ≤ clT u := by unfold clT; split <;> split <;> (try split) <;> (try split) <;> omega
/-- on the way -/
theorem betw_up {a b t u : Int} (ha : inW a) (hb : inW b) (htu : t ≤ u) : (a ≤ b → betw a b t ≤ betw a b u) ∧ (b ≤ a → betw a b u ≤ betw a b t) := by
  unfold betw
  rw [if_pos ⟨ha, hb⟩, if_pos ⟨ha, hb⟩]
  have hc := clT_mono htu
  refine ⟨fun h => ?_, fun h => ?_⟩
  · have := Int.mul_le_mul_of_nonneg_left hc (show 0 ≤ b - a by omega)
    have := Int.ediv_le_ediv (c := 65535) (by decide) this
    omega
  · have := Int.mul_le_mul_of_nonpos_left (show b - a ≤ 0 by omega) hc
    have := Int.ediv_le_ediv (c := 65535) (by decide) this
    omega
end Go.AI
set_option linter.unusedVariables false
set_option linter.unusedSimpArgs false
set_option maxRecDepth 100000
namespace Go.AI
open Go Go.Proofs

theorem mul64_1 {x : Int} (h0 : 0 ≤ x) (h1 : x < 18446744073709551616) : cW f_math_bits_Mul64 [.i x, .i 1] [] = some ([.i 0, .i x], []) := by
  obtain ⟨n, rfl⟩ := Int.eq_ofNat_of_zero_le h0
  have hn : n < 18446744073709551616 := by omega
  rw [w_math_bits_Mul64]
  have e1 : shr .u64 1 32 = 0 := by decide
  have e2 : bitsOp .and .u64 1 4294967295 = 1 := by decide
  have e3 : shr .u64 (n : Int) 32 = ((n / 4294967296 : Nat) : Int) := shrN (y := 32) (by decide)
  have e4 : bitsOp .and .u64 (n : Int) 4294967295 = ((n % 4294967296 : Nat) : Int) := by
    have := andN (k := .u64) (x := n) (y := 4294967295) hn (by decide)
    rw [show ((4294967295 : Nat) : Int) = 4294967295 from rfl] at this
    rw [this, show n &&& 4294967295 = n % 4294967296 from Nat.and_two_pow_sub_one_eq_mod n 32, wrapU64 (by omega) (by omega)]
  have e5 : ∀ k : Nat, k < 4294967296 → shr .u64 (k : Int) 32 = 0 := by
    intro k hk
    have := shrN (k := .u64) (x := k) (y := 32) (by decide)
    rw [show ((32 : Nat) : Int) = 32 from rfl] at this
    rw [this, show k / 2 ^ 32 = 0 from Nat.div_eq_of_lt hk]; rfl
  rw [e1, e2, e3, e4]
  simp only [Int.mul_one, Int.mul_zero]
  rw [wrapU64 (n := ((n / 4294967296 : Nat) : Int)) (by omega) (by omega), wrapU64 (n := ((n % 4294967296 : Nat) : Int)) (by omega) (by omega), e5 _ (Nat.mod_lt _ (by decide)), Int.add_zero,
    wrapU64 (n := ((n / 4294967296 : Nat) : Int)) (by omega) (by omega), e5 _ (by omega)]
  have e6 : bitsOp .and .u64 ((n / 4294967296 : Nat) : Int) 4294967295 = ((n / 4294967296 : Nat) : Int) := by
    have := andN (k := .u64) (x := n / 4294967296) (y := 4294967295) (by show _ < 18446744073709551616; omega) (by decide)
    rw [show ((4294967295 : Nat) : Int) = 4294967295 from rfl] at this
    rw [this, show n / 4294967296 &&& 4294967295 = n / 4294967296 % 4294967296 from Nat.and_two_pow_sub_one_eq_mod _ 32, wrapU64 (by omega) (by omega)]
    omega
  have z : IntKind.wrap .u64 0 = 0 := by decide
  rw [e6]
  simp only [Int.add_zero, z]
  rw [wrapU64 (n := ((n / 4294967296 : Nat) : Int)) (by omega) (by omega), e5 _ (by omega), show ((0 : Int) + 0) = 0 from rfl, z, wrapU64 (by omega) (by omega)]
theorem wrap64_neg {n : Int} (h1 : -9223372036854775808 ≤ n) (h2 : n < 0) : IntKind.wrap .u64 n = n + 18446744073709551616 := by
  show n % 18446744073709551616 = _
  omega
theorem wrap_back {n : Int} (h1 : -9223372036854775808 ≤ n) (h2 : n ≤ 9223372036854775807) : IntKind.wrap .i64 (IntKind.wrap .u64 n) = n := by
  have e : (2 : Int) ^ (64 - 1) = 9223372036854775808 := rfl
  have e' : (2 : Int) ^ 64 = 18446744073709551616 := rfl
  simp only [IntKind.wrap, IntKind.bits, IntKind.signed, Bool.true_and, Bool.false_and, Bool.false_eq_true, if_false, decide_eq_true_eq, e, e']
  split <;> omega
theorem times1_c {a : Int} (h1 : -9223372036854775808 ≤ a) (h2 : a ≤ 9223372036854775807) : cW f_fix_times [.i a, .i 1] [] = some ([.i (if a < 0 then -1 else 0), .i (IntKind.wrap .u64 a)], []) := by
  have hw : 0 ≤ IntKind.wrap .u64 a ∧ IntKind.wrap .u64 a < 18446744073709551616 := by
    show 0 ≤ a % 18446744073709551616 ∧ a % 18446744073709551616 < 18446744073709551616
    omega
  rw [w_fix_times, show IntKind.wrap .u64 1 = 1 by decide, mul64_1 hw.1 hw.2]
  simp only [Option.bind_some, Option.bind_none, andB, orB, orB2, List.getD_cons_zero, List.getD_cons_succ, toB_b, toI_i, toS_s, toL_l, cond_true, cond_false, List.length_map]
  rw [show decide ((1 : Int) < 0) = false by decide]
  by_cases h : a < 0
  · rw [decide_eq_true h, if_pos h]
    simp only [Option.bind_some, Option.bind_none, andB, orB, orB2, List.getD_cons_zero, List.getD_cons_succ, toB_b, toI_i, toS_s, toL_l, cond_true, cond_false, List.length_map]
    rw [show IntKind.wrap .i64 (IntKind.wrap .u64 (0 - 1)) = -1 by decide]
  · rw [decide_eq_false h, if_neg h]
    simp only [Option.bind_some, Option.bind_none, andB, orB, orB2, List.getD_cons_zero, List.getD_cons_succ, toB_b, toI_i, toS_s, toL_l, cond_true, cond_false, List.length_map]
    rw [show IntKind.wrap .i64 0 = 0 by decide]
theorem abs_c {a : Int} (h1 : -9223372036854775808 ≤ a) (h2 : a ≤ 9223372036854775807) : cW f__celluloid_fix_wide__abs [.i (if a < 0 then -1 else 0), .i (IntKind.wrap .u64 a)] [] = some ([.i 0, .i (if a < 0 then -a else a), .b (decide (a < 0))], []) := by
  rw [w__celluloid_fix_wide__abs]
  by_cases h : a < 0
  · rw [if_pos h, if_pos h, decide_eq_true h, show decide ((-1 : Int) ≥ 0) = false by decide]
    simp only [Option.bind_some, Option.bind_none, andB, orB, orB2, List.getD_cons_zero, List.getD_cons_succ, toB_b, toI_i, toS_s, toL_l, cond_true, cond_false, List.length_map]
    rw [wrap64_neg h1 h, w_math_bits_Sub64]
    have s1 : ((0 : Int).toNat + 2 ^ 64 - (a + 18446744073709551616).toNat - (0 : Int).toNat) % 2 ^ 64 = (-a).toNat := by
      show (0 + 18446744073709551616 - (a + 18446744073709551616).toNat - 0) % 18446744073709551616 = _
      omega
    have s2 : (if (0 : Int).toNat < (a + 18446744073709551616).toNat + (0 : Int).toNat then (1 : Nat) else 0) = 1 := if_pos (by show 0 < _ + 0; omega)
    rw [s1, s2]
    rw [show Nat.ble (0 : Int).toNat 1 = true from rfl]
    simp only [Option.bind_some, Option.bind_none, andB, orB, orB2, List.getD_cons_zero, List.getD_cons_succ, toB_b, toI_i, toS_s, toL_l, cond_true, cond_false, List.length_map]
    rw [w_math_bits_Sub64, show Nat.ble (Int.ofNat 1).toNat 1 = true from rfl]
    simp only [Option.bind_some, Option.bind_none, andB, orB, orB2, List.getD_cons_zero, List.getD_cons_succ, toB_b, toI_i, toS_s, toL_l, cond_true, cond_false, List.length_map]
    rw [show Int.ofNat (((0 : Int).toNat + 2 ^ 64 - (IntKind.wrap .u64 (-1)).toNat - (Int.ofNat 1).toNat) % 2 ^ 64) = 0 by decide, show Int.ofNat (-a).toNat = -a from Int.toNat_of_nonneg (by omega)]
  · rw [if_neg h, if_neg h, decide_eq_false h, show decide ((0 : Int) ≥ 0) = true by decide]
    simp only [Option.bind_some, Option.bind_none, andB, orB, orB2, List.getD_cons_zero, List.getD_cons_succ, toB_b, toI_i, toS_s, toL_l, cond_true, cond_false, List.length_map]
    rw [show IntKind.wrap .u64 0 = 0 by decide, wrapU64 (by omega) (by omega)]
theorem size_c {c : Int} (h1 : 0 ≤ c) (h2 : c ≤ 9223372036854775807) : cW f_fix_size [.i c] [] = some ([.i c], []) := by
  rw [w_fix_size, decide_eq_false (by omega)]
  simp only [Option.bind_some, Option.bind_none, andB, orB, orB2, List.getD_cons_zero, List.getD_cons_succ, toB_b, toI_i, toS_s, toL_l, cond_true, cond_false, List.length_map]
  rw [wrapU64 h1 (by omega)]
theorem div64_0 {x d : Int} (hx : 0 ≤ x) (hx2 : x ≤ 9223372036854775808) (hd : 0 < d) : cW f_math_bits_Div64 [.i 0, .i x, .i d] [] = some ([.i (x / d), .i (x % d)], []) := by
  have e : x / d ≤ x := Int.ediv_le_self _ hx
  have e0 : 0 ≤ x / d := Int.ediv_nonneg hx (by omega)
  rw [w_math_bits_Div64, show (d == 0) = false by simp; omega, show decide (d ≤ 0) = false by simp; omega, show ((0 : Int) == 0) = true from rfl, show (d != 0) = true by simp; omega]
  simp only [Option.bind_some, Option.bind_none, andB, orB, orB2, List.getD_cons_zero, List.getD_cons_succ, toB_b, toI_i, toS_s, toL_l, cond_true, cond_false, List.length_map]
  rw [Int.tdiv_eq_ediv_of_nonneg hx, Int.tmod_eq_emod_of_nonneg hx, wrapU64 e0 (by omega)]
/-- the floor of a quotient -/
theorem floor_c {a d : Int} (h1 : -9223372036854775807 ≤ a) (h2 : a ≤ 9223372036854775807) (hd : 0 < d) (hd2 : d ≤ 9223372036854775807) : cW f_fix_Floor [.i a, .i d] [] = some ([.i (a / d), .b true], []) := by
  rw [w_fix_Floor, w_fix_MulDiv, show (d == 0) = false by simp; omega]
  simp only [times1_c (a := a) (by omega) h2, abs_c (a := a) (by omega) h2, size_c (c := d) (by omega) hd2, Option.bind_some, Option.bind_none, andB, orB, orB2, List.getD_cons_zero, List.getD_cons_succ, toB_b, toI_i, toS_s, toL_l, cond_true, cond_false, List.length_map]
  rw [show decide ((0 : Int) ≥ d) = false by simp; omega, show decide (d < 0) = false by simp; omega]
  by_cases h : a < 0
  · rw [if_pos h, decide_eq_true h]
    simp only [div64_0 (x := -a) (d := d) (by omega) (by omega) hd, Option.bind_some, Option.bind_none, andB, orB, orB2, List.getD_cons_zero, List.getD_cons_succ, toB_b, toI_i, toS_s, toL_l, cond_true, cond_false, List.length_map]
    have q0 : 0 ≤ -a / d := Int.ediv_nonneg (by omega) (by omega)
    have q1 : -a / d ≤ -a := Int.ediv_le_self _ (by omega)
    have m0 := Int.emod_nonneg (-a) (show d ≠ 0 by omega)
    have m1 := Int.emod_lt_of_pos (-a) hd
    have dm := Int.mul_ediv_add_emod (-a) d
    rw [show (true == false) = false from rfl]
    simp only [Bool.and_true, Bool.true_and, Bool.and_false, Bool.false_and, Bool.or_true, Bool.true_or, Bool.or_false, Bool.false_or, Bool.not_true, Bool.not_false, Option.bind_some, Option.bind_none, andB, orB, orB2, List.getD_cons_zero, List.getD_cons_succ, toB_b, toI_i, toS_s, toL_l, cond_true, cond_false, List.length_map]
    cases hq : (-a / d == 0) with
    | true =>
      have hq : -a / d = 0 := by simpa using hq
      rw [hq] at dm ⊢
      have hm : -a % d > 0 := by omega
      rw [show (-a % d == 0) = false by simp; omega]
      rw [decide_eq_true hm]
      simp only [Bool.and_true, Bool.true_and, Bool.and_false, Bool.false_and, Bool.or_true, Bool.true_or, Bool.or_false, Bool.false_or, Bool.not_true, Bool.not_false, Option.bind_some, Option.bind_none, andB, orB, orB2, List.getD_cons_zero, List.getD_cons_succ, toB_b, toI_i, toS_s, toL_l, cond_true, cond_false, List.length_map]
      rw [show (IntKind.wrap .u64 (0 + 1) == 0) = false by decide]
      simp only [w_fix_narrowed, Bool.and_true, Bool.true_and, Bool.and_false, Bool.false_and, Bool.or_true, Bool.true_or, Bool.or_false, Bool.false_or, Bool.not_true, Bool.not_false, Option.bind_some, Option.bind_none, andB, orB, orB2, List.getD_cons_zero, List.getD_cons_succ, toB_b, toI_i, toS_s, toL_l, cond_true, cond_false, List.length_map]
      rw [show decide (IntKind.wrap .u64 (0 + 1) ≤ 9223372036854775808) = true by decide]
      simp only [Bool.and_true, Bool.true_and, Bool.and_false, Bool.false_and, Bool.or_true, Bool.true_or, Bool.or_false, Bool.false_or, Bool.not_true, Bool.not_false, Option.bind_some, Option.bind_none, andB, orB, orB2, List.getD_cons_zero, List.getD_cons_succ, toB_b, toI_i, toS_s, toL_l, cond_true, cond_false, List.length_map]
      rw [show IntKind.wrap .i64 (IntKind.wrap .u64 (0 - IntKind.wrap .u64 (0 + 1))) = -1 by decide]
      have : a / d = -1 := by
        have : a = -1 * d + (d + a) := by omega
        rw [this, Int.add_comm, Int.add_mul_ediv_right _ _ (by omega), Int.ediv_eq_zero_of_lt (by omega) (by omega)]
        rfl
      rw [this]
    | false =>
      simp only [Bool.and_true, Bool.true_and, Bool.and_false, Bool.false_and, Bool.or_true, Bool.true_or, Bool.or_false, Bool.false_or, Bool.not_true, Bool.not_false, Option.bind_some, Option.bind_none, andB, orB, orB2, List.getD_cons_zero, List.getD_cons_succ, toB_b, toI_i, toS_s, toL_l, cond_true, cond_false, List.length_map]
      generalize hQ : -a / d = q at *
      generalize hM : -a % d = m at *
      have key : a = (-q) * d - m := by rw [Int.neg_mul, Int.mul_comm]; omega
      cases hm : decide (m > 0) with
      | false =>
        have hm : m = 0 := by simp at hm; omega
        simp only [w_fix_narrowed, Bool.and_true, Bool.true_and, Bool.and_false, Bool.false_and, Bool.or_true, Bool.true_or, Bool.or_false, Bool.false_or, Bool.not_true, Bool.not_false, Option.bind_some, Option.bind_none, andB, orB, orB2, List.getD_cons_zero, List.getD_cons_succ, toB_b, toI_i, toS_s, toL_l, cond_true, cond_false, List.length_map]
        rw [decide_eq_true (p := q ≤ 9223372036854775808) (by omega)]
        simp only [Bool.and_true, Bool.true_and, Bool.and_false, Bool.false_and, Bool.or_true, Bool.true_or, Bool.or_false, Bool.false_or, Bool.not_true, Bool.not_false, Option.bind_some, Option.bind_none, andB, orB, orB2, List.getD_cons_zero, List.getD_cons_succ, toB_b, toI_i, toS_s, toL_l, cond_true, cond_false, List.length_map]
        have qp : q ≠ 0 := by simpa using hq
        rw [wrap_back (n := 0 - q) (by omega) (by omega)]
        have : a / d = -q := by
          rw [key, hm, Int.sub_zero, Int.mul_ediv_cancel _ (by omega)]
        rw [this, Int.zero_sub]
      | true =>
        have hm : m > 0 := by simpa using hm
        simp only [Bool.and_true, Bool.true_and, Bool.and_false, Bool.false_and, Bool.or_true, Bool.true_or, Bool.or_false, Bool.false_or, Bool.not_true, Bool.not_false, Option.bind_some, Option.bind_none, andB, orB, orB2, List.getD_cons_zero, List.getD_cons_succ, toB_b, toI_i, toS_s, toL_l, cond_true, cond_false, List.length_map]
        rw [wrapU64 (n := q + 1) (by omega) (by omega), show (q + 1 == 0) = false by simp; omega]
        simp only [w_fix_narrowed, Bool.and_true, Bool.true_and, Bool.and_false, Bool.false_and, Bool.or_true, Bool.true_or, Bool.or_false, Bool.false_or, Bool.not_true, Bool.not_false, Option.bind_some, Option.bind_none, andB, orB, orB2, List.getD_cons_zero, List.getD_cons_succ, toB_b, toI_i, toS_s, toL_l, cond_true, cond_false, List.length_map]
        rw [decide_eq_true (p := q + 1 ≤ 9223372036854775808) (by omega)]
        simp only [Bool.and_true, Bool.true_and, Bool.and_false, Bool.false_and, Bool.or_true, Bool.true_or, Bool.or_false, Bool.false_or, Bool.not_true, Bool.not_false, Option.bind_some, Option.bind_none, andB, orB, orB2, List.getD_cons_zero, List.getD_cons_succ, toB_b, toI_i, toS_s, toL_l, cond_true, cond_false, List.length_map]
        have : a / d = -(q + 1) := by
          have : a = (d - m) + (-(q + 1)) * d := by rw [key, Int.neg_mul, Int.neg_mul, Int.add_mul]; omega
          rw [this, Int.add_mul_ediv_right _ _ (by omega), Int.ediv_eq_zero_of_lt (by omega) (by omega)]; omega
        rw [this]
        rw [wrap_back (n := 0 - (q + 1)) (by omega) (by omega), Int.zero_sub]
  · rw [if_neg h, decide_eq_false h]
    simp only [div64_0 (x := a) (d := d) (by omega) (by omega) hd, Option.bind_some, Option.bind_none, andB, orB, orB2, List.getD_cons_zero, List.getD_cons_succ, toB_b, toI_i, toS_s, toL_l, cond_true, cond_false, List.length_map]
    have q0 : 0 ≤ a / d := Int.ediv_nonneg (by omega) (by omega)
    have q1 : a / d ≤ a := Int.ediv_le_self _ (by omega)
    rw [show (false == false) = true from rfl]
    simp only [w_fix_narrowed, Bool.and_true, Bool.true_and, Bool.and_false, Bool.false_and, Bool.or_true, Bool.true_or, Bool.or_false, Bool.false_or, Bool.not_true, Bool.not_false, Option.bind_some, Option.bind_none, andB, orB, orB2, List.getD_cons_zero, List.getD_cons_succ, toB_b, toI_i, toS_s, toL_l, cond_true, cond_false, List.length_map]
    rw [decide_eq_true (p := a / d ≤ 9223372036854775807) (by omega)]
    simp only [Bool.and_true, Bool.true_and, Bool.and_false, Bool.false_and, Bool.or_true, Bool.true_or, Bool.or_false, Bool.false_or, Bool.not_true, Bool.not_false, Option.bind_some, Option.bind_none, andB, orB, orB2, List.getD_cons_zero, List.getD_cons_succ, toB_b, toI_i, toS_s, toL_l, cond_true, cond_false, List.length_map]
    rw [wrap64 (by omega) (by omega)]
theorem clT_bif (t : Int) : (bif decide ((65535 : Int) < (bif decide ((0 : Int) > t) then 0 else t)) then 65535 else (bif decide ((0 : Int) > t) then 0 else t)) = clT t := by
  unfold clT
  simp only [Bool.cond_decide]
  by_cases h : t < 0
  · rw [if_pos h, if_pos (show (0 : Int) > t from h), if_neg (by decide)]
  · rw [if_neg h, if_neg (show ¬ (0 : Int) > t from h)]
theorem far_w {d c : Int} (h1 : -2199023255552 ≤ d) (h2 : d ≤ 2199023255552) (c0 : 0 ≤ c) (c1 : c ≤ 65535) : -144115188075855872 ≤ d * c ∧ d * c ≤ 144115188075855872 := by
  obtain ⟨p, q⟩ := prod_r (d := d) c0 c1
  rcases Int.le_total 0 d with h | h
  · have := p h; omega
  · have := q h; omega
theorem wide_bif {a b : Int} (h1 : -9223372036854775808 ≤ a ∧ a ≤ 9223372036854775807) (h2 : -9223372036854775808 ≤ b ∧ b ≤ 9223372036854775807) :
    ((bif decide ((bif decide (IntKind.wrap .i64 (0 - b) > (bif decide (b > (bif decide (IntKind.wrap .i64 (0 - a) > a) then IntKind.wrap .i64 (0 - a) else a)) then b else (bif decide (IntKind.wrap .i64 (0 - a) > a) then IntKind.wrap .i64 (0 - a) else a))) then IntKind.wrap .i64 (0 - b) else (bif decide (b > (bif decide (IntKind.wrap .i64 (0 - a) > a) then IntKind.wrap .i64 (0 - a) else a)) then b else (bif decide (IntKind.wrap .i64 (0 - a) > a) then IntKind.wrap .i64 (0 - a) else a))) > 1099511627776) then some [PV.b true]
      else some [PV.b (decide ((bif decide (b < a) then b else a) < -1099511627776))])) = some [PV.b (!decide (inW a ∧ inW b))] := by
  have n : ∀ x : Int, -9223372036854775808 ≤ x → x ≤ 9223372036854775807 → IntKind.wrap .i64 (0 - x) = if x = -9223372036854775808 then x else -x := by
    intro x k1 k2
    split
    · rename_i h; rw [h]; decide
    · rw [wrap64 (by omega) (by omega)]; omega
  rw [n a h1.1 h1.2, n b h2.1 h2.2]
  generalize hx : (if a = -9223372036854775808 then a else -a) = x
  generalize hy : (if b = -9223372036854775808 then b else -b) = y
  have hx1 : x = a ∧ a = -9223372036854775808 ∨ x = -a ∧ a ≠ -9223372036854775808 := by rw [← hx]; split <;> omega
  have hy1 : y = b ∧ b = -9223372036854775808 ∨ y = -b ∧ b ≠ -9223372036854775808 := by rw [← hy]; split <;> omega
  clear hx hy n
  simp only [Bool.cond_decide]
  generalize hm : (if x > a then x else a) = m
  have hm1 : (m = x ∨ m = a) ∧ x ≤ m ∧ a ≤ m := by rw [← hm]; split <;> omega
  clear hm
  generalize hp : (if b > m then b else m) = p
  have hp1 : (p = b ∨ p = m) ∧ b ≤ p ∧ m ≤ p := by rw [← hp]; split <;> omega
  clear hp
  generalize hq : (if y > p then y else p) = q
  have hq1 : (q = y ∨ q = p) ∧ y ≤ q ∧ p ≤ q := by rw [← hq]; split <;> omega
  clear hq
  generalize hr : (if b < a then b else a) = r
  have hr1 : (r = a ∨ r = b) ∧ r ≤ a ∧ r ≤ b := by rw [← hr]; split <;> omega
  clear hr
  split
  · rw [decide_eq_false]; rfl
    unfold inW; omega
  · congr 3
    rw [Bool.eq_iff_iff]
    simp only [Bool.not_eq_true', decide_eq_false_iff_not, decide_eq_true_eq]
    unfold inW
    omega
theorem Between_c {a b : Int} (t : Int) (h1 : -9223372036854775808 ≤ a ∧ a ≤ 9223372036854775807) (h2 : -9223372036854775808 ≤ b ∧ b ≤ 9223372036854775807) : cW f_morph_Between [.i a, .i b, .i t] [] = some ([.i (betw a b t)], []) := by
  rw [w_morph_Between, wide_bif h1 h2, clT_bif]
  unfold betw
  simp only [Option.bind_some, Option.bind_none, andB, orB, orB2, List.getD_cons_zero, List.getD_cons_succ, toB_b, toI_i, toS_s, toL_l, cond_true, cond_false, List.length_map]
  by_cases h : inW a ∧ inW b
  · rw [if_pos h, decide_eq_true h]
    obtain ⟨⟨a0, a1⟩, b0, b1⟩ := h
    obtain ⟨c0, c1⟩ := clT_r t
    obtain ⟨f0, f1⟩ := far_w (d := b - a) (c := clT t) (by omega) (by omega) c0 c1
    obtain ⟨m0, m1⟩ := betw_rng (t := t) (lo := -1099511627776) (hi := 1099511627776) (a := a) (b := b) ⟨a0, a1⟩ ⟨b0, b1⟩ ⟨a0, a1⟩ ⟨b0, b1⟩
    unfold betw at m0 m1
    rw [if_pos ⟨⟨a0, a1⟩, b0, b1⟩] at m0 m1
    rw [wrap64 (n := b - a) (by omega) (by omega), wrap64 (n := (b - a) * clT t) (by omega) (by omega)]
    simp only [floor_c (a := (b - a) * clT t) (d := 65535) (by omega) (by omega) (by decide) (by decide), Bool.not_true, Option.bind_some, Option.bind_none, andB, orB, orB2, List.getD_cons_zero, List.getD_cons_succ, toB_b, toI_i, toS_s, toL_l, cond_true, cond_false, List.length_map]
    rw [wrap64 (by omega) (by omega)]
  · rw [if_neg h, decide_eq_false h]; rfl
end Go.AI
set_option linter.unusedVariables false
set_option linter.unusedSimpArgs false
set_option maxRecDepth 100000
namespace Go.AI
open Go Go.Proofs

theorem awake10 : cW f_celluloidlaw10_awake [] [] = some ([.b true], []) := c_at 100 (by kernel_rfl)
end Go.AI
set_option linter.unusedVariables false
set_option linter.unusedSimpArgs false
set_option maxRecDepth 100000
namespace Go.AI
open Go Go.Proofs

theorem MorphRises_c {a b t m : Int} (h1 : -2147483648 ≤ a ∧ a ≤ 2147483647) (h2 : -2147483648 ≤ b ∧ b ≤ 2147483647) (h3 : 0 ≤ t ∧ t ≤ 65535) (h4 : 0 ≤ m ∧ m ≤ 65535) : cW f_celluloidlaw10_MorphRises [.i a, .i b, .i t, .i m] [] = some ([.b true], []) := by
  have ha : inW a := by unfold inW; omega
  have hb : inW b := by unfold inW; omega
  have hv : ∃ v, t ≤ v ∧ (bif decide ((65535 : Int) < t + m) then (65535 : Int) else t + m) = v := by
    refine ⟨_, ?_, rfl⟩
    rw [Bool.cond_decide]
    split <;> omega
  obtain ⟨v, tv, ev⟩ := hv
  rw [w_celluloidlaw10_MorphRises]
  rw [wrap64 (n := a) (by omega) (by omega), wrap64 (n := b) (by omega) (by omega), wrap64 (n := t) (by omega) (by omega), wrap64 (n := m) (by omega) (by omega), wrap64 (n := t + m) (by omega) (by omega), ev]
  have e : ∀ x y c : Int, -2147483648 ≤ x ∧ x ≤ 2147483647 → -2147483648 ≤ y ∧ y ≤ 2147483647 → _ := fun x y c k1 k2 => Between_c (a := x) (b := y) c (by omega) (by omega)
  simp only [e a b t h1 h2, e a b v h1 h2, e a b 0 h1 h2, e a b 65535 h1 h2, e a a t h1 h1, betw_0 ha hb, betw_1 ha hb, betw_same ha, awake10, beq_self_eq_true, Bool.and_true, Bool.true_and, Bool.and_false, Bool.false_and, Bool.or_true, Bool.true_or, Bool.or_false, Bool.false_or, Bool.not_true, Bool.not_false, Option.bind_some, Option.bind_none, andB, orB, orB2, List.getD_cons_zero, List.getD_cons_succ, toB_b, toI_i, toS_s, toL_l, cond_true, cond_false, List.length_map]
  obtain ⟨p, q⟩ := betw_up (t := t) (u := v) ha hb tv
  by_cases c1 : a ≤ b
  · rw [decide_eq_true c1, decide_eq_false (p := betw a b t > betw a b v) (by have := p c1; omega)]
    by_cases c2 : a ≥ b
    · rw [decide_eq_true c2, decide_eq_false (p := betw a b t < betw a b v) (by have := q c2; omega)]
      simp only [Bool.and_true, Bool.true_and, Bool.and_false, Bool.false_and, Bool.or_true, Bool.true_or, Bool.or_false, Bool.false_or, Bool.not_true, Bool.not_false, Option.bind_some, Option.bind_none, andB, orB, orB2, List.getD_cons_zero, List.getD_cons_succ, toB_b, toI_i, toS_s, toL_l, cond_true, cond_false, List.length_map]
    · rw [decide_eq_false c2]
      simp only [Bool.and_true, Bool.true_and, Bool.and_false, Bool.false_and, Bool.or_true, Bool.true_or, Bool.or_false, Bool.false_or, Bool.not_true, Bool.not_false, Option.bind_some, Option.bind_none, andB, orB, orB2, List.getD_cons_zero, List.getD_cons_succ, toB_b, toI_i, toS_s, toL_l, cond_true, cond_false, List.length_map]
  · have c2 : a ≥ b := by omega
    rw [decide_eq_false c1, decide_eq_true c2, decide_eq_false (p := betw a b t < betw a b v) (by have := q c2; omega)]
    simp only [Bool.and_true, Bool.true_and, Bool.and_false, Bool.false_and, Bool.or_true, Bool.true_or, Bool.or_false, Bool.false_or, Bool.not_true, Bool.not_false, Option.bind_some, Option.bind_none, andB, orB, orB2, List.getD_cons_zero, List.getD_cons_succ, toB_b, toI_i, toS_s, toL_l, cond_true, cond_false, List.length_map]
end Go.AI
