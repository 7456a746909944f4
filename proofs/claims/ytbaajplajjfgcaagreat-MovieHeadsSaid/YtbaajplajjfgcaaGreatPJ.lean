/- One tag, written. -/
import Derived.Test.YtbaajplajjfgcaaGreatU13
import Derived.Test.YtbaajplajjfgcaaGreatT23b
import Derived.Test.YtbaajplajjfgcaaGreatP02
import Derived.Test.YtbaajplajjfgcaaGreatW
set_option linter.unusedVariables false
set_option linter.unusedSimpArgs false
set_option maxRecDepth 100000
namespace Go.AI
open Go Go.Proofs

abbrev Tg := Int × List UInt8
theorem littleB_2 (v : Nat) : littleB v 2 = le2 v := by
  simp [littleB, le2]
theorem littleB_4 (v : Nat) : littleB v 4 = le4 v := by
  simp [littleB, le4]
theorem putLittle_c {s : List UInt8} (hs : s.length ≤ 500000000) (f : Int) {v k : Nat} (h1 : 1 ≤ k) (h2 : k ≤ 4) (hv : v < 256 ^ k) : cW f_bits_PutLittle [.s s, .i f, .i v, .i k] [] = some ([.s (s ++ littleB v k), .i 0, .i 0], []) := by
  have hb : v < 256 ^ 4 := Nat.lt_of_lt_of_le hv (Nat.pow_le_pow_right (by decide) h2)
  have hb : v < 4294967296 := hb
  rw [(putLittle_ans hs f v k (by omega)).c]
  unfold putLittleF encW
  rw [Int.toNat_natCast, Int.toNat_natCast, if_neg (by
    rintro (h | h | h | h)
    · omega
    · omega
    · omega
    · have h' : (2 : Int) ^ (8 * k) ≤ (v : Int) := h
      have h3 : 2 ^ (8 * k) ≤ v := by exact_mod_cast h'
      rw [Nat.pow_mul] at h3
      exact absurd hv (Nat.not_lt.2 h3))]
theorem minB (n : Nat) : (bif (decide ((63 : Int) < ((n : Nat) : Int))) then (63 : Int) else ((n : Nat) : Int)) = ((min n 63 : Nat) : Int) := by
  by_cases h : 63 < n
  · rw [decide_eq_true (by omega), cond_true]; omega
  · rw [decide_eq_false (by omega), cond_false]; omega
theorem room2J {a b : Nat} (h : a + b ≤ 1099511627776) : decide (a + b ≤ 1099511627776) = true := decide_eq_true h
theorem tagPut_c {c : Int} {s : List UInt8} (hs : s.length ≤ 400000000) : cW f_tag_Put [.i c, .s s] [] = some ([.s (putT c s).1, .i (putT c s).2], []) := by
  rw [w_tag_Put]
  unfold putT
  by_cases h : c < 0 ∨ c ≥ 1024
  · have e : (decide (c < 0) || decide (c ≥ 1024)) = true := by simpa using h
    simp only [Option.bind_some, Option.bind_none, andB, orB, orB2, List.getD_cons_zero, List.getD_cons_succ, toB_b, toI_i, toS_s, toL_l, cond_true, cond_false, List.length_map, e]
    rw [if_pos h]
  · have e : (decide (c < 0) || decide (c ≥ 1024)) = false := by simpa using h
    rw [if_neg h]
    obtain ⟨c, rfl⟩ := Int.eq_ofNat_of_zero_le (by omega : 0 ≤ c)
    have e1 : shl .i64 (c : Int) 6 = ((c * 2 ^ 6 : Nat) : Int) := shl64 (y := 6) (by omega) (by decide)
    have e2 : bitsOp .or .i64 ((c * 2 ^ 6 : Nat) : Int) ((min s.length 63 : Nat) : Int) = ((c * 2 ^ 6 + min s.length 63 : Nat) : Int) := or_add (n := 6) (by omega) (by omega)
    have e3 := putLittle_c (s := []) (by simp) 0 (v := c * 2 ^ 6 + min s.length 63) (k := 2) (by omega) (by omega) (by omega)
    simp only [Option.bind_some, Option.bind_none, andB, orB, orB2, List.getD_cons_zero, List.getD_cons_succ, toB_b, toI_i, toS_s, toL_l, cond_true, cond_false, List.length_map, e, minB, e1, e2]
    rw [show (2 : Int) = ((2 : Nat) : Int) from rfl, e3]
    simp only [Option.bind_some, Option.bind_none, andB, orB, orB2, List.getD_cons_zero, List.getD_cons_succ, toB_b, toI_i, toS_s, toL_l, cond_true, cond_false, List.length_map, List.nil_append, littleB_2, Int.toNat_natCast]
    by_cases hl : 63 ≤ s.length
    · have m : ((((min s.length 63 : Nat) : Int)) == 63) = true := by rw [beq_iff_eq]; omega
      have e4 := putLittle_c (s := le2 (c * 2 ^ 6 + min s.length 63)) (by simp [le2]) 0 (v := s.length) (k := 4) (by omega) (by omega) (by omega)
      rw [show (4 : Int) = ((4 : Nat) : Int) from rfl, e4]
      simp only [Option.bind_some, Option.bind_none, andB, orB, orB2, List.getD_cons_zero, List.getD_cons_succ, toB_b, toI_i, toS_s, toL_l, cond_true, cond_false, List.length_map, m, littleB_4, if_pos hl]
      rw [room2J (by simp [le2, le4]; omega)]
      rfl
    · have m : ((((min s.length 63 : Nat) : Int)) == 63) = false := by rw [beq_eq_false_iff_ne]; omega
      simp only [Option.bind_some, Option.bind_none, andB, orB, orB2, List.getD_cons_zero, List.getD_cons_succ, toB_b, toI_i, toS_s, toL_l, cond_true, cond_false, List.length_map, m, if_neg hl, List.append_nil]
      rw [room2J (by simp [le2]; omega)]
      rfl

end Go.AI
