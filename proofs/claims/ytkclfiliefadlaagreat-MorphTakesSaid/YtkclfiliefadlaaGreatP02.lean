/- What the functions of bits answer. -/
import Derived.Test.YtkclfiliefadlaaGreatU
import Derived.Test.YtkclfiliefadlaaGreatAiM
set_option linter.unusedVariables false
set_option linter.unusedSimpArgs false
set_option maxRecDepth 100000
namespace Go.AI
open Go Go.Proofs


def rightB (s : List UInt8) (a : Int) : Bool := decide (0 ≤ a) && decide (a ≤ 8 * (s.length : Int))
theorem right_ans {s : List UInt8} (hs : s.length ≤ 2 ^ 40) (a : Int) : Ans (fun k => call k f_bits_right [.s s, .i a] []) ([.b (rightB s a)], []) := by
  refine Ans.succ (fun k => u_bits_right k s a) ?_
  have hs : s.length ≤ 1099511627776 := hs
  rw [wrap64 (n := 8 * (s.length : Int)) (by omega) (by omega)]
  unfold rightB
  by_cases h : 0 ≤ a
  · have h1 : decide (a ≥ 0) = true := by simpa using h
    have h2 : decide (0 ≤ a) = true := by simpa using h
    simp only [h1, h2, cond_true, Option.bind_some, List.getD_cons_zero, PV.toB, Bool.true_and]
    exact .pure _
  · have h1 : decide (a ≥ 0) = false := by simpa using h
    have h2 : decide (0 ≤ a) = false := by simpa using h
    simp only [h1, h2, cond_false, Option.bind_some, List.getD_cons_zero, PV.toB, Bool.false_and]
    exact .pure _

theorem plain_loop {s : List UInt8} (hs : s.length ≤ 2 ^ 40) (a n : Nat) (hn : n ≤ 31) (ha : a + n ≤ 8 * s.length) (o1 : List UInt8) (o2 : Int) : ∀ j i, i + j = n →
    Ans (fun k => run k f_bits_Plain [] at_bits_Plain_L1 (S_bits_Plain_L1 n (fieldN s a i) ((a + i : Nat) : Int) s a o1 o2)) ([.i (fieldN s a n), .s s, .i ((a + n : Nat) : Int), .i 0], [])
  | 0, i, hj => by
    refine Ans.succ (fun k => u_bits_Plain_L1 k ..) ?_
    have hs : s.length ≤ 1099511627776 := hs
    obtain rfl : i = n := hj
    have e : IntKind.wrap .i64 ((a : Int) + (i : Int)) = ((a + i : Nat) : Int) := by rw [wrap64 (by omega) (by omega)]; rfl
    have h1 : decide (((a + i : Nat) : Int) < ((a + i : Nat) : Int)) = false := by simp
    simp only [e, h1, cond_false]
    exact .pure _
  | j + 1, i, hj => by
    refine Ans.succ (fun k => u_bits_Plain_L1 k ..) ?_
    have hs : s.length ≤ 1099511627776 := hs
    have e : IntKind.wrap .i64 ((a : Int) + (n : Int)) = ((a + n : Nat) : Int) := by rw [wrap64 (by omega) (by omega)]; rfl
    have h1 : decide (((a + i : Nat) : Int) < ((a + n : Nat) : Int)) = true := by simp; omega
    have e2 : IntKind.wrap .i64 (Int.tdiv ((a + i : Nat) : Int) (8 : Int)) = (((a + i) / 8 : Nat) : Int) := by
      rw [show (8 : Int) = ((8 : Nat) : Int) from rfl, tdivN, wrap64 (by omega) (by omega)]
    have e3 : IntKind.wrap .i64 ((7 : Int) - (Int.tmod ((a + i : Nat) : Int) (8 : Int))) = ((7 - (a + i) % 8 : Nat) : Int) := by
      rw [show (8 : Int) = ((8 : Nat) : Int) from rfl, tmodN, wrap64 (by omega) (by omega)]; omega
    have h2 : inB (((a + i) / 8 : Nat) : Int) s.length = true := by unfold inB; simp; omega
    have h3 : decide ((0 : Int) ≤ ((7 - (a + i) % 8 : Nat) : Int)) = true := by simp
    have e4 : bt s (((a + i) / 8 : Nat) : Int) = (((s.getD ((a + i) / 8) 0).toNat : Nat) : Int) := by unfold bt; rw [Int.toNat_natCast]
    have hlt : (s.getD ((a + i) / 8) 0).toNat < 256 := UInt8.toNat_lt _
    have e5 : IntKind.wrap .i64 (bitsOp .and .u8 (shr .u8 (bt s (((a + i) / 8 : Nat) : Int)) ((7 - (a + i) % 8 : Nat) : Int)) 1) = ((bitN s (a + i) : Nat) : Int) := by
      rw [e4, shrN (by show _ ≤ 8; omega), and1_u8 (Nat.lt_of_le_of_lt (Nat.div_le_self _ _) hlt)]
      have := bitN_lt s (a + i)
      unfold bitN at this ⊢
      rw [wrap64 (by omega) (by omega)]
    have hf : fieldN s a i < 2 ^ i := fieldN_lt s a i
    have hi : 2 ^ i ≤ 2 ^ 30 := Nat.pow_le_pow_right (by decide) (by omega)
    have hi : 2 ^ i ≤ 1073741824 := hi
    have hb := bitN_lt s (a + i)
    have e6 : bitsOp .or .i64 (shl .i64 (fieldN s a i : Int) 1) ((bitN s (a + i) : Nat) : Int) = ((fieldN s a (i + 1) : Nat) : Int) := by
      rw [show (1 : Int) = ((1 : Nat) : Int) from rfl, shl64 (by omega) (by decide), or_add (by omega) (by omega)]
      simp only [fieldN]; omega
    have e7 : IntKind.wrap .i64 (((a + i : Nat) : Int) + 1) = ((a + (i + 1) : Nat) : Int) := by rw [wrap64 (by omega) (by omega)]; omega
    simp only [e, e2, e3, h1, h2, h3, e5, e6, e7, cond_true]
    exact plain_loop hs a n hn ha o1 o2 j (i + 1) (by omega)

/-- the next bits -/
def plainF (s : List UInt8) (a n : Int) : Int × List UInt8 × Int × Int :=
  if rightB s a = false ∨ n < 0 ∨ n > 31 then (0, [], 0, 1) else if a + n > 8 * (s.length : Int) then (0, [], 0, 2) else (fieldN s a.toNat n.toNat, s, a + n, 0)
def encF (r : Int × List UInt8 × Int × Int) : Res := ([.i r.1, .s r.2.1, .i r.2.2.1, .i r.2.2.2], [])
theorem plain_ans {s : List UInt8} (hs : s.length ≤ 2 ^ 40) (a n : Int) : Ans (fun k => call k f_bits_Plain [.s s, .i a, .i n] []) (encF (plainF s a n)) := by
  refine Ans.succ (fun k => u_bits_Plain k s a n) ?_
  refine Ans.bind (x := [.b (!rightB s a || (decide (n < 0) || decide (n > 31)))]) (Ans.bind (right_ans hs a) ?_) ?_
  · simp only [List.getD_cons_zero, PV.toB]
    refine .ite (fun h => ?_) (fun h => .ite (fun h2 => ?_) (fun h2 => ?_))
    · exact .pure' (by rw [h]; rfl)
    · exact .pure' (by rw [h, h2]; rfl)
    · exact .pure' (by rw [h, h2]; rfl)
  · simp only [List.getD_cons_zero, PV.toB]
    refine .ite (fun h => ?_) (fun h => ?_)
    · refine .pure' ?_
      have : rightB s a = false ∨ n < 0 ∨ n > 31 := by simpa using h
      unfold plainF
      rw [if_pos this]; rfl
    · simp only [Bool.or_eq_false_iff, Bool.not_eq_false', decide_eq_false_iff_not] at h
      obtain ⟨h1, h2, h3⟩ := h
      have hr := h1
      unfold rightB at hr
      simp only [Bool.and_eq_true, decide_eq_true_eq] at hr
      have hs' : s.length ≤ 1099511627776 := hs
      have e1 : IntKind.wrap .i64 (8 * (s.length : Int)) = 8 * (s.length : Int) := wrap64 (by omega) (by omega)
      have e2 : IntKind.wrap .i64 (a + n) = a + n := wrap64 (by omega) (by omega)
      rw [e1, e2]
      have hn : ¬ (rightB s a = false ∨ n < 0 ∨ n > 31) := by rw [h1]; simp; omega
      unfold plainF
      rw [if_neg hn]
      refine .ite (fun h => ?_) (fun h => ?_)
      · rw [if_pos (by simpa using h)]; exact .pure _
      · have h : ¬ (a + n > 8 * (s.length : Int)) := by simpa using h
        rw [if_neg h]
        obtain ⟨a', rfl⟩ := Int.eq_ofNat_of_zero_le hr.1
        obtain ⟨n', rfl⟩ := Int.eq_ofNat_of_zero_le (by omega : 0 ≤ n)
        have := plain_loop hs a' n' (by omega) (by omega) [] 0 n' 0 (by omega)
        exact this
end Go.AI
set_option linter.unusedVariables false
set_option linter.unusedSimpArgs false
set_option maxRecDepth 100000
namespace Go.AI
open Go Go.Proofs

theorem ng {b : Bool} {p q : Prop} (h1 : b = true) (h2 : ¬ p) (h3 : ¬ q) : ¬ (b = false ∨ p ∨ q) := by
  rintro (h | h | h)
  · rw [h1] at h; cases h
  · exact h2 h
  · exact h3 h
theorem rightB_iff {s : List UInt8} {a : Int} : rightB s a = true ↔ 0 ≤ a ∧ a ≤ 8 * (s.length : Int) := by unfold rightB; simp
theorem plainF_cases (s : List UInt8) (a n : Int) : plainF s a n = (0, [], 0, 1) ∨ plainF s a n = (0, [], 0, 2) ∨
    ∃ a' n' : Nat, a = a' ∧ n = n' ∧ n' ≤ 31 ∧ a' + n' ≤ 8 * s.length ∧ plainF s a n = (((fieldN s a' n' : Nat) : Int), s, ((a' + n' : Nat) : Int), 0) := by
  by_cases h : rightB s a = false ∨ n < 0 ∨ n > 31
  · left; unfold plainF; rw [if_pos h]
  · by_cases h2 : a + n > 8 * (s.length : Int)
    · right; left; unfold plainF; rw [if_neg h, if_pos h2]
    · right; right
      have hr : rightB s a = true := by
        cases hb : rightB s a
        · exact absurd (.inl hb) h
        · rfl
      have hr' := rightB_iff.1 hr
      have h3 : ¬ n < 0 := fun e => h (.inr (.inl e))
      have h4 : ¬ n > 31 := fun e => h (.inr (.inr e))
      obtain ⟨a', rfl⟩ := Int.eq_ofNat_of_zero_le hr'.1
      obtain ⟨n', rfl⟩ := Int.eq_ofNat_of_zero_le (by omega : 0 ≤ n)
      refine ⟨a', n', rfl, rfl, by omega, by omega, ?_⟩
      unfold plainF; rw [if_neg h, if_neg h2]; rfl

/-- a field with a sign -/
def signedF (s : List UInt8) (a n : Int) : Int × List UInt8 × Int × Int :=
  let r := plainF s a n
  (if r.2.2.2 = 0 ∧ n > 0 ∧ 2 * r.1 ≥ 2 ^ n.toNat then r.1 - 2 ^ n.toNat else r.1, r.2)
theorem signed_ans {s : List UInt8} (hs : s.length ≤ 2 ^ 40) (a n : Int) : Ans (fun k => call k f_bits_Signed [.s s, .i a, .i n] []) (encF (signedF s a n)) := by
  refine Ans.succ (fun k => u_bits_Signed k s a n) ?_
  refine Ans.bind (plain_ans hs a n) ?_
  rcases plainF_cases s a n with h | h | ⟨a, n, rfl, rfl, hn, ha, h⟩
  · unfold signedF; rw [h]
    simp only [encF, List.getD_cons_zero, List.getD_cons_succ, PV.toI, PV.toS]
    exact .bind (x := [.b false]) (.no (by decide) (.pure _)) (.no (by decide) (.pure _))
  · unfold signedF; rw [h]
    simp only [encF, List.getD_cons_zero, List.getD_cons_succ, PV.toI, PV.toS]
    exact .bind (x := [.b false]) (.no (by decide) (.pure _)) (.no (by decide) (.pure _))
  · unfold signedF; rw [h]
    simp only [encF, List.getD_cons_zero, List.getD_cons_succ, PV.toI, PV.toS]
    have hf := fieldN_lt s a n
    have h31 : 2 ^ n ≤ 2147483648 := Nat.pow_le_pow_right (n := 2) (by decide) hn
    by_cases h0 : n = 0
    · subst h0
      exact .bind (x := [.b false]) (.yes (by decide) (.no (by decide) (.pure _))) (.no (by decide) (.pure' (by simp)))
    · have e1 : IntKind.wrap .i64 ((n : Int) - 1) = ((n - 1 : Nat) : Int) := by rw [wrap64 (by omega) (by omega)]; omega
      have hp : 2 ^ n = 2 * 2 ^ (n - 1) := by rw [← Nat.pow_succ']; congr 1; omega
      have hdiv : (fieldN s a n / 2 ^ (n - 1) = 1) ↔ 2 * fieldN s a n ≥ 2 ^ n := by
        have hpos : 0 < 2 ^ (n - 1) := Nat.pow_pos (by decide)
        rw [hp]
        constructor
        · intro h
          have := Nat.div_mul_le_self (fieldN s a n) (2 ^ (n - 1))
          rw [h] at this; omega
        · intro h
          exact Nat.div_eq_of_lt_le (by omega) (by omega)
      refine .bind (x := [.b (decide (2 * fieldN s a n ≥ 2 ^ n))]) (.yes (by decide) (.yes (by simp; omega) ?_)) ?_
      · rw [e1, shrN (by show _ ≤ 64; omega)]
        refine .yes (by simp) (.pure' ?_)
        congr 3
        by_cases hd : 2 * fieldN s a n ≥ 2 ^ n
        · rw [hdiv.2 hd]; simp [hd]
        · have : fieldN s a n / 2 ^ (n - 1) ≠ 1 := fun e => hd (hdiv.1 e)
          simp only [decide_eq_false hd]
          simpa using fun e => this (by exact_mod_cast e)
      · simp only [List.getD_cons_zero, PV.toB]
        refine .ite (fun hd => ?_) (fun hd => ?_)
        · have hd : 2 * fieldN s a n ≥ 2 ^ n := by simpa using hd
          have e2 : shl .i64 1 (n : Int) = ((2 ^ n : Nat) : Int) := by
            have := shl64 (x := 1) (y := n) (by omega) (by omega)
            rw [Nat.one_mul] at this; exact this
          have c : True ∧ (n : Int) > 0 ∧ 2 * ((fieldN s a n : Nat) : Int) ≥ 2 ^ (n : Int).toNat := by
            refine ⟨trivial, by omega, ?_⟩
            rw [Int.toNat_natCast]; exact_mod_cast hd
          refine .yes (by simp) (.pure' ?_)
          rw [if_pos c, e2, Int.toNat_natCast, wrap64 (by omega) (by omega)]
          congr 3
        · have hd : ¬ 2 * fieldN s a n ≥ 2 ^ n := by simpa using hd
          have c : ¬ (True ∧ (n : Int) > 0 ∧ 2 * ((fieldN s a n : Nat) : Int) ≥ 2 ^ (n : Int).toNat) := by
            rintro ⟨_, _, h⟩
            rw [Int.toNat_natCast] at h
            exact hd (by exact_mod_cast h)
          rw [if_neg c]
          exact .pure _

/-! ### the document's -/
theorem rright_ans {s : List UInt8} (hs : s.length ≤ 2 ^ 40) (a : Int) : Ans (fun k => call k f_celluloidref02_Right [.s s, .i a] []) ([.b (rightB s a)], []) := by
  refine Ans.succ (fun k => u_celluloidref02_Right k s a) ?_
  have hs : s.length ≤ 1099511627776 := hs
  rw [wrap64 (n := 8 * (s.length : Int)) (by omega) (by omega)]
  unfold rightB
  by_cases h : 0 ≤ a
  · have h1 : decide (a ≥ 0) = true := by simpa using h
    have h2 : decide (0 ≤ a) = true := by simpa using h
    simp only [h1, h2, cond_true, Option.bind_some, List.getD_cons_zero, PV.toB, Bool.true_and]
    exact .pure _
  · have h1 : decide (a ≥ 0) = false := by simpa using h
    have h2 : decide (0 ≤ a) = false := by simpa using h
    simp only [h1, h2, cond_false, Option.bind_some, List.getD_cons_zero, PV.toB, Bool.false_and]
    exact .pure _

theorem power_loop (n : Nat) (hn : n ≤ 62) : ∀ j i, i + j = n → Ans (fun k => run k f_celluloidref02_Power [] at_celluloidref02_Power_L0 (S_celluloidref02_Power_L0 n ((2 ^ i : Nat) : Int) i)) ([.i ((2 ^ n : Nat) : Int)], [])
  | 0, i, hj => by
    obtain rfl : i = n := hj
    refine Ans.succ (fun k => u_celluloidref02_Power_L0 k ..) ?_
    exact .no (by simp) (.pure _)
  | j + 1, i, hj => by
    refine Ans.succ (fun k => u_celluloidref02_Power_L0 k ..) ?_
    have h1 : (2 : Nat) ^ i ≤ 2 ^ 61 := Nat.pow_le_pow_right (by decide) (by omega)
    have h1 : (2 : Nat) ^ i ≤ 2305843009213693952 := h1
    have e1 : IntKind.wrap .i64 (((2 ^ i : Nat) : Int) * 2) = ((2 ^ (i + 1) : Nat) : Int) := by
      have key : ∀ p : Nat, p ≤ 2305843009213693952 → IntKind.wrap .i64 ((p : Int) * 2) = ((p * 2 : Nat) : Int) := fun p hp => by rw [wrap64 (by omega) (by omega)]; omega
      rw [key _ h1, ← Nat.pow_succ]
    have e2 : IntKind.wrap .i64 ((i : Int) + 1) = ((i + 1 : Nat) : Int) := by rw [wrap64 (by omega) (by omega)]; omega
    rw [e1, e2]
    exact .yes (by simp; omega) (power_loop n hn j (i + 1) (by omega))
theorem power_ans (n : Nat) (hn : n ≤ 62) : Ans (fun k => call k f_celluloidref02_Power [.i (n : Int)] []) ([.i ((2 ^ n : Nat) : Int)], []) :=
  Ans.succ (fun k => u_celluloidref02_Power k n) (power_loop n hn n 0 (by omega))

theorem bit_loop : ∀ (j c x : Nat), c + j = 7 → x < 256 → Ans (fun k => run k f_celluloidref02_Bit [] at_celluloidref02_Bit_L0 (S_celluloidref02_Bit_L0 x c)) ([.i ((x / 2 ^ j % 2 : Nat) : Int)], [])
  | 0, c, x, hc, hx => by
    obtain rfl : c = 7 := hc
    refine Ans.succ (fun k => u_celluloidref02_Bit_L0 k ..) ?_
    refine .no (by decide) (.pure' ?_)
    rw [show (2 : Int) = ((2 : Nat) : Int) from rfl, tmodN]; simp
  | j + 1, c, x, hc, hx => by
    refine Ans.succ (fun k => u_celluloidref02_Bit_L0 k ..) ?_
    have e1 : IntKind.wrap .i64 (Int.tdiv (x : Int) 2) = ((x / 2 : Nat) : Int) := by
      rw [show (2 : Int) = ((2 : Nat) : Int) from rfl, tdivN, wrap64 (by omega) (by omega)]
    have e2 : IntKind.wrap .i64 ((c : Int) + 1) = ((c + 1 : Nat) : Int) := by rw [wrap64 (by omega) (by omega)]; omega
    rw [e1, e2]
    refine .yes (by simp; omega) ((bit_loop j (c + 1) (x / 2) (by omega) (by omega)).eq ?_)
    rw [Nat.div_div_eq_div_mul, Nat.pow_succ']
theorem bit_ans {s : List UInt8} {i : Nat} (hi : i < 8 * s.length) (hs : s.length ≤ 2 ^ 40) : Ans (fun k => call k f_celluloidref02_Bit [.s s, .i (i : Int)] []) ([.i ((bitN s i : Nat) : Int)], []) := by
  refine Ans.succ (fun k => u_celluloidref02_Bit k s i) ?_
  have hs : s.length ≤ 1099511627776 := hs
  have e1 : IntKind.wrap .i64 (Int.tdiv (i : Int) 8) = ((i / 8 : Nat) : Int) := by
    rw [show (8 : Int) = ((8 : Nat) : Int) from rfl, tdivN, wrap64 (by omega) (by omega)]
  have e4 : bt s ((i / 8 : Nat) : Int) = (((s.getD (i / 8) 0).toNat : Nat) : Int) := by unfold bt; rw [Int.toNat_natCast]
  have hlt : (s.getD (i / 8) 0).toNat < 256 := UInt8.toNat_lt _
  rw [e1, e4, wrap64 (by omega) (by omega), show (8 : Int) = ((8 : Nat) : Int) from rfl, tmodN]
  refine .yes (by unfold inB; simp; omega) ((bit_loop (7 - i % 8) (i % 8) _ (by omega) hlt).eq ?_)
  rfl

theorem rplain_loop {s : List UInt8} (hs : s.length ≤ 2 ^ 40) (a n : Nat) (hn : n ≤ 31) (ha : a + n ≤ 8 * s.length) (o1 : List UInt8) (o2 : Int) : ∀ j i, i + j = n →
    Ans (fun k => run k f_celluloidref02_Plain [] at_celluloidref02_Plain_L0 (S_celluloidref02_Plain_L0 n (fieldN s a i) i s a o1 o2)) ([.i (fieldN s a n), .s s, .i ((a + n : Nat) : Int), .i 0], [])
  | 0, i, hj => by
    obtain rfl : i = n := hj
    refine Ans.succ (fun k => u_celluloidref02_Plain_L0 k ..) ?_
    have hs : s.length ≤ 1099511627776 := hs
    have e : IntKind.wrap .i64 ((a : Int) + (i : Int)) = ((a + i : Nat) : Int) := by rw [wrap64 (by omega) (by omega)]; rfl
    rw [e]
    exact .no (by simp) (.pure _)
  | j + 1, i, hj => by
    refine Ans.succ (fun k => u_celluloidref02_Plain_L0 k ..) ?_
    have hs' : s.length ≤ 1099511627776 := hs
    have e : IntKind.wrap .i64 ((a : Int) + (i : Int)) = ((a + i : Nat) : Int) := by rw [wrap64 (by omega) (by omega)]; rfl
    rw [e]
    refine .yes (by simp; omega) (.bind (bit_ans (by omega) hs) ?_)
    have hf : fieldN s a i < 2 ^ i := fieldN_lt s a i
    have hi : 2 ^ i ≤ 2 ^ 30 := Nat.pow_le_pow_right (by decide) (by omega)
    have hi : 2 ^ i ≤ 1073741824 := hi
    have hb := bitN_lt s (a + i)
    have e1 : IntKind.wrap .i64 (IntKind.wrap .i64 (2 * (fieldN s a i : Int)) + ((bitN s (a + i) : Nat) : Int)) = ((fieldN s a (i + 1) : Nat) : Int) := by
      rw [wrap64 (n := 2 * (fieldN s a i : Int)) (by omega) (by omega), wrap64 (by omega) (by omega)]
      simp only [fieldN]; omega
    have e2 : IntKind.wrap .i64 ((i : Int) + 1) = ((i + 1 : Nat) : Int) := by rw [wrap64 (by omega) (by omega)]; omega
    simp only [List.getD_cons_zero, PV.toI, e1, e2]
    exact rplain_loop hs a n hn ha o1 o2 j (i + 1) (by omega)
theorem rplain_ans {s : List UInt8} (hs : s.length ≤ 2 ^ 40) (a n : Int) : Ans (fun k => call k f_celluloidref02_Plain [.s s, .i a, .i n] []) (encF (plainF s a n)) := by
  refine Ans.succ (fun k => u_celluloidref02_Plain k s a n) ?_
  refine Ans.bind (x := [.b (!rightB s a || (decide (n < 0) || decide (n > 31)))]) (Ans.bind (rright_ans hs a) ?_) ?_
  · simp only [List.getD_cons_zero, PV.toB]
    refine .ite (fun h => ?_) (fun h => .ite (fun h2 => ?_) (fun h2 => ?_))
    · exact .pure' (by rw [h]; rfl)
    · exact .pure' (by rw [h, h2]; rfl)
    · exact .pure' (by rw [h, h2]; rfl)
  · simp only [List.getD_cons_zero, PV.toB]
    refine .ite (fun h => ?_) (fun h => ?_)
    · refine .pure' ?_
      have : rightB s a = false ∨ n < 0 ∨ n > 31 := by simpa using h
      unfold plainF
      rw [if_pos this]; rfl
    · simp only [Bool.or_eq_false_iff, Bool.not_eq_false', decide_eq_false_iff_not] at h
      obtain ⟨h1, h2, h3⟩ := h
      have hr := rightB_iff.1 h1
      have hs' : s.length ≤ 1099511627776 := hs
      have e1 : IntKind.wrap .i64 (8 * (s.length : Int)) = 8 * (s.length : Int) := wrap64 (by omega) (by omega)
      rw [e1, wrap64 (n := 8 * (s.length : Int) - a) (by omega) (by omega)]
      unfold plainF
      rw [if_neg (ng h1 h2 h3)]
      refine .ite (fun h => ?_) (fun h => ?_)
      · have h : 8 * (s.length : Int) - a < n := by simpa using h
        rw [if_pos (by omega)]; exact .pure _
      · have h : ¬ (8 * (s.length : Int) - a < n) := by simpa using h
        rw [if_neg (by omega)]
        obtain ⟨a', rfl⟩ := Int.eq_ofNat_of_zero_le hr.1
        obtain ⟨n', rfl⟩ := Int.eq_ofNat_of_zero_le (by omega : 0 ≤ n)
        exact rplain_loop hs a' n' (by omega) (by omega) [] 0 n' 0 (by omega)
theorem rsigned_ans {s : List UInt8} (hs : s.length ≤ 2 ^ 40) (a n : Int) : Ans (fun k => call k f_celluloidref02_Signed [.s s, .i a, .i n] []) (encF (signedF s a n)) := by
  refine Ans.succ (fun k => u_celluloidref02_Signed k s a n) ?_
  refine Ans.bind (rplain_ans hs a n) ?_
  rcases plainF_cases s a n with h | h | ⟨a, n, rfl, rfl, hn, ha, h⟩
  · unfold signedF; rw [h]
    simp only [encF, List.getD_cons_zero, List.getD_cons_succ, PV.toI, PV.toS]
    exact .bind (x := [.b false]) (.no (by decide) (.pure _)) (.no (by decide) (.pure _))
  · unfold signedF; rw [h]
    simp only [encF, List.getD_cons_zero, List.getD_cons_succ, PV.toI, PV.toS]
    exact .bind (x := [.b false]) (.no (by decide) (.pure _)) (.no (by decide) (.pure _))
  · unfold signedF; rw [h]
    simp only [encF, List.getD_cons_zero, List.getD_cons_succ, PV.toI, PV.toS]
    have hf := fieldN_lt s a n
    have h31 : 2 ^ n ≤ 2147483648 := Nat.pow_le_pow_right (n := 2) (by decide) hn
    by_cases h0 : n = 0
    · subst h0
      exact .bind (x := [.b false]) (.yes (by decide) (.no (by decide) (.pure _))) (.no (by decide) (.pure' (by simp)))
    · refine .bind (x := [.b (decide (2 * fieldN s a n ≥ 2 ^ n))]) (.yes (by decide) (.yes (by simp; omega) (.bind (power_ans n (by omega)) ?_))) ?_
      · simp only [List.getD_cons_zero, PV.toI]
        rw [wrap64 (by omega) (by omega)]
        refine .pure' ?_
        congr 2
        apply decide_eq_decide.2
        constructor
        · intro h; exact_mod_cast h
        · intro h; exact_mod_cast h
      · simp only [List.getD_cons_zero, PV.toB]
        refine .ite (fun hd => ?_) (fun hd => ?_)
        · have hd : 2 * fieldN s a n ≥ 2 ^ n := by simpa using hd
          have c : True ∧ (n : Int) > 0 ∧ 2 * ((fieldN s a n : Nat) : Int) ≥ 2 ^ (n : Int).toNat := by
            refine ⟨trivial, by omega, ?_⟩
            rw [Int.toNat_natCast]; exact_mod_cast hd
          refine .bind (power_ans n (by omega)) (.pure' ?_)
          simp only [List.getD_cons_zero, PV.toI]
          rw [if_pos c, Int.toNat_natCast, wrap64 (by omega) (by omega)]
          congr 3
        · have hd : ¬ 2 * fieldN s a n ≥ 2 ^ n := by simpa using hd
          have c : ¬ (True ∧ (n : Int) > 0 ∧ 2 * ((fieldN s a n : Nat) : Int) ≥ 2 ^ (n : Int).toNat) := by
            rintro ⟨_, _, h⟩
            rw [Int.toNat_natCast] at h
            exact hd (by exact_mod_cast h)
          rw [if_neg c]
          exact .pure _

/-- to the next whole byte -/
def alignF (s : List UInt8) (a : Int) : Int := if rightB s a = true then (a + 7) / 8 * 8 else a
theorem align_ans {s : List UInt8} (hs : s.length ≤ 2 ^ 40) (a : Int) : Ans (fun k => call k f_bits_Align [.s s, .i a] []) ([.s s, .i (alignF s a)], []) := by
  refine Ans.succ (fun k => u_bits_Align k s a) ?_
  refine .bind (right_ans hs a) ?_
  simp only [List.getD_cons_zero, PV.toB]
  have hs : s.length ≤ 1099511627776 := hs
  unfold alignF
  refine .ite (fun h => ?_) (fun h => ?_)
  · have hr := rightB_iff.1 h
    rw [if_pos h]
    obtain ⟨a, rfl⟩ := Int.eq_ofNat_of_zero_le hr.1
    refine .pure' ?_
    have e : IntKind.wrap .i64 ((a : Int) + 7) = ((a + 7 : Nat) : Int) := by rw [wrap64 (by omega) (by omega)]; rfl
    rw [e, show (8 : Int) = ((8 : Nat) : Int) from rfl, tdivN, wrap64 (n := (((a + 7) / 8 : Nat) : Int)) (by omega) (by omega), wrap64 (by omega) (by omega)]
    congr 4
  · rw [if_neg (by rw [h]; simp)]; exact .pure _
theorem ralign_loop {s : List UInt8} (hs : s.length ≤ 2 ^ 40) (o1 : List UInt8) (o2 : Int) : ∀ (j a : Nat), (a + 7) / 8 * 8 = a + j → a ≤ 8 * s.length →
    Ans (fun k => run k f_celluloidref02_Align [] at_celluloidref02_Align_L0 (S_celluloidref02_Align_L0 s a o1 o2)) ([.s s, .i ((a + j : Nat) : Int)], [])
  | 0, a, hj, ha => by
    refine Ans.succ (fun k => u_celluloidref02_Align_L0 k ..) ?_
    have hr : rightB s (a : Int) = true := rightB_iff.2 ⟨by omega, by omega⟩
    refine .bind (x := [.b false]) (.bind (rright_ans hs a) ?_) (.no rfl (.pure _))
    simp only [List.getD_cons_zero, PV.toB]
    refine .yes hr (.pure' ?_)
    rw [show (8 : Int) = ((8 : Nat) : Int) from rfl, tmodN]
    have : a % 8 = 0 := by omega
    rw [this]; rfl
  | j + 1, a, hj, ha => by
    refine Ans.succ (fun k => u_celluloidref02_Align_L0 k ..) ?_
    have hr : rightB s (a : Int) = true := rightB_iff.2 ⟨by omega, by omega⟩
    have hs' : s.length ≤ 1099511627776 := hs
    refine .bind (x := [.b true]) (.bind (rright_ans hs a) ?_) (.yes rfl ?_)
    · simp only [List.getD_cons_zero, PV.toB]
      refine .yes hr (.pure' ?_)
      rw [show (8 : Int) = ((8 : Nat) : Int) from rfl, tmodN]
      have : a % 8 ≠ 0 := by omega
      congr 2
      simp; omega
    · have e : IntKind.wrap .i64 ((a : Int) + 1) = ((a + 1 : Nat) : Int) := by rw [wrap64 (by omega) (by omega)]; rfl
      rw [e]
      refine (ralign_loop hs o1 o2 j (a + 1) (by omega) (by omega)).eq ?_
      congr 4; omega
theorem ralign_ans {s : List UInt8} (hs : s.length ≤ 2 ^ 40) (a : Int) : Ans (fun k => call k f_celluloidref02_Align [.s s, .i a] []) ([.s s, .i (alignF s a)], []) := by
  refine Ans.succ (fun k => u_celluloidref02_Align k s a) ?_
  unfold alignF
  by_cases h : rightB s a = true
  · have hr := rightB_iff.1 h
    rw [if_pos h]
    obtain ⟨a, rfl⟩ := Int.eq_ofNat_of_zero_le hr.1
    refine (ralign_loop hs [] 0 ((a + 7) / 8 * 8 - a) a (by omega) (by omega)).eq ?_
    congr 4; omega
  · rw [if_neg h]
    have h : rightB s a = false := by simpa using h
    refine Ans.succ (fun k => u_celluloidref02_Align_L0 k ..) ?_
    refine .bind (x := [.b false]) (.bind (rright_ans hs a) ?_) (.no rfl (.pure _))
    simp only [List.getD_cons_zero, PV.toB]
    exact .no h (.pure _)
end Go.AI
set_option linter.unusedVariables false
set_option linter.unusedSimpArgs false
set_option maxRecDepth 100000
namespace Go.AI
open Go Go.Proofs

/-- the next bytes -/
def bytesF (s : List UInt8) (a n : Int) : List UInt8 × List UInt8 × Int × Int :=
  if rightB s a = false ∨ n < 0 then ([], [], 0, 1) else if n > (s.length : Int) - (a + 7) / 8 then ([], [], 0, 2) else ((s.drop ((a + 7) / 8).toNat).take n.toNat, s, 8 * ((a + 7) / 8 + n), 0)
def encB (r : List UInt8 × List UInt8 × Int × Int) : Res := ([.s r.1, .s r.2.1, .i r.2.2.1, .i r.2.2.2], [])
theorem ng2 {b : Bool} {p : Prop} (h1 : b = true) (h2 : ¬ p) : ¬ (b = false ∨ p) := by
  rintro (h | h)
  · rw [h1] at h; cases h
  · exact h2 h
theorem cutL_eq {α : Type} (a n : Nat) (s : List α) : cutL (a : Int) ((a + n : Nat) : Int) s = (s.drop a).take n := by
  unfold cutL
  rw [Int.toNat_natCast, Int.toNat_natCast, List.drop_take]
  congr 1; omega
theorem bytesF_cases (s : List UInt8) (a n : Int) : bytesF s a n = ([], [], 0, 1) ∨ bytesF s a n = ([], [], 0, 2) ∨
    ∃ a' n' : Nat, a = a' ∧ n = n' ∧ a' ≤ 8 * s.length ∧ (a' + 7) / 8 + n' ≤ s.length ∧ bytesF s a n = ((s.drop ((a' + 7) / 8)).take n', s, ((8 * ((a' + 7) / 8 + n') : Nat) : Int), 0) := by
  by_cases h : rightB s a = false ∨ n < 0
  · left; unfold bytesF; rw [if_pos h]
  · have hr : rightB s a = true := by
      cases hb : rightB s a
      · exact absurd (.inl hb) h
      · rfl
    have hr' := rightB_iff.1 hr
    have h3 : ¬ n < 0 := fun e => h (.inr e)
    obtain ⟨a', rfl⟩ := Int.eq_ofNat_of_zero_le hr'.1
    obtain ⟨n', rfl⟩ := Int.eq_ofNat_of_zero_le (by omega : 0 ≤ n)
    by_cases h2 : (n' : Int) > (s.length : Int) - ((a' : Int) + 7) / 8
    · right; left; unfold bytesF; rw [if_neg h, if_pos h2]
    · right; right
      refine ⟨a', n', rfl, rfl, by omega, by omega, ?_⟩
      unfold bytesF; rw [if_neg h, if_neg h2]
      have : (((a' : Int) + 7) / 8).toNat = (a' + 7) / 8 := by omega
      rw [this, Int.toNat_natCast]
      congr 3

theorem bytes_body {s : List UInt8} (hs : s.length ≤ 2 ^ 40) {a n : Int} (h1 : rightB s a = true) (h2 : ¬ n < 0) (hn : n ≤ 9223372036854775807) :
    ∃ p : Nat, p = (a.toNat + 7) / 8 ∧ p ≤ s.length ∧ IntKind.wrap .i64 (Int.tdiv (alignF s a) 8) = (p : Int) ∧ IntKind.wrap .i64 ((s.length : Int) - (p : Int)) = (s.length : Int) - p ∧ (a + 7) / 8 = (p : Int) := by
  have hs : s.length ≤ 1099511627776 := hs
  have hr := rightB_iff.1 h1
  obtain ⟨a, rfl⟩ := Int.eq_ofNat_of_zero_le hr.1
  refine ⟨(a + 7) / 8, rfl, by omega, ?_, wrap64 (by omega) (by omega), by omega⟩
  unfold alignF
  rw [if_pos h1, show ((a : Int) + 7) / 8 * 8 = (((a + 7) / 8 * 8 : Nat) : Int) by omega, show (8 : Int) = ((8 : Nat) : Int) from rfl, tdivN, wrap64 (by omega) (by omega)]
  congr 1; omega

theorem bytes_ans {s : List UInt8} (hs : s.length ≤ 2 ^ 40) (a n : Int) (hn : n ≤ 9223372036854775807) : Ans (fun k => call k f_bits_Bytes [.s s, .i a, .i n] []) (encB (bytesF s a n)) := by
  refine Ans.succ (fun k => u_bits_Bytes k s a n) ?_
  refine Ans.bind (x := [.b (!rightB s a || decide (n < 0))]) (Ans.bind (right_ans hs a) ?_) ?_
  · simp only [List.getD_cons_zero, PV.toB]
    exact .ite (fun h => .pure' (by rw [h]; rfl)) (fun h => .pure' (by rw [h]; rfl))
  · simp only [List.getD_cons_zero, PV.toB]
    refine .ite (fun h => .pure' ?_) (fun h => ?_)
    · have : rightB s a = false ∨ n < 0 := by simpa using h
      unfold bytesF; rw [if_pos this]; rfl
    · simp only [Bool.or_eq_false_iff, Bool.not_eq_false', decide_eq_false_iff_not] at h
      obtain ⟨h1, h2⟩ := h
      refine .bind (align_ans hs a) ?_
      obtain ⟨p, hp, hpl, e1, e2, e3⟩ := bytes_body hs h1 h2 hn
      have hs : s.length ≤ 1099511627776 := hs
      simp only [List.getD_cons_zero, List.getD_cons_succ, PV.toI, e1, e2]
      unfold bytesF
      rw [if_neg (ng2 h1 h2), e3]
      refine .ite (fun h => ?_) (fun h => ?_)
      · rw [if_pos (by simpa using h)]; exact .pure _
      · have h : ¬ (n > (s.length : Int) - p) := by simpa using h
        obtain ⟨n, rfl⟩ := Int.eq_ofNat_of_zero_le (by omega : 0 ≤ n)
        have e4 : IntKind.wrap .i64 ((p : Int) + (n : Int)) = ((p + n : Nat) : Int) := by rw [wrap64 (by omega) (by omega)]; rfl
        rw [if_neg h, e4, cutL_eq, wrap64 (by omega) (by omega)]
        refine .yes (by unfold okB; simp; omega) (.pure' ?_)
        rfl
theorem rbytes_ans {s : List UInt8} (hs : s.length ≤ 2 ^ 40) (a n : Int) (hn : n ≤ 9223372036854775807) : Ans (fun k => call k f_celluloidref02_Bytes [.s s, .i a, .i n] []) (encB (bytesF s a n)) := by
  refine Ans.succ (fun k => u_celluloidref02_Bytes k s a n) ?_
  refine Ans.bind (x := [.b (!rightB s a || decide (n < 0))]) (Ans.bind (rright_ans hs a) ?_) ?_
  · simp only [List.getD_cons_zero, PV.toB]
    exact .ite (fun h => .pure' (by rw [h]; rfl)) (fun h => .pure' (by rw [h]; rfl))
  · simp only [List.getD_cons_zero, PV.toB]
    refine .ite (fun h => .pure' ?_) (fun h => ?_)
    · have : rightB s a = false ∨ n < 0 := by simpa using h
      unfold bytesF; rw [if_pos this]; rfl
    · simp only [Bool.or_eq_false_iff, Bool.not_eq_false', decide_eq_false_iff_not] at h
      obtain ⟨h1, h2⟩ := h
      refine .bind (ralign_ans hs a) ?_
      obtain ⟨p, hp, hpl, e1, e2, e3⟩ := bytes_body hs h1 h2 hn
      have hs : s.length ≤ 1099511627776 := hs
      simp only [List.getD_cons_zero, List.getD_cons_succ, PV.toI, e1, e2]
      unfold bytesF
      rw [if_neg (ng2 h1 h2), e3]
      refine .ite (fun h => ?_) (fun h => ?_)
      · rw [if_pos (by simpa using h)]; exact .pure _
      · have h : ¬ (n > (s.length : Int) - p) := by simpa using h
        obtain ⟨n, rfl⟩ := Int.eq_ofNat_of_zero_le (by omega : 0 ≤ n)
        have e4 : IntKind.wrap .i64 ((p : Int) + (n : Int)) = ((p + n : Nat) : Int) := by rw [wrap64 (by omega) (by omega)]; rfl
        rw [if_neg h, e4, cutL_eq, wrap64 (by omega) (by omega)]
        refine .yes (by unfold okB; simp; omega) (.pure' ?_)
        rfl

end Go.AI
set_option linter.unusedVariables false
set_option linter.unusedSimpArgs false
set_option maxRecDepth 100000
namespace Go.AI
open Go Go.Proofs

/-- how many bits a number has -/
def blen (n : Nat) : Nat := if n = 0 then 0 else Nat.log2 n + 1
theorem blen_le {n k : Nat} : blen n ≤ k ↔ n < 2 ^ k := by
  unfold blen
  by_cases h : n = 0
  · subst h; simp; exact Nat.pow_pos (by decide)
  · rw [if_neg h, Nat.succ_le_iff, Nat.log2_lt h]
/-- how many bits a number wants, with its sign -/
def widthN (v : Int) : Nat := if v < 0 then blen (-v - 1).toNat + 1 else if v = 0 then 0 else blen v.toNat + 1
theorem widthN_le {v : Int} {n : Nat} (hv : v ≠ 0) (hn : 0 < n) : widthN v ≤ n ↔ -(2 ^ (n - 1) : Nat) ≤ v ∧ v < (2 ^ (n - 1) : Nat) := by
  obtain ⟨m, rfl⟩ : ∃ m, n = m + 1 := ⟨n - 1, by omega⟩
  rw [Nat.add_sub_cancel]
  unfold widthN
  by_cases h : v < 0
  · rw [if_pos h, Nat.add_le_add_iff_right, blen_le]
    omega
  · rw [if_neg h, if_neg hv, Nat.add_le_add_iff_right, blen_le]
    omega
theorem widthN_zero : widthN 0 = 0 := rfl
/-- the greatest width of numbers -/
def elI (es : List (List PV)) (i : Nat) : Int := (((es.getD i []).getD 0 .u)).toI
def widthL (es : List (List PV)) : Nat → Nat
  | 0 => 0
  | i + 1 => max (widthL es i) (widthN (elI es i))
def I64 (v : Int) : Prop := -9223372036854775808 ≤ v ∧ v ≤ 9223372036854775807
theorem elemAt_nat (es : List (List PV)) (i : Nat) : elemAt es (i : Int) = es.getD i [] := by unfold elemAt; rw [Int.toNat_natCast]
end Go.AI
set_option linter.unusedVariables false
set_option linter.unusedSimpArgs false
set_option maxRecDepth 100000
namespace Go.AI
open Go Go.Proofs

/-! ### bytes as elements -/
theorem byte_nat (n : Nat) (h : n < 256) : ((UInt8.ofNat n).toNat : Nat) = n := by simp; omega

/-- one bit behind -/
def put1 (s : List UInt8) (f : Nat) (b : Nat) : List UInt8 × Nat :=
  if f = 0 then (s ++ [UInt8.ofNat (128 * b)], 7) else (s.set (s.length - 1) (UInt8.ofNat ((s.getD (s.length - 1) 0).toNat + b * 2 ^ (f - 1))), f - 1)
/-- the bits of a number, from the highest on -/
def putN (v : Nat) : Nat → List UInt8 × Nat → List UInt8 × Nat
  | 0, w => w
  | n + 1, w => putN v n (put1 w.1 w.2 (v / 2 ^ n % 2))
/-- a writer whose last byte is not full -/
def WOk (w : List UInt8 × Nat) : Prop := w.2 ≤ 7 ∧ (w.2 ≠ 0 → w.1 ≠ [] ∧ (w.1.getD (w.1.length - 1) 0).toNat % 2 ^ w.2 = 0)
theorem set_last (s : List UInt8) (h : s ≠ []) (b : UInt8) : (s.set (s.length - 1) b).getD (s.length - 1) 0 = b := by
  have hl : 0 < s.length := List.length_pos_iff.2 h
  rw [List.getD, List.getElem?_set_self (by omega)]; rfl
theorem free_le {x f b : Nat} (hf : f ≤ 6) (hx : x < 256) (hm : x % 2 ^ (f + 1) = 0) (hb : b < 2) : x + b * 2 ^ f < 256 ∧ (x + b * 2 ^ f) % 2 ^ f = 0 := by
  have hp : 2 ^ (f + 1) = 2 * 2 ^ f := Nat.pow_succ'
  obtain ⟨c, hc⟩ : ∃ c, x = 2 ^ (f + 1) * c := ⟨x / 2 ^ (f + 1), by have := Nat.div_add_mod x (2 ^ (f + 1)); omega⟩
  have h256 : 256 = 2 ^ (f + 1) * 2 ^ (7 - f) := by rw [← Nat.pow_add, show f + 1 + (7 - f) = 8 by omega]
  have hcl : c < 2 ^ (7 - f) := by
    rw [hc, h256] at hx
    exact Nat.lt_of_mul_lt_mul_left hx
  have h1 : 2 ^ (f + 1) * (c + 1) ≤ 256 := by rw [h256]; exact Nat.mul_le_mul_left _ hcl
  rw [Nat.mul_add] at h1
  have hb' : b * 2 ^ f ≤ 1 * 2 ^ f := Nat.mul_le_mul_right _ (by omega)
  have hpos : 0 < 2 ^ f := Nat.pow_pos (by decide)
  refine ⟨by omega, ?_⟩
  rw [hc, hp, Nat.mul_assoc, Nat.mul_comm b, Nat.mul_left_comm, ← Nat.mul_add]
  exact Nat.mul_mod_right _ _
theorem put1_ok {s : List UInt8} {f : Nat} (h : WOk (s, f)) {b : Nat} (hb : b < 2) : WOk (put1 s f b) ∧ (put1 s f b).1.length ≤ s.length + 1 := by
  unfold put1
  by_cases h0 : f = 0
  · rw [if_pos h0]
    refine ⟨⟨Nat.le_refl 7, fun _ => ⟨by simp, ?_⟩⟩, by simp⟩
    have : (s ++ [UInt8.ofNat (128 * b)]).getD ((s ++ [UInt8.ofNat (128 * b)]).length - 1) 0 = UInt8.ofNat (128 * b) := by simp [List.getD]
    rw [this, byte_nat _ (by omega)]
    show 128 * b % 128 = 0
    omega
  · rw [if_neg h0]
    obtain ⟨h1, h2⟩ := h
    obtain ⟨h3, h4⟩ := h2 h0
    have h1 : f ≤ 7 := h1
    have h3 : s ≠ [] := h3
    have h4 : (s.getD (s.length - 1) 0).toNat % 2 ^ f = 0 := h4
    have hx : (s.getD (s.length - 1) 0).toNat < 256 := UInt8.toNat_lt _
    obtain ⟨f, rfl⟩ : ∃ g, f = g + 1 := ⟨f - 1, by omega⟩
    rw [Nat.add_sub_cancel]
    have hle := free_le (by omega) hx h4 hb
    refine ⟨⟨by show f ≤ 7; omega, fun _ => ⟨by simpa using h3, ?_⟩⟩, by simp⟩
    show ((s.set (s.length - 1) (UInt8.ofNat ((s.getD (s.length - 1) 0).toNat + b * 2 ^ f))).getD ((s.set (s.length - 1) _).length - 1) 0).toNat % 2 ^ f = 0
    rw [List.length_set, set_last s h3, byte_nat _ hle.1]
    exact hle.2
end Go.AI
set_option linter.unusedVariables false
set_option linter.unusedSimpArgs false
set_option maxRecDepth 100000
namespace Go.AI
open Go Go.Proofs

end Go.AI
set_option linter.unusedVariables false
set_option linter.unusedSimpArgs false
set_option maxRecDepth 100000
namespace Go.AI
open Go Go.Proofs

end Go.AI
set_option linter.unusedVariables false
set_option linter.unusedSimpArgs false
set_option maxRecDepth 100000
namespace Go.AI
open Go Go.Proofs

end Go.AI
set_option linter.unusedVariables false
set_option linter.unusedSimpArgs false
set_option maxRecDepth 100000
namespace Go.AI
open Go Go.Proofs

/-- how many bits a writer has -/
def wl (w : List UInt8 × Nat) : Nat := 8 * w.1.length - w.2
/-- a writer's bits are another's first ones -/
def WExt (w w' : List UInt8 × Nat) : Prop := wl w ≤ wl w' ∧ ∀ i, i < wl w → bitN w'.1 i = bitN w.1 i
theorem WExt.refl (w : List UInt8 × Nat) : WExt w w := ⟨Nat.le_refl _, fun _ _ => rfl⟩
theorem WExt.trans {a b c : List UInt8 × Nat} (h : WExt a b) (k : WExt b c) : WExt a c :=
  ⟨Nat.le_trans h.1 k.1, fun i hi => (k.2 i (Nat.lt_of_lt_of_le hi h.1)).trans (h.2 i hi)⟩
theorem fieldN_congr {s t : List UInt8} {a : Nat} : ∀ n, (∀ i, i < n → bitN s (a + i) = bitN t (a + i)) → fieldN s a n = fieldN t a n
  | 0, _ => rfl
  | n + 1, h => by simp only [fieldN]; rw [fieldN_congr n (fun i hi => h i (by omega)), h n (by omega)]
theorem WExt.field {w w' : List UInt8 × Nat} (h : WExt w w') {a n : Nat} (hl : a + n ≤ wl w) : fieldN w'.1 a n = fieldN w.1 a n :=
  fieldN_congr n fun i hi => h.2 _ (by omega)

theorem bitN_append {s t : List UInt8} {i : Nat} (h : i < 8 * s.length) : bitN (s ++ t) i = bitN s i := by
  unfold bitN
  have e : (s ++ t).getD (i / 8) 0 = s.getD (i / 8) 0 := by
    simp only [List.getD]
    rw [List.getElem?_append_left (by omega)]
  rw [e]
theorem wl_le {w : List UInt8 × Nat} : wl w ≤ 8 * w.1.length := Nat.sub_le _ _
theorem WOk.len {w : List UInt8 × Nat} (h : WOk w) : wl w + w.2 = 8 * w.1.length ∧ w.2 ≤ 7 := by
  unfold wl
  refine ⟨?_, h.1⟩
  by_cases h0 : w.2 = 0
  · omega
  · have := List.length_pos_iff.2 (h.2 h0).1
    have := h.1
    omega
theorem put1_ext {s : List UInt8} {f : Nat} (h : WOk (s, f)) {b : Nat} (hb : b < 2) : WExt (s, f) (put1 s f b) ∧ wl (put1 s f b) = wl (s, f) + 1 ∧ bitN (put1 s f b).1 (wl (s, f)) = b := by
  unfold put1
  by_cases h0 : f = 0
  · subst h0
    rw [if_pos rfl]
    have e1 : wl (s, 0) = 8 * s.length := by simp [wl]
    have e2 : wl (s ++ [UInt8.ofNat (128 * b)], 7) = 8 * s.length + 1 := by simp [wl]; omega
    refine ⟨⟨by rw [e1, e2]; omega, fun i hi => ?_⟩, by rw [e1, e2], ?_⟩
    · rw [e1] at hi
      exact bitN_append hi
    · rw [e1]
      unfold bitN
      have : (s ++ [UInt8.ofNat (128 * b)]).getD (8 * s.length / 8) 0 = UInt8.ofNat (128 * b) := by
        rw [show 8 * s.length / 8 = s.length by omega]; simp [List.getD]
      rw [this, byte_nat _ (by omega), show 7 - 8 * s.length % 8 = 7 by omega]
      omega
  · rw [if_neg h0]
    obtain ⟨h1, h2⟩ := h
    obtain ⟨h3, h4⟩ := h2 h0
    have h1 : f ≤ 7 := h1
    have h3 : s ≠ [] := h3
    have h4 : (s.getD (s.length - 1) 0).toNat % 2 ^ f = 0 := h4
    have hx : (s.getD (s.length - 1) 0).toNat < 256 := UInt8.toNat_lt _
    have hsl : 0 < s.length := List.length_pos_iff.2 h3
    obtain ⟨f, rfl⟩ : ∃ g, f = g + 1 := ⟨f - 1, by omega⟩
    rw [Nat.add_sub_cancel]
    have hle := free_le (by omega) hx h4 hb
    obtain ⟨x, hxe⟩ : ∃ x, x = (s.getD (s.length - 1) 0).toNat := ⟨_, rfl⟩
    rw [← hxe] at hx h4 hle ⊢
    have e1 : wl (s, f + 1) = 8 * (s.length - 1) + (7 - f) := by simp only [wl]; omega
    have e2 : wl (s.set (s.length - 1) (UInt8.ofNat (x + b * 2 ^ f)), f) = 8 * (s.length - 1) + (8 - f) := by simp only [wl, List.length_set]; omega
    have hpos : 0 < 2 ^ f := Nat.pow_pos (by decide)
    have hp : 2 ^ (f + 1) = 2 ^ f * 2 := by rw [Nat.pow_succ]
    obtain ⟨c, hc⟩ : ∃ c, x = 2 ^ (f + 1) * c := ⟨x / 2 ^ (f + 1), by have := Nat.div_add_mod x (2 ^ (f + 1)); omega⟩
    have hd1 : (x + b * 2 ^ f) / 2 ^ f = 2 * c + b := by
      rw [hc, hp, Nat.mul_assoc, Nat.mul_comm b, ← Nat.mul_add, Nat.mul_div_cancel_left _ hpos]
    refine ⟨⟨by rw [e1, e2]; omega, fun i hi => ?_⟩, by rw [e1, e2]; omega, ?_⟩
    · rw [e1] at hi
      unfold bitN
      by_cases hk : i / 8 = s.length - 1
      · rw [hk, set_last s h3, byte_nat _ hle.1, ← hxe]
        -- higher bits of the last byte
        have hs : ∃ g, 7 - i % 8 = f + (1 + g) := ⟨7 - i % 8 - f - 1, by omega⟩
        obtain ⟨g, hg⟩ := hs
        rw [hg, Nat.pow_add, ← Nat.div_div_eq_div_mul, ← Nat.div_div_eq_div_mul, hd1]
        have hd2 : x / 2 ^ f = 2 * c := by rw [hc, hp, Nat.mul_assoc, Nat.mul_div_cancel_left _ hpos]
        rw [hd2, Nat.pow_add, ← Nat.div_div_eq_div_mul, ← Nat.div_div_eq_div_mul]
        congr 2
        omega
      · have : (s.set (s.length - 1) (UInt8.ofNat (x + b * 2 ^ f))).getD (i / 8) 0 = s.getD (i / 8) 0 := by
          simp only [List.getD]
          rw [List.getElem?_set_ne (by omega)]
        rw [this]
    · rw [e1]
      unfold bitN
      rw [show (8 * (s.length - 1) + (7 - f)) / 8 = s.length - 1 by omega, set_last s h3, byte_nat _ hle.1, show 7 - (8 * (s.length - 1) + (7 - f)) % 8 = f by omega, hd1]
      omega
theorem putN_ext (v : Nat) : ∀ (n : Nat) (w : List UInt8 × Nat), WOk w → WOk (putN v n w) ∧ WExt w (putN v n w) ∧ wl (putN v n w) = wl w + n ∧ fieldN (putN v n w).1 (wl w) n = v % 2 ^ n ∧ (putN v n w).1.length ≤ w.1.length + n
  | 0, w, h => ⟨h, WExt.refl w, rfl, by simp [fieldN]; omega, Nat.le_refl _⟩
  | n + 1, (s, f), h => by
    have hb : v / 2 ^ n % 2 < 2 := Nat.mod_lt _ (by decide)
    obtain ⟨a1, a2⟩ := put1_ok h hb
    obtain ⟨b1, b2, b3⟩ := put1_ext h hb
    obtain ⟨c1, c2, c3, c4, c5⟩ := putN_ext v n (put1 s f (v / 2 ^ n % 2)) a1
    simp only [putN]
    refine ⟨c1, b1.trans c2, by rw [c3, b2]; omega, ?_, Nat.le_trans c5 (by omega)⟩
    rw [Nat.add_comm n 1, fieldN_add, ← b2, c4]
    have e : fieldN (putN v n (put1 s f (v / 2 ^ n % 2))).1 (wl (s, f)) 1 = v / 2 ^ n % 2 := by
      simp only [fieldN, Nat.mul_zero, Nat.zero_add, Nat.add_zero]
      rw [c2.2 _ (by omega), b3]
    rw [e, Nat.add_comm 1 n, Nat.pow_succ, Nat.mod_mul]
    rw [Nat.mul_comm (2 ^ n)]; omega
theorem byte_bits : ∀ x : Fin 256, 2 * (2 * (2 * (2 * (2 * (2 * (2 * (2 * 0 + x.1 / 2 ^ 7 % 2) + x.1 / 2 ^ 6 % 2) + x.1 / 2 ^ 5 % 2) + x.1 / 2 ^ 4 % 2) + x.1 / 2 ^ 3 % 2) + x.1 / 2 ^ 2 % 2) + x.1 / 2 ^ 1 % 2) + x.1 / 2 ^ 0 % 2 = x.1 := by decide +kernel
/-- a byte, as the field of its bits -/
theorem field_byte (s : List UInt8) (k : Nat) : fieldN s (8 * k) 8 = (s.getD k 0).toNat := by
  have hx : (s.getD k 0).toNat < 256 := UInt8.toNat_lt _
  have e : ∀ j, j < 8 → bitN s (8 * k + j) = (s.getD k 0).toNat / 2 ^ (7 - j) % 2 := fun j hj => by
    unfold bitN
    rw [show (8 * k + j) / 8 = k by omega, show (8 * k + j) % 8 = j by omega]
  simp only [fieldN]
  rw [e 0 (by omega), e 1 (by omega), e 2 (by omega), e 3 (by omega), e 4 (by omega), e 5 (by omega), e 6 (by omega), e 7 (by omega)]
  exact byte_bits ⟨_, hx⟩
theorem WExt.byte {w w' : List UInt8 × Nat} (h : WExt w w') {k : Nat} (hk : 8 * k + 8 ≤ wl w) : w'.1.getD k 0 = w.1.getD k 0 := by
  have := h.field (a := 8 * k) (n := 8) hk
  rw [field_byte, field_byte] at this
  exact UInt8.toNat_inj.1 this
/-- the bytes of a writer that are full -/
theorem WExt.bytes {s t : List UInt8} {w' : List UInt8 × Nat} (h : WExt (s ++ t, 0) w') : s.length + t.length ≤ w'.1.length ∧ (w'.1.drop s.length).take t.length = t := by
  have hl : wl (s ++ t, 0) = 8 * (s.length + t.length) := by simp [wl]
  have hle : s.length + t.length ≤ w'.1.length := by have := h.1; have := wl_le (w := w'); omega
  refine ⟨hle, ?_⟩
  apply List.ext_getElem
  · rw [List.length_take, List.length_drop]; omega
  · intro i h1 h2
    have hb := h.byte (k := s.length + i) (by rw [hl]; omega)
    rw [List.getElem_take, List.getElem_drop]
    simp only [List.getD] at hb
    rw [List.getElem?_eq_getElem (by omega), List.getElem?_append_right (by omega), Nat.add_sub_cancel_left, List.getElem?_eq_getElem h2] at hb
    exact hb
theorem ok_zero (s : List UInt8) : WOk (s, 0) := ⟨Nat.zero_le _, fun h => absurd rfl h⟩
end Go.AI
set_option linter.unusedVariables false
set_option linter.unusedSimpArgs false
set_option maxRecDepth 100000
namespace Go.AI
open Go Go.Proofs

abbrev Wt := List UInt8 × Nat
def signU (v n : Int) : Int := if v < 0 then v + 2 ^ n.toNat else v
end Go.AI
set_option linter.unusedVariables false
set_option linter.unusedSimpArgs false
set_option maxRecDepth 100000
namespace Go.AI
open Go Go.Proofs

/-- the number of bytes, the lowest first -/
def littleN : List UInt8 → Nat
  | [] => 0
  | b :: l => b.toNat + 256 * littleN l
theorem littleN_lt : ∀ l : List UInt8, littleN l < 256 ^ l.length
  | [] => by simp [littleN]
  | b :: l => by
    have := littleN_lt l
    have hb : b.toNat < 256 := UInt8.toNat_lt _
    simp only [littleN, List.length_cons, Nat.pow_succ]; omega
theorem littleN_snoc : ∀ (l : List UInt8) (b : UInt8), littleN (l ++ [b]) = littleN l + 256 ^ l.length * b.toNat
  | [], b => by simp [littleN]
  | x :: l, b => by
    simp only [List.cons_append, littleN, littleN_snoc l b, List.length_cons, Nat.pow_succ]
    rw [Nat.mul_add, ← Nat.mul_assoc, Nat.mul_comm 256 (256 ^ l.length)]; omega
def littleF (s : List UInt8) (a n : Int) : Int × List UInt8 × Int × Int :=
  if n < 1 ∨ n > 4 then (0, [], 0, 1) else (((littleN (bytesF s a n).1 : Nat) : Int), (bytesF s a n).2)

theorem little_loop (l : List UInt8) (hl : l.length ≤ 4) (e : Int) (o1 : List UInt8) (o2 : Int) (r1 : List UInt8) (r2 : Int) : ∀ i : Nat, i ≤ l.length →
    Ans (fun k => run k f_bits_Little [] at_bits_Little_L0 (S_bits_Little_L0 l e ((littleN (l.drop i) : Nat) : Int) ((i : Int) - 1) o1 o2 r1 r2)) ([.i ((littleN l : Nat) : Int), .s r1, .i r2, .i e], [])
  | 0, _ => by
    refine Ans.succ (fun k => u_bits_Little_L0 k ..) ?_
    exact .no (by decide) (.pure _)
  | i + 1, h => by
    refine Ans.succ (fun k => u_bits_Little_L0 k ..) ?_
    have e0 : (((i + 1 : Nat) : Int) - 1) = (i : Int) := by omega
    rw [e0]
    have h1 : inB (i : Int) l.length = true := by unfold inB; simp; omega
    have hb : (l.getD i 0).toNat < 256 := UInt8.toNat_lt _
    have e1 : IntKind.wrap .i64 (bt l (i : Int)) = (((l.getD i 0).toNat : Nat) : Int) := by unfold bt; rw [Int.toNat_natCast, wrap64 (by omega) (by omega)]
    have e2 : IntKind.wrap .i64 ((i : Int) - 1) = (i : Int) - 1 := wrap64 (by omega) (by omega)
    have hlt := littleN_lt (l.drop (i + 1))
    have hp : 256 ^ (l.drop (i + 1)).length ≤ 256 ^ 4 := Nat.pow_le_pow_right (by decide) (by rw [List.length_drop]; omega)
    have hp : 256 ^ (l.drop (i + 1)).length ≤ 4294967296 := hp
    have e3 : bitsOp .or .i64 (shl .i64 ((littleN (l.drop (i + 1)) : Nat) : Int) 8) (((l.getD i 0).toNat : Nat) : Int) = ((littleN (l.drop i) : Nat) : Int) := by
      have hd : l.drop i = l.getD i 0 :: l.drop (i + 1) := by
        rw [List.drop_eq_getElem_cons (by omega)]
        simp [List.getD, show i < l.length by omega]
      rw [show (8 : Int) = ((8 : Nat) : Int) from rfl, shl64 (by omega) (by decide), or_add (by omega) (by omega), hd]
      simp only [littleN]
      omega
    rw [e1, e2, e3]
    exact .yes (by simp) (.yes h1 (little_loop l hl e o1 o2 r1 r2 i (by omega)))
theorem bytesF_len {s : List UInt8} {a n : Int} (hn : n ≤ 4) : (bytesF s a n).1.length ≤ 4 := by
  rcases bytesF_cases s a n with h | h | ⟨a', n', rfl, rfl, _, _, h⟩
  · rw [h]; simp
  · rw [h]; simp
  · rw [h]; simp; omega
theorem little_ans {s : List UInt8} (hs : s.length ≤ 2 ^ 40) (a n : Int) : Ans (fun k => call k f_bits_Little [.s s, .i a, .i n] []) (encF (littleF s a n)) := by
  refine Ans.succ (fun k => u_bits_Little k s a n) ?_
  refine Ans.bind (x := [.b (decide (n < 1) || decide (n > 4))]) (.ite (fun h => .pure' (by rw [h]; rfl)) (fun h => .pure' (by rw [h]; rfl))) ?_
  simp only [List.getD_cons_zero, PV.toB]
  unfold littleF
  refine .ite (fun h => ?_) (fun h => ?_)
  · rw [if_pos (by simpa using h)]; exact .pure _
  · have h : ¬ (n < 1 ∨ n > 4) := by simpa using h
    rw [if_neg h]
    refine .bind (bytes_ans hs a n (by omega)) ?_
    simp only [encB, List.getD_cons_zero, List.getD_cons_succ, PV.toI, PV.toS]
    have hl := bytesF_len (s := s) (a := a) (n := n) (by omega)
    have := little_loop (bytesF s a n).1 hl (bytesF s a n).2.2.2 [] 0 (bytesF s a n).2.1 (bytesF s a n).2.2.1 _ (Nat.le_refl _)
    rw [List.drop_length] at this
    rw [wrap64 (by omega) (by omega)]
    exact this
theorem rlittle_loop (l : List UInt8) (hl : l.length ≤ 4) (e : Int) (o1 : List UInt8) (o2 : Int) (r1 : List UInt8) (r2 : Int) : ∀ j i : Nat, i + j = l.length →
    Ans (fun k => run k f_celluloidref02_Little [] at_celluloidref02_Little_L0 (S_celluloidref02_Little_L0 l e ((littleN (l.take i) : Nat) : Int) (i : Int) o1 o2 r1 r2)) ([.i ((littleN l : Nat) : Int), .s r1, .i r2, .i e], [])
  | 0, i, h => by
    refine Ans.succ (fun k => u_celluloidref02_Little_L0 k ..) ?_
    refine .no (by simp; omega) (.pure' ?_)
    rw [List.take_of_length_le (by omega)]
  | j + 1, i, h => by
    refine Ans.succ (fun k => u_celluloidref02_Little_L0 k ..) ?_
    have h1 : inB (i : Int) l.length = true := by unfold inB; simp; omega
    have hb : (l.getD i 0).toNat < 256 := UInt8.toNat_lt _
    have e0 : IntKind.wrap .i64 (8 * (i : Int)) = ((8 * i : Nat) : Int) := by rw [wrap64 (by omega) (by omega)]; rfl
    have e1 : IntKind.wrap .i64 (bt l (i : Int)) = (((l.getD i 0).toNat : Nat) : Int) := by unfold bt; rw [Int.toNat_natCast, wrap64 (by omega) (by omega)]
    have e2 : IntKind.wrap .i64 ((i : Int) + 1) = ((i + 1 : Nat) : Int) := by rw [wrap64 (by omega) (by omega)]; rfl
    rw [e0, e1, e2]
    refine .yes (by simp; omega) (.yes h1 (.bind (power_ans (8 * i) (by omega)) ?_))
    simp only [List.getD_cons_zero, PV.toI]
    have hlt := littleN_lt (l.take i)
    have hi : (l.take i).length = i := by rw [List.length_take]; omega
    rw [hi] at hlt
    have hp : 256 ^ i ≤ 256 ^ 3 := Nat.pow_le_pow_right (by decide) (by omega)
    have hp : 256 ^ i ≤ 16777216 := hp
    have h256 : 2 ^ (8 * i) = 256 ^ i := by rw [Nat.pow_mul]
    have ht : l.take (i + 1) = l.take i ++ [l.getD i 0] := by
      rw [List.take_succ_eq_append_getElem (by omega)]
      simp [List.getD, show i < l.length by omega]
    have hm : (l.getD i 0).toNat * 256 ^ i ≤ 256 * 16777216 := Nat.mul_le_mul (by omega) hp
    have e3 : IntKind.wrap .i64 (((littleN (l.take i) : Nat) : Int) + IntKind.wrap .i64 ((((l.getD i 0).toNat : Nat) : Int) * ((2 ^ (8 * i) : Nat) : Int))) = ((littleN (l.take (i + 1)) : Nat) : Int) := by
      rw [h256, ← Int.natCast_mul, wrap64 (n := (((l.getD i 0).toNat * 256 ^ i : Nat) : Int)) (by omega) (by omega), wrap64 (by omega) (by omega), ht, littleN_snoc, hi, Nat.mul_comm]
      rfl
    rw [e3]
    exact rlittle_loop l hl e o1 o2 r1 r2 j (i + 1) (by omega)
theorem rlittle_ans {s : List UInt8} (hs : s.length ≤ 2 ^ 40) (a n : Int) : Ans (fun k => call k f_celluloidref02_Little [.s s, .i a, .i n] []) (encF (littleF s a n)) := by
  refine Ans.succ (fun k => u_celluloidref02_Little k s a n) ?_
  refine Ans.bind (x := [.b (decide (n < 1) || decide (n > 4))]) (.ite (fun h => .pure' (by rw [h]; rfl)) (fun h => .pure' (by rw [h]; rfl))) ?_
  simp only [List.getD_cons_zero, PV.toB]
  unfold littleF
  refine .ite (fun h => ?_) (fun h => ?_)
  · rw [if_pos (by simpa using h)]; exact .pure _
  · have h : ¬ (n < 1 ∨ n > 4) := by simpa using h
    rw [if_neg h]
    refine .bind (rbytes_ans hs a n (by omega)) ?_
    simp only [encB, List.getD_cons_zero, List.getD_cons_succ, PV.toI, PV.toS]
    have hl := bytesF_len (s := s) (a := a) (n := n) (by omega)
    exact rlittle_loop (bytesF s a n).1 hl (bytesF s a n).2.2.2 [] 0 (bytesF s a n).2.1 (bytesF s a n).2.2.1 _ 0 (Nat.zero_add _)
end Go.AI
set_option linter.unusedVariables false
set_option linter.unusedSimpArgs false
set_option maxRecDepth 100000
namespace Go.AI
open Go Go.Proofs

end Go.AI
