/- What the functions of bits, and those of the document's answer, say of a reader: fields with a sign, powers, the next whole byte. -/
import Derived.Test.YtnbmjpdiibandaaP02
set_option linter.unusedVariables false
set_option linter.unusedSimpArgs false
set_option maxRecDepth 100000
namespace Go.AI
open Go Go.Proofs

theorem ng {b : Bool} {p q : Prop} (h1 : b = true) (h2 : ¬ p) (h3 : ¬ q) : ¬ (b = false ∨ p ∨ q) := by
  rintro (h | h | h)
  · rw [h1] at h; cases h
  · exact h2 h
  · exact h3 h
theorem rightB_iff {s : List UInt8} {a : Int} : rightB s a = true ↔ 0 ≤ a ∧ a ≤ 8 * (s.length : Int) := by unfold rightB; simp
theorem plainF_cases (s : List UInt8) (a n : Int) : plainF s a n = (0, [], 0, 1) ∨ plainF s a n = (0, [], 0, 2) ∨
    ∃ a' n' : Nat, a = a' ∧ n = n' ∧ n' ≤ 31 ∧ a' + n' ≤ 8 * s.length ∧ plainF s a n = (((fieldN s a' n' : Nat) : Int), s, ((a' + n' : Nat) : Int), 0) := by
  by_cases h : rightB s a = false ∨ n < 0 ∨ n > 31
  · left; unfold plainF; rw [if_pos h]
  · by_cases h2 : a + n > 8 * (s.length : Int)
    · right; left; unfold plainF; rw [if_neg h, if_pos h2]
    · right; right
      have hr : rightB s a = true := by
        cases hb : rightB s a
        · exact absurd (.inl hb) h
        · rfl
      have hr' := rightB_iff.1 hr
      have h3 : ¬ n < 0 := fun e => h (.inr (.inl e))
      have h4 : ¬ n > 31 := fun e => h (.inr (.inr e))
      obtain ⟨a', rfl⟩ := Int.eq_ofNat_of_zero_le hr'.1
      obtain ⟨n', rfl⟩ := Int.eq_ofNat_of_zero_le (by omega : 0 ≤ n)
      refine ⟨a', n', rfl, rfl, by omega, by omega, ?_⟩
      unfold plainF; rw [if_neg h, if_neg h2]; rfl

/-- a field with a sign -/
def signedF (s : List UInt8) (a n : Int) : Int × List UInt8 × Int × Int :=
  let r := plainF s a n
  (if r.2.2.2 = 0 ∧ n > 0 ∧ 2 * r.1 ≥ 2 ^ n.toNat then r.1 - 2 ^ n.toNat else r.1, r.2)
theorem signed_ans {s : List UInt8} (hs : s.length ≤ 2 ^ 40) (a n : Int) : Ans (fun k => call k f_bits_Signed [.s s, .i a, .i n] []) (encF (signedF s a n)) := by
  refine Ans.succ (fun k => u_bits_Signed k s a n) ?_
  refine Ans.bind (plain_ans hs a n) ?_
  rcases plainF_cases s a n with h | h | ⟨a, n, rfl, rfl, hn, ha, h⟩
  · unfold signedF; rw [h]
    simp only [encF, List.getD_cons_zero, List.getD_cons_succ, PV.toI, PV.toS]
    exact .bind (x := [.b false]) (.no (by decide) (.pure _)) (.no (by decide) (.pure _))
  · unfold signedF; rw [h]
    simp only [encF, List.getD_cons_zero, List.getD_cons_succ, PV.toI, PV.toS]
    exact .bind (x := [.b false]) (.no (by decide) (.pure _)) (.no (by decide) (.pure _))
  · unfold signedF; rw [h]
    simp only [encF, List.getD_cons_zero, List.getD_cons_succ, PV.toI, PV.toS]
    have hf := fieldN_lt s a n
    have h31 : 2 ^ n ≤ 2147483648 := Nat.pow_le_pow_right (n := 2) (by decide) hn
    by_cases h0 : n = 0
    · subst h0
      exact .bind (x := [.b false]) (.yes (by decide) (.no (by decide) (.pure _))) (.no (by decide) (.pure' (by simp)))
    · have e1 : IntKind.wrap .i64 ((n : Int) - 1) = ((n - 1 : Nat) : Int) := by rw [wrap64 (by omega) (by omega)]; omega
      have hp : 2 ^ n = 2 * 2 ^ (n - 1) := by rw [← Nat.pow_succ']; congr 1; omega
      have hdiv : (fieldN s a n / 2 ^ (n - 1) = 1) ↔ 2 * fieldN s a n ≥ 2 ^ n := by
        have hpos : 0 < 2 ^ (n - 1) := Nat.pow_pos (by decide)
        rw [hp]
        constructor
        · intro h
          have := Nat.div_mul_le_self (fieldN s a n) (2 ^ (n - 1))
          rw [h] at this; omega
        · intro h
          exact Nat.div_eq_of_lt_le (by omega) (by omega)
      refine .bind (x := [.b (decide (2 * fieldN s a n ≥ 2 ^ n))]) (.yes (by decide) (.yes (by simp; omega) ?_)) ?_
      · rw [e1, shrN (by show _ ≤ 64; omega)]
        refine .yes (by simp) (.pure' ?_)
        congr 3
        by_cases hd : 2 * fieldN s a n ≥ 2 ^ n
        · rw [hdiv.2 hd]; simp [hd]
        · have : fieldN s a n / 2 ^ (n - 1) ≠ 1 := fun e => hd (hdiv.1 e)
          simp only [decide_eq_false hd]
          simpa using fun e => this (by exact_mod_cast e)
      · simp only [List.getD_cons_zero, PV.toB]
        refine .ite (fun hd => ?_) (fun hd => ?_)
        · have hd : 2 * fieldN s a n ≥ 2 ^ n := by simpa using hd
          have e2 : shl .i64 1 (n : Int) = ((2 ^ n : Nat) : Int) := by
            have := shl64 (x := 1) (y := n) (by omega) (by omega)
            rw [Nat.one_mul] at this; exact this
          have c : True ∧ (n : Int) > 0 ∧ 2 * ((fieldN s a n : Nat) : Int) ≥ 2 ^ (n : Int).toNat := by
            refine ⟨trivial, by omega, ?_⟩
            rw [Int.toNat_natCast]; exact_mod_cast hd
          refine .yes (by simp) (.pure' ?_)
          rw [if_pos c, e2, Int.toNat_natCast, wrap64 (by omega) (by omega)]
          congr 3
        · have hd : ¬ 2 * fieldN s a n ≥ 2 ^ n := by simpa using hd
          have c : ¬ (True ∧ (n : Int) > 0 ∧ 2 * ((fieldN s a n : Nat) : Int) ≥ 2 ^ (n : Int).toNat) := by
            rintro ⟨_, _, h⟩
            rw [Int.toNat_natCast] at h
            exact hd (by exact_mod_cast h)
          rw [if_neg c]
          exact .pure _

/-! ### the document's -/
theorem rright_ans {s : List UInt8} (hs : s.length ≤ 2 ^ 40) (a : Int) : Ans (fun k => call k f_celluloidref02_Right [.s s, .i a] []) ([.b (rightB s a)], []) := by
  refine Ans.succ (fun k => u_celluloidref02_Right k s a) ?_
  have hs : s.length ≤ 1099511627776 := hs
  rw [wrap64 (n := 8 * (s.length : Int)) (by omega) (by omega)]
  unfold rightB
  by_cases h : 0 ≤ a
  · have h1 : decide (a ≥ 0) = true := by simpa using h
    have h2 : decide (0 ≤ a) = true := by simpa using h
    simp only [h1, h2, cond_true, Option.bind_some, List.getD_cons_zero, PV.toB, Bool.true_and]
    exact .pure _
  · have h1 : decide (a ≥ 0) = false := by simpa using h
    have h2 : decide (0 ≤ a) = false := by simpa using h
    simp only [h1, h2, cond_false, Option.bind_some, List.getD_cons_zero, PV.toB, Bool.false_and]
    exact .pure _

theorem power_loop (n : Nat) (hn : n ≤ 62) : ∀ j i, i + j = n → Ans (fun k => run k f_celluloidref02_Power [] at_celluloidref02_Power_L0 (S_celluloidref02_Power_L0 n ((2 ^ i : Nat) : Int) i)) ([.i ((2 ^ n : Nat) : Int)], [])
  | 0, i, hj => by
    obtain rfl : i = n := hj
    refine Ans.succ (fun k => u_celluloidref02_Power_L0 k ..) ?_
    exact .no (by simp) (.pure _)
  | j + 1, i, hj => by
    refine Ans.succ (fun k => u_celluloidref02_Power_L0 k ..) ?_
    have h1 : (2 : Nat) ^ i ≤ 2 ^ 61 := Nat.pow_le_pow_right (by decide) (by omega)
    have h1 : (2 : Nat) ^ i ≤ 2305843009213693952 := h1
    have e1 : IntKind.wrap .i64 (((2 ^ i : Nat) : Int) * 2) = ((2 ^ (i + 1) : Nat) : Int) := by
      have key : ∀ p : Nat, p ≤ 2305843009213693952 → IntKind.wrap .i64 ((p : Int) * 2) = ((p * 2 : Nat) : Int) := fun p hp => by rw [wrap64 (by omega) (by omega)]; omega
      rw [key _ h1, ← Nat.pow_succ]
    have e2 : IntKind.wrap .i64 ((i : Int) + 1) = ((i + 1 : Nat) : Int) := by rw [wrap64 (by omega) (by omega)]; omega
    rw [e1, e2]
    exact .yes (by simp; omega) (power_loop n hn j (i + 1) (by omega))
theorem power_ans (n : Nat) (hn : n ≤ 62) : Ans (fun k => call k f_celluloidref02_Power [.i (n : Int)] []) ([.i ((2 ^ n : Nat) : Int)], []) :=
  Ans.succ (fun k => u_celluloidref02_Power k n) (power_loop n hn n 0 (by omega))

theorem bit_loop : ∀ (j c x : Nat), c + j = 7 → x < 256 → Ans (fun k => run k f_celluloidref02_Bit [] at_celluloidref02_Bit_L0 (S_celluloidref02_Bit_L0 x c)) ([.i ((x / 2 ^ j % 2 : Nat) : Int)], [])
  | 0, c, x, hc, hx => by
    obtain rfl : c = 7 := hc
    refine Ans.succ (fun k => u_celluloidref02_Bit_L0 k ..) ?_
    refine .no (by decide) (.pure' ?_)
    rw [show (2 : Int) = ((2 : Nat) : Int) from rfl, tmodN]; simp
  | j + 1, c, x, hc, hx => by
    refine Ans.succ (fun k => u_celluloidref02_Bit_L0 k ..) ?_
    have e1 : IntKind.wrap .i64 (Int.tdiv (x : Int) 2) = ((x / 2 : Nat) : Int) := by
      rw [show (2 : Int) = ((2 : Nat) : Int) from rfl, tdivN, wrap64 (by omega) (by omega)]
    have e2 : IntKind.wrap .i64 ((c : Int) + 1) = ((c + 1 : Nat) : Int) := by rw [wrap64 (by omega) (by omega)]; omega
    rw [e1, e2]
    refine .yes (by simp; omega) ((bit_loop j (c + 1) (x / 2) (by omega) (by omega)).eq ?_)
    rw [Nat.div_div_eq_div_mul, Nat.pow_succ']
theorem bit_ans {s : List UInt8} {i : Nat} (hi : i < 8 * s.length) (hs : s.length ≤ 2 ^ 40) : Ans (fun k => call k f_celluloidref02_Bit [.s s, .i (i : Int)] []) ([.i ((bitN s i : Nat) : Int)], []) := by
  refine Ans.succ (fun k => u_celluloidref02_Bit k s i) ?_
  have hs : s.length ≤ 1099511627776 := hs
  have e1 : IntKind.wrap .i64 (Int.tdiv (i : Int) 8) = ((i / 8 : Nat) : Int) := by
    rw [show (8 : Int) = ((8 : Nat) : Int) from rfl, tdivN, wrap64 (by omega) (by omega)]
  have e4 : bt s ((i / 8 : Nat) : Int) = (((s.getD (i / 8) 0).toNat : Nat) : Int) := by unfold bt; rw [Int.toNat_natCast]
  have hlt : (s.getD (i / 8) 0).toNat < 256 := UInt8.toNat_lt _
  rw [e1, e4, wrap64 (by omega) (by omega), show (8 : Int) = ((8 : Nat) : Int) from rfl, tmodN]
  refine .yes (by unfold inB; simp; omega) ((bit_loop (7 - i % 8) (i % 8) _ (by omega) hlt).eq ?_)
  rfl

theorem rplain_loop {s : List UInt8} (hs : s.length ≤ 2 ^ 40) (a n : Nat) (hn : n ≤ 31) (ha : a + n ≤ 8 * s.length) (o1 : List UInt8) (o2 : Int) : ∀ j i, i + j = n →
    Ans (fun k => run k f_celluloidref02_Plain [] at_celluloidref02_Plain_L0 (S_celluloidref02_Plain_L0 n (fieldN s a i) i s a o1 o2)) ([.i (fieldN s a n), .s s, .i ((a + n : Nat) : Int), .i 0], [])
  | 0, i, hj => by
    obtain rfl : i = n := hj
    refine Ans.succ (fun k => u_celluloidref02_Plain_L0 k ..) ?_
    have hs : s.length ≤ 1099511627776 := hs
    have e : IntKind.wrap .i64 ((a : Int) + (i : Int)) = ((a + i : Nat) : Int) := by rw [wrap64 (by omega) (by omega)]; rfl
    rw [e]
    exact .no (by simp) (.pure _)
  | j + 1, i, hj => by
    refine Ans.succ (fun k => u_celluloidref02_Plain_L0 k ..) ?_
    have hs' : s.length ≤ 1099511627776 := hs
    have e : IntKind.wrap .i64 ((a : Int) + (i : Int)) = ((a + i : Nat) : Int) := by rw [wrap64 (by omega) (by omega)]; rfl
    rw [e]
    refine .yes (by simp; omega) (.bind (bit_ans (by omega) hs) ?_)
    have hf : fieldN s a i < 2 ^ i := fieldN_lt s a i
    have hi : 2 ^ i ≤ 2 ^ 30 := Nat.pow_le_pow_right (by decide) (by omega)
    have hi : 2 ^ i ≤ 1073741824 := hi
    have hb := bitN_lt s (a + i)
    have e1 : IntKind.wrap .i64 (IntKind.wrap .i64 (2 * (fieldN s a i : Int)) + ((bitN s (a + i) : Nat) : Int)) = ((fieldN s a (i + 1) : Nat) : Int) := by
      rw [wrap64 (n := 2 * (fieldN s a i : Int)) (by omega) (by omega), wrap64 (by omega) (by omega)]
      simp only [fieldN]; omega
    have e2 : IntKind.wrap .i64 ((i : Int) + 1) = ((i + 1 : Nat) : Int) := by rw [wrap64 (by omega) (by omega)]; omega
    simp only [List.getD_cons_zero, PV.toI, e1, e2]
    exact rplain_loop hs a n hn ha o1 o2 j (i + 1) (by omega)
theorem rplain_ans {s : List UInt8} (hs : s.length ≤ 2 ^ 40) (a n : Int) : Ans (fun k => call k f_celluloidref02_Plain [.s s, .i a, .i n] []) (encF (plainF s a n)) := by
  refine Ans.succ (fun k => u_celluloidref02_Plain k s a n) ?_
  refine Ans.bind (x := [.b (!rightB s a || (decide (n < 0) || decide (n > 31)))]) (Ans.bind (rright_ans hs a) ?_) ?_
  · simp only [List.getD_cons_zero, PV.toB]
    refine .ite (fun h => ?_) (fun h => .ite (fun h2 => ?_) (fun h2 => ?_))
    · exact .pure' (by rw [h]; rfl)
    · exact .pure' (by rw [h, h2]; rfl)
    · exact .pure' (by rw [h, h2]; rfl)
  · simp only [List.getD_cons_zero, PV.toB]
    refine .ite (fun h => ?_) (fun h => ?_)
    · refine .pure' ?_
      have : rightB s a = false ∨ n < 0 ∨ n > 31 := by simpa using h
      unfold plainF
      rw [if_pos this]; rfl
    · simp only [Bool.or_eq_false_iff, Bool.not_eq_false', decide_eq_false_iff_not] at h
      obtain ⟨h1, h2, h3⟩ := h
      have hr := rightB_iff.1 h1
      have hs' : s.length ≤ 1099511627776 := hs
      have e1 : IntKind.wrap .i64 (8 * (s.length : Int)) = 8 * (s.length : Int) := wrap64 (by omega) (by omega)
      rw [e1, wrap64 (n := 8 * (s.length : Int) - a) (by omega) (by omega)]
      unfold plainF
      rw [if_neg (ng h1 h2 h3)]
      refine .ite (fun h => ?_) (fun h => ?_)
      · have h : 8 * (s.length : Int) - a < n := by simpa using h
        rw [if_pos (by omega)]; exact .pure _
      · have h : ¬ (8 * (s.length : Int) - a < n) := by simpa using h
        rw [if_neg (by omega)]
        obtain ⟨a', rfl⟩ := Int.eq_ofNat_of_zero_le hr.1
        obtain ⟨n', rfl⟩ := Int.eq_ofNat_of_zero_le (by omega : 0 ≤ n)
        exact rplain_loop hs a' n' (by omega) (by omega) [] 0 n' 0 (by omega)
theorem rsigned_ans {s : List UInt8} (hs : s.length ≤ 2 ^ 40) (a n : Int) : Ans (fun k => call k f_celluloidref02_Signed [.s s, .i a, .i n] []) (encF (signedF s a n)) := by
  refine Ans.succ (fun k => u_celluloidref02_Signed k s a n) ?_
  refine Ans.bind (rplain_ans hs a n) ?_
  rcases plainF_cases s a n with h | h | ⟨a, n, rfl, rfl, hn, ha, h⟩
  · unfold signedF; rw [h]
    simp only [encF, List.getD_cons_zero, List.getD_cons_succ, PV.toI, PV.toS]
    exact .bind (x := [.b false]) (.no (by decide) (.pure _)) (.no (by decide) (.pure _))
  · unfold signedF; rw [h]
    simp only [encF, List.getD_cons_zero, List.getD_cons_succ, PV.toI, PV.toS]
    exact .bind (x := [.b false]) (.no (by decide) (.pure _)) (.no (by decide) (.pure _))
  · unfold signedF; rw [h]
    simp only [encF, List.getD_cons_zero, List.getD_cons_succ, PV.toI, PV.toS]
    have hf := fieldN_lt s a n
    have h31 : 2 ^ n ≤ 2147483648 := Nat.pow_le_pow_right (n := 2) (by decide) hn
    by_cases h0 : n = 0
    · subst h0
      exact .bind (x := [.b false]) (.yes (by decide) (.no (by decide) (.pure _))) (.no (by decide) (.pure' (by simp)))
    · refine .bind (x := [.b (decide (2 * fieldN s a n ≥ 2 ^ n))]) (.yes (by decide) (.yes (by simp; omega) (.bind (power_ans n (by omega)) ?_))) ?_
      · simp only [List.getD_cons_zero, PV.toI]
        rw [wrap64 (by omega) (by omega)]
        refine .pure' ?_
        congr 2
        apply decide_eq_decide.2
        constructor
        · intro h; exact_mod_cast h
        · intro h; exact_mod_cast h
      · simp only [List.getD_cons_zero, PV.toB]
        refine .ite (fun hd => ?_) (fun hd => ?_)
        · have hd : 2 * fieldN s a n ≥ 2 ^ n := by simpa using hd
          have c : True ∧ (n : Int) > 0 ∧ 2 * ((fieldN s a n : Nat) : Int) ≥ 2 ^ (n : Int).toNat := by
            refine ⟨trivial, by omega, ?_⟩
            rw [Int.toNat_natCast]; exact_mod_cast hd
          refine .bind (power_ans n (by omega)) (.pure' ?_)
          simp only [List.getD_cons_zero, PV.toI]
          rw [if_pos c, Int.toNat_natCast, wrap64 (by omega) (by omega)]
          congr 3
        · have hd : ¬ 2 * fieldN s a n ≥ 2 ^ n := by simpa using hd
          have c : ¬ (True ∧ (n : Int) > 0 ∧ 2 * ((fieldN s a n : Nat) : Int) ≥ 2 ^ (n : Int).toNat) := by
            rintro ⟨_, _, h⟩
            rw [Int.toNat_natCast] at h
            exact hd (by exact_mod_cast h)
          rw [if_neg c]
          exact .pure _

/-- to the next whole byte -/
def alignF (s : List UInt8) (a : Int) : Int := if rightB s a = true then (a + 7) / 8 * 8 else a
theorem align_ans {s : List UInt8} (hs : s.length ≤ 2 ^ 40) (a : Int) : Ans (fun k => call k f_bits_Align [.s s, .i a] []) ([.s s, .i (alignF s a)], []) := by
  refine Ans.succ (fun k => u_bits_Align k s a) ?_
  refine .bind (right_ans hs a) ?_
  simp only [List.getD_cons_zero, PV.toB]
  have hs : s.length ≤ 1099511627776 := hs
  unfold alignF
  refine .ite (fun h => ?_) (fun h => ?_)
  · have hr := rightB_iff.1 h
    rw [if_pos h]
    obtain ⟨a, rfl⟩ := Int.eq_ofNat_of_zero_le hr.1
    refine .pure' ?_
    have e : IntKind.wrap .i64 ((a : Int) + 7) = ((a + 7 : Nat) : Int) := by rw [wrap64 (by omega) (by omega)]; rfl
    rw [e, show (8 : Int) = ((8 : Nat) : Int) from rfl, tdivN, wrap64 (n := (((a + 7) / 8 : Nat) : Int)) (by omega) (by omega), wrap64 (by omega) (by omega)]
    congr 4
  · rw [if_neg (by rw [h]; simp)]; exact .pure _
theorem ralign_loop {s : List UInt8} (hs : s.length ≤ 2 ^ 40) (o1 : List UInt8) (o2 : Int) : ∀ (j a : Nat), (a + 7) / 8 * 8 = a + j → a ≤ 8 * s.length →
    Ans (fun k => run k f_celluloidref02_Align [] at_celluloidref02_Align_L0 (S_celluloidref02_Align_L0 s a o1 o2)) ([.s s, .i ((a + j : Nat) : Int)], [])
  | 0, a, hj, ha => by
    refine Ans.succ (fun k => u_celluloidref02_Align_L0 k ..) ?_
    have hr : rightB s (a : Int) = true := rightB_iff.2 ⟨by omega, by omega⟩
    refine .bind (x := [.b false]) (.bind (rright_ans hs a) ?_) (.no rfl (.pure _))
    simp only [List.getD_cons_zero, PV.toB]
    refine .yes hr (.pure' ?_)
    rw [show (8 : Int) = ((8 : Nat) : Int) from rfl, tmodN]
    have : a % 8 = 0 := by omega
    rw [this]; rfl
  | j + 1, a, hj, ha => by
    refine Ans.succ (fun k => u_celluloidref02_Align_L0 k ..) ?_
    have hr : rightB s (a : Int) = true := rightB_iff.2 ⟨by omega, by omega⟩
    have hs' : s.length ≤ 1099511627776 := hs
    refine .bind (x := [.b true]) (.bind (rright_ans hs a) ?_) (.yes rfl ?_)
    · simp only [List.getD_cons_zero, PV.toB]
      refine .yes hr (.pure' ?_)
      rw [show (8 : Int) = ((8 : Nat) : Int) from rfl, tmodN]
      have : a % 8 ≠ 0 := by omega
      congr 2
      simp; omega
    · have e : IntKind.wrap .i64 ((a : Int) + 1) = ((a + 1 : Nat) : Int) := by rw [wrap64 (by omega) (by omega)]; rfl
      rw [e]
      refine (ralign_loop hs o1 o2 j (a + 1) (by omega) (by omega)).eq ?_
      congr 4; omega
theorem ralign_ans {s : List UInt8} (hs : s.length ≤ 2 ^ 40) (a : Int) : Ans (fun k => call k f_celluloidref02_Align [.s s, .i a] []) ([.s s, .i (alignF s a)], []) := by
  refine Ans.succ (fun k => u_celluloidref02_Align k s a) ?_
  unfold alignF
  by_cases h : rightB s a = true
  · have hr := rightB_iff.1 h
    rw [if_pos h]
    obtain ⟨a, rfl⟩ := Int.eq_ofNat_of_zero_le hr.1
    refine (ralign_loop hs [] 0 ((a + 7) / 8 * 8 - a) a (by omega) (by omega)).eq ?_
    congr 4; omega
  · rw [if_neg h]
    have h : rightB s a = false := by simpa using h
    refine Ans.succ (fun k => u_celluloidref02_Align_L0 k ..) ?_
    refine .bind (x := [.b false]) (.bind (rright_ans hs a) ?_) (.no rfl (.pure _))
    simp only [List.getD_cons_zero, PV.toB]
    exact .no h (.pure _)
end Go.AI
