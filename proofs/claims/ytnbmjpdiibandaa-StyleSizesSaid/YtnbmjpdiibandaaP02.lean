/- What the functions of bits answer. -/
import Derived.Test.YtnbmjpdiibandaaU
import Derived.Test.YtnbmjpdiibandaaAiM
set_option linter.unusedVariables false
set_option linter.unusedSimpArgs false
set_option maxRecDepth 100000
namespace Go.AI
open Go Go.Proofs


def rightB (s : List UInt8) (a : Int) : Bool := decide (0 ≤ a) && decide (a ≤ 8 * (s.length : Int))
theorem right_ans {s : List UInt8} (hs : s.length ≤ 2 ^ 40) (a : Int) : Ans (fun k => call k f_bits_right [.s s, .i a] []) ([.b (rightB s a)], []) := by
  refine Ans.succ (fun k => u_bits_right k s a) ?_
  have hs : s.length ≤ 1099511627776 := hs
  rw [wrap64 (n := 8 * (s.length : Int)) (by omega) (by omega)]
  unfold rightB
  by_cases h : 0 ≤ a
  · have h1 : decide (a ≥ 0) = true := by simpa using h
    have h2 : decide (0 ≤ a) = true := by simpa using h
    simp only [h1, h2, cond_true, Option.bind_some, List.getD_cons_zero, PV.toB, Bool.true_and]
    exact .pure _
  · have h1 : decide (a ≥ 0) = false := by simpa using h
    have h2 : decide (0 ≤ a) = false := by simpa using h
    simp only [h1, h2, cond_false, Option.bind_some, List.getD_cons_zero, PV.toB, Bool.false_and]
    exact .pure _

theorem plain_loop {s : List UInt8} (hs : s.length ≤ 2 ^ 40) (a n : Nat) (hn : n ≤ 31) (ha : a + n ≤ 8 * s.length) (o1 : List UInt8) (o2 : Int) : ∀ j i, i + j = n →
    Ans (fun k => run k f_bits_Plain [] at_bits_Plain_L1 (S_bits_Plain_L1 n (fieldN s a i) ((a + i : Nat) : Int) s a o1 o2)) ([.i (fieldN s a n), .s s, .i ((a + n : Nat) : Int), .i 0], [])
  | 0, i, hj => by
    refine Ans.succ (fun k => u_bits_Plain_L1 k ..) ?_
    have hs : s.length ≤ 1099511627776 := hs
    obtain rfl : i = n := hj
    have e : IntKind.wrap .i64 ((a : Int) + (i : Int)) = ((a + i : Nat) : Int) := by rw [wrap64 (by omega) (by omega)]; rfl
    have h1 : decide (((a + i : Nat) : Int) < ((a + i : Nat) : Int)) = false := by simp
    simp only [e, h1, cond_false]
    exact .pure _
  | j + 1, i, hj => by
    refine Ans.succ (fun k => u_bits_Plain_L1 k ..) ?_
    have hs : s.length ≤ 1099511627776 := hs
    have e : IntKind.wrap .i64 ((a : Int) + (n : Int)) = ((a + n : Nat) : Int) := by rw [wrap64 (by omega) (by omega)]; rfl
    have h1 : decide (((a + i : Nat) : Int) < ((a + n : Nat) : Int)) = true := by simp; omega
    have e2 : IntKind.wrap .i64 (Int.tdiv ((a + i : Nat) : Int) (8 : Int)) = (((a + i) / 8 : Nat) : Int) := by
      rw [show (8 : Int) = ((8 : Nat) : Int) from rfl, tdivN, wrap64 (by omega) (by omega)]
    have e3 : IntKind.wrap .i64 ((7 : Int) - (Int.tmod ((a + i : Nat) : Int) (8 : Int))) = ((7 - (a + i) % 8 : Nat) : Int) := by
      rw [show (8 : Int) = ((8 : Nat) : Int) from rfl, tmodN, wrap64 (by omega) (by omega)]; omega
    have h2 : inB (((a + i) / 8 : Nat) : Int) s.length = true := by unfold inB; simp; omega
    have h3 : decide ((0 : Int) ≤ ((7 - (a + i) % 8 : Nat) : Int)) = true := by simp
    have e4 : bt s (((a + i) / 8 : Nat) : Int) = (((s.getD ((a + i) / 8) 0).toNat : Nat) : Int) := by unfold bt; rw [Int.toNat_natCast]
    have hlt : (s.getD ((a + i) / 8) 0).toNat < 256 := UInt8.toNat_lt _
    have e5 : IntKind.wrap .i64 (bitsOp .and .u8 (shr .u8 (bt s (((a + i) / 8 : Nat) : Int)) ((7 - (a + i) % 8 : Nat) : Int)) 1) = ((bitN s (a + i) : Nat) : Int) := by
      rw [e4, shrN (by show _ ≤ 8; omega), and1_u8 (Nat.lt_of_le_of_lt (Nat.div_le_self _ _) hlt)]
      have := bitN_lt s (a + i)
      unfold bitN at this ⊢
      rw [wrap64 (by omega) (by omega)]
    have hf : fieldN s a i < 2 ^ i := fieldN_lt s a i
    have hi : 2 ^ i ≤ 2 ^ 30 := Nat.pow_le_pow_right (by decide) (by omega)
    have hi : 2 ^ i ≤ 1073741824 := hi
    have hb := bitN_lt s (a + i)
    have e6 : bitsOp .or .i64 (shl .i64 (fieldN s a i : Int) 1) ((bitN s (a + i) : Nat) : Int) = ((fieldN s a (i + 1) : Nat) : Int) := by
      rw [show (1 : Int) = ((1 : Nat) : Int) from rfl, shl64 (by omega) (by decide), or_add (by omega) (by omega)]
      simp only [fieldN]; omega
    have e7 : IntKind.wrap .i64 (((a + i : Nat) : Int) + 1) = ((a + (i + 1) : Nat) : Int) := by rw [wrap64 (by omega) (by omega)]; omega
    simp only [e, e2, e3, h1, h2, h3, e5, e6, e7, cond_true]
    exact plain_loop hs a n hn ha o1 o2 j (i + 1) (by omega)

/-- the next bits -/
def plainF (s : List UInt8) (a n : Int) : Int × List UInt8 × Int × Int :=
  if rightB s a = false ∨ n < 0 ∨ n > 31 then (0, [], 0, 1) else if a + n > 8 * (s.length : Int) then (0, [], 0, 2) else (fieldN s a.toNat n.toNat, s, a + n, 0)
def encF (r : Int × List UInt8 × Int × Int) : Res := ([.i r.1, .s r.2.1, .i r.2.2.1, .i r.2.2.2], [])
theorem plain_ans {s : List UInt8} (hs : s.length ≤ 2 ^ 40) (a n : Int) : Ans (fun k => call k f_bits_Plain [.s s, .i a, .i n] []) (encF (plainF s a n)) := by
  refine Ans.succ (fun k => u_bits_Plain k s a n) ?_
  refine Ans.bind (x := [.b (!rightB s a || (decide (n < 0) || decide (n > 31)))]) (Ans.bind (right_ans hs a) ?_) ?_
  · simp only [List.getD_cons_zero, PV.toB]
    refine .ite (fun h => ?_) (fun h => .ite (fun h2 => ?_) (fun h2 => ?_))
    · exact .pure' (by rw [h]; rfl)
    · exact .pure' (by rw [h, h2]; rfl)
    · exact .pure' (by rw [h, h2]; rfl)
  · simp only [List.getD_cons_zero, PV.toB]
    refine .ite (fun h => ?_) (fun h => ?_)
    · refine .pure' ?_
      have : rightB s a = false ∨ n < 0 ∨ n > 31 := by simpa using h
      unfold plainF
      rw [if_pos this]; rfl
    · simp only [Bool.or_eq_false_iff, Bool.not_eq_false', decide_eq_false_iff_not] at h
      obtain ⟨h1, h2, h3⟩ := h
      have hr := h1
      unfold rightB at hr
      simp only [Bool.and_eq_true, decide_eq_true_eq] at hr
      have hs' : s.length ≤ 1099511627776 := hs
      have e1 : IntKind.wrap .i64 (8 * (s.length : Int)) = 8 * (s.length : Int) := wrap64 (by omega) (by omega)
      have e2 : IntKind.wrap .i64 (a + n) = a + n := wrap64 (by omega) (by omega)
      rw [e1, e2]
      have hn : ¬ (rightB s a = false ∨ n < 0 ∨ n > 31) := by rw [h1]; simp; omega
      unfold plainF
      rw [if_neg hn]
      refine .ite (fun h => ?_) (fun h => ?_)
      · rw [if_pos (by simpa using h)]; exact .pure _
      · have h : ¬ (a + n > 8 * (s.length : Int)) := by simpa using h
        rw [if_neg h]
        obtain ⟨a', rfl⟩ := Int.eq_ofNat_of_zero_le hr.1
        obtain ⟨n', rfl⟩ := Int.eq_ofNat_of_zero_le (by omega : 0 ≤ n)
        have := plain_loop hs a' n' (by omega) (by omega) [] 0 n' 0 (by omega)
        exact this
end Go.AI
