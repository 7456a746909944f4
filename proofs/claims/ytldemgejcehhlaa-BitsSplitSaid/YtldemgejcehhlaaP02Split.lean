/- A field is one of its first bits, and one of the others. -/
import Derived.Test.YtldemgejcehhlaaP02
set_option linter.unusedVariables false
set_option linter.unusedSimpArgs false
set_option maxRecDepth 100000
namespace Go.AI
open Go Go.Proofs

theorem ng {b : Bool} {p q : Prop} (h1 : b = true) (h2 : ¬ p) (h3 : ¬ q) : ¬ (b = false ∨ p ∨ q) := by
  rintro (h | h | h)
  · rw [h1] at h; cases h
  · exact h2 h
  · exact h3 h
theorem BitsSplit_ans (s : List UInt8) (a n m : Int) (hn : -9223372036854775808 ≤ n ∧ n ≤ 9223372036854775807) (hm : -9223372036854775808 ≤ m ∧ m ≤ 9223372036854775807) : Ans (fun k => call k f_celluloidlaw02_BitsSplit [.s s, .i a, .i n, .i m] []) ([.b true], []) := by
  refine Ans.succ (fun k => u_celluloidlaw02_BitsSplit k s a n m) ?_
  refine Ans.bind (x := [.b (decide ((s.length : Int) > 1024) || (decide (n < 0) || (decide (m < 0) || (decide (IntKind.wrap .i64 (n + m) > 31) || (decide (n > 31) || decide (m > 31))))))]) ?_ ?_
  · refine .ite (fun h => .pure' (by rw [h]; rfl)) (fun h => .ite (fun h2 => .pure' (by rw [h, h2]; rfl)) (fun h2 => .ite (fun h3 => .pure' (by rw [h, h2, h3]; rfl)) (fun h3 => .ite (fun h4 => .pure' (by rw [h, h2, h3, h4]; rfl)) (fun h4 => .ite (fun h5 => .pure' (by rw [h, h2, h3, h4, h5]; rfl)) (fun h5 => .pure' (by rw [h, h2, h3, h4, h5]; rfl))))))
  · simp only [List.getD_cons_zero, PV.toB]
    refine .ite (fun h => .bind awake02 (.pure _)) (fun h => ?_)
    simp only [Bool.or_eq_false_iff, decide_eq_false_iff_not] at h
    obtain ⟨h1, h2, h3, h4, h5, h6⟩ := h
    have e : IntKind.wrap .i64 (n + m) = n + m := wrap64 (by omega) (by omega)
    rw [e] at h4 ⊢
    have hs : s.length ≤ 2 ^ 40 := Nat.le_trans (by omega : s.length ≤ 1024) (by decide)
    obtain ⟨n, rfl⟩ := Int.eq_ofNat_of_zero_le (by omega : 0 ≤ n)
    obtain ⟨m, rfl⟩ := Int.eq_ofNat_of_zero_le (by omega : 0 ≤ m)
    refine .bind (plain_ans hs a _) (.bind (plain_ans hs a _) ?_)
    have hr : rightB s a = true ↔ 0 ≤ a ∧ a ≤ 8 * (s.length : Int) := by unfold rightB; simp
    by_cases hr1 : rightB s a = true
    · have hr2 := hr.1 hr1
      obtain ⟨a, rfl⟩ := Int.eq_ofNat_of_zero_le hr2.1
      by_cases hA : (a : Int) + n > 8 * (s.length : Int)
      · have f1 : plainF s a (n + m) = (0, [], 0, 2) := by unfold plainF; rw [if_neg (ng hr1 (by omega) (by omega)), if_pos (by omega)]
        have f2 : plainF s a n = (0, [], 0, 2) := by unfold plainF; rw [if_neg (ng hr1 (by omega) (by omega)), if_pos (by omega)]
        rw [f1, f2]
        simp only [encF, List.getD_cons_zero, List.getD_cons_succ, PV.toI, PV.toS]
        refine .bind (plain_ans (s := []) (by decide) 0 m) ?_
        refine .yes (by decide) (.bind (x := [.b true]) (.yes (by decide) (.bind awake02 (.pure _))) (.pure _))
      · have f2 : plainF s a n = (((fieldN s a n : Nat) : Int), s, ((a + n : Nat) : Int), 0) := by unfold plainF; rw [if_neg (ng hr1 (by omega) (by omega)), if_neg hA]; rfl
        have hr3 : rightB s ((a + n : Nat) : Int) = true := by unfold rightB; simp; omega
        rw [f2]
        simp only [encF, List.getD_cons_zero, List.getD_cons_succ, PV.toI, PV.toS]
        refine .bind (plain_ans hs _ m) ?_
        by_cases hB : (a : Int) + n + m > 8 * (s.length : Int)
        · have f1 : plainF s a (n + m) = (0, [], 0, 2) := by unfold plainF; rw [if_neg (ng hr1 (by omega) (by omega)), if_pos (by omega)]
          have f3 : plainF s ((a + n : Nat) : Int) m = (0, [], 0, 2) := by unfold plainF; rw [if_neg (ng hr3 (by omega) (by omega)), if_pos (by omega)]
          rw [f1, f3]
          simp only [encF, List.getD_cons_zero, List.getD_cons_succ, PV.toI, PV.toS]
          refine .yes (by decide) (.bind (x := [.b true]) (.no (by decide) (.yes (by decide) (.bind awake02 (.pure _)))) (.pure _))
        · have f1 : plainF s a (n + m) = (((fieldN s a (n + m) : Nat) : Int), s, ((a + (n + m) : Nat) : Int), 0) := by unfold plainF; rw [if_neg (ng hr1 (by omega) (by omega)), if_neg (by omega)]; rfl
          have f3 : plainF s ((a + n : Nat) : Int) m = (((fieldN s (a + n) m : Nat) : Int), s, ((a + n + m : Nat) : Int), 0) := by unfold plainF; rw [if_neg (ng hr3 (by omega) (by omega)), if_neg (by omega)]; rfl
          rw [f1, f3]
          simp only [encF, List.getD_cons_zero, List.getD_cons_succ, PV.toI, PV.toS]
          have g1 := fieldN_lt s a n
          have g2 := fieldN_lt s (a + n) m
          have g3 := fieldN_lt s a (n + m)
          have g4 : 2 ^ (n + m) ≤ 2 ^ 31 := Nat.pow_le_pow_right (by decide) (by omega)
          have g4 : 2 ^ (n + m) ≤ 2147483648 := g4
          have ga := fieldN_add s a n m
          have e1 : bitsOp .or .i64 (shl .i64 (fieldN s a n : Int) (m : Int)) (fieldN s (a + n) m : Int) = (fieldN s a (n + m) : Int) := by
            rw [shl64 (by omega) (by omega), or_add g2 (by omega), ga]
          rw [e1]
          refine .no (by decide) (.bind (x := [.b true]) (.yes (by decide) (.yes (by decide) (.yes (by simp) (.yes (by simp) (.yes (by simp; omega) (.bind awake02 (.pure _))))))) (.pure _))
    · have hr1 : rightB s a = false := by simpa using hr1
      have f1 : plainF s a (n + m) = (0, [], 0, 1) := by unfold plainF; rw [if_pos (.inl hr1)]
      have f2 : plainF s a n = (0, [], 0, 1) := by unfold plainF; rw [if_pos (.inl hr1)]
      rw [f1, f2]
      simp only [encF, List.getD_cons_zero, List.getD_cons_succ, PV.toI, PV.toS]
      refine .bind (plain_ans (s := []) (by decide) 0 m) ?_
      refine .yes (by decide) (.bind (x := [.b true]) (.yes (by decide) (.bind awake02 (.pure _))) (.pure _))
end Go.AI
