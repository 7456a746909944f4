/- The next bytes of a reader, and the number of them. -/
import Derived.Test.YtnbmjpdiibandaaP02b
set_option linter.unusedVariables false
set_option linter.unusedSimpArgs false
set_option maxRecDepth 100000
namespace Go.AI
open Go Go.Proofs

/-- the next bytes -/
def bytesF (s : List UInt8) (a n : Int) : List UInt8 × List UInt8 × Int × Int :=
  if rightB s a = false ∨ n < 0 then ([], [], 0, 1) else if n > (s.length : Int) - (a + 7) / 8 then ([], [], 0, 2) else ((s.drop ((a + 7) / 8).toNat).take n.toNat, s, 8 * ((a + 7) / 8 + n), 0)
def encB (r : List UInt8 × List UInt8 × Int × Int) : Res := ([.s r.1, .s r.2.1, .i r.2.2.1, .i r.2.2.2], [])
theorem ng2 {b : Bool} {p : Prop} (h1 : b = true) (h2 : ¬ p) : ¬ (b = false ∨ p) := by
  rintro (h | h)
  · rw [h1] at h; cases h
  · exact h2 h
theorem cutL_eq {α : Type} (a n : Nat) (s : List α) : cutL (a : Int) ((a + n : Nat) : Int) s = (s.drop a).take n := by
  unfold cutL
  rw [Int.toNat_natCast, Int.toNat_natCast, List.drop_take]
  congr 1; omega
theorem bytesF_cases (s : List UInt8) (a n : Int) : bytesF s a n = ([], [], 0, 1) ∨ bytesF s a n = ([], [], 0, 2) ∨
    ∃ a' n' : Nat, a = a' ∧ n = n' ∧ a' ≤ 8 * s.length ∧ (a' + 7) / 8 + n' ≤ s.length ∧ bytesF s a n = ((s.drop ((a' + 7) / 8)).take n', s, ((8 * ((a' + 7) / 8 + n') : Nat) : Int), 0) := by
  by_cases h : rightB s a = false ∨ n < 0
  · left; unfold bytesF; rw [if_pos h]
  · have hr : rightB s a = true := by
      cases hb : rightB s a
      · exact absurd (.inl hb) h
      · rfl
    have hr' := rightB_iff.1 hr
    have h3 : ¬ n < 0 := fun e => h (.inr e)
    obtain ⟨a', rfl⟩ := Int.eq_ofNat_of_zero_le hr'.1
    obtain ⟨n', rfl⟩ := Int.eq_ofNat_of_zero_le (by omega : 0 ≤ n)
    by_cases h2 : (n' : Int) > (s.length : Int) - ((a' : Int) + 7) / 8
    · right; left; unfold bytesF; rw [if_neg h, if_pos h2]
    · right; right
      refine ⟨a', n', rfl, rfl, by omega, by omega, ?_⟩
      unfold bytesF; rw [if_neg h, if_neg h2]
      have : (((a' : Int) + 7) / 8).toNat = (a' + 7) / 8 := by omega
      rw [this, Int.toNat_natCast]
      congr 3

theorem bytes_body {s : List UInt8} (hs : s.length ≤ 2 ^ 40) {a n : Int} (h1 : rightB s a = true) (h2 : ¬ n < 0) (hn : n ≤ 9223372036854775807) :
    ∃ p : Nat, p = (a.toNat + 7) / 8 ∧ p ≤ s.length ∧ IntKind.wrap .i64 (Int.tdiv (alignF s a) 8) = (p : Int) ∧ IntKind.wrap .i64 ((s.length : Int) - (p : Int)) = (s.length : Int) - p ∧ (a + 7) / 8 = (p : Int) := by
  have hs : s.length ≤ 1099511627776 := hs
  have hr := rightB_iff.1 h1
  obtain ⟨a, rfl⟩ := Int.eq_ofNat_of_zero_le hr.1
  refine ⟨(a + 7) / 8, rfl, by omega, ?_, wrap64 (by omega) (by omega), by omega⟩
  unfold alignF
  rw [if_pos h1, show ((a : Int) + 7) / 8 * 8 = (((a + 7) / 8 * 8 : Nat) : Int) by omega, show (8 : Int) = ((8 : Nat) : Int) from rfl, tdivN, wrap64 (by omega) (by omega)]
  congr 1; omega

theorem bytes_ans {s : List UInt8} (hs : s.length ≤ 2 ^ 40) (a n : Int) (hn : n ≤ 9223372036854775807) : Ans (fun k => call k f_bits_Bytes [.s s, .i a, .i n] []) (encB (bytesF s a n)) := by
  refine Ans.succ (fun k => u_bits_Bytes k s a n) ?_
  refine Ans.bind (x := [.b (!rightB s a || decide (n < 0))]) (Ans.bind (right_ans hs a) ?_) ?_
  · simp only [List.getD_cons_zero, PV.toB]
    exact .ite (fun h => .pure' (by rw [h]; rfl)) (fun h => .pure' (by rw [h]; rfl))
  · simp only [List.getD_cons_zero, PV.toB]
    refine .ite (fun h => .pure' ?_) (fun h => ?_)
    · have : rightB s a = false ∨ n < 0 := by simpa using h
      unfold bytesF; rw [if_pos this]; rfl
    · simp only [Bool.or_eq_false_iff, Bool.not_eq_false', decide_eq_false_iff_not] at h
      obtain ⟨h1, h2⟩ := h
      refine .bind (align_ans hs a) ?_
      obtain ⟨p, hp, hpl, e1, e2, e3⟩ := bytes_body hs h1 h2 hn
      have hs : s.length ≤ 1099511627776 := hs
      simp only [List.getD_cons_zero, List.getD_cons_succ, PV.toI, e1, e2]
      unfold bytesF
      rw [if_neg (ng2 h1 h2), e3]
      refine .ite (fun h => ?_) (fun h => ?_)
      · rw [if_pos (by simpa using h)]; exact .pure _
      · have h : ¬ (n > (s.length : Int) - p) := by simpa using h
        obtain ⟨n, rfl⟩ := Int.eq_ofNat_of_zero_le (by omega : 0 ≤ n)
        have e4 : IntKind.wrap .i64 ((p : Int) + (n : Int)) = ((p + n : Nat) : Int) := by rw [wrap64 (by omega) (by omega)]; rfl
        rw [if_neg h, e4, cutL_eq, wrap64 (by omega) (by omega)]
        refine .yes (by unfold okB; simp; omega) (.pure' ?_)
        rfl
theorem rbytes_ans {s : List UInt8} (hs : s.length ≤ 2 ^ 40) (a n : Int) (hn : n ≤ 9223372036854775807) : Ans (fun k => call k f_celluloidref02_Bytes [.s s, .i a, .i n] []) (encB (bytesF s a n)) := by
  refine Ans.succ (fun k => u_celluloidref02_Bytes k s a n) ?_
  refine Ans.bind (x := [.b (!rightB s a || decide (n < 0))]) (Ans.bind (rright_ans hs a) ?_) ?_
  · simp only [List.getD_cons_zero, PV.toB]
    exact .ite (fun h => .pure' (by rw [h]; rfl)) (fun h => .pure' (by rw [h]; rfl))
  · simp only [List.getD_cons_zero, PV.toB]
    refine .ite (fun h => .pure' ?_) (fun h => ?_)
    · have : rightB s a = false ∨ n < 0 := by simpa using h
      unfold bytesF; rw [if_pos this]; rfl
    · simp only [Bool.or_eq_false_iff, Bool.not_eq_false', decide_eq_false_iff_not] at h
      obtain ⟨h1, h2⟩ := h
      refine .bind (ralign_ans hs a) ?_
      obtain ⟨p, hp, hpl, e1, e2, e3⟩ := bytes_body hs h1 h2 hn
      have hs : s.length ≤ 1099511627776 := hs
      simp only [List.getD_cons_zero, List.getD_cons_succ, PV.toI, e1, e2]
      unfold bytesF
      rw [if_neg (ng2 h1 h2), e3]
      refine .ite (fun h => ?_) (fun h => ?_)
      · rw [if_pos (by simpa using h)]; exact .pure _
      · have h : ¬ (n > (s.length : Int) - p) := by simpa using h
        obtain ⟨n, rfl⟩ := Int.eq_ofNat_of_zero_le (by omega : 0 ≤ n)
        have e4 : IntKind.wrap .i64 ((p : Int) + (n : Int)) = ((p + n : Nat) : Int) := by rw [wrap64 (by omega) (by omega)]; rfl
        rw [if_neg h, e4, cutL_eq, wrap64 (by omega) (by omega)]
        refine .yes (by unfold okB; simp; omega) (.pure' ?_)
        rfl

end Go.AI
