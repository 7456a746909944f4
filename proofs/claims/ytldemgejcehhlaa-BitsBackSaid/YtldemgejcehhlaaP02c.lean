/- The next bytes of a reader, and the number of them. -/
import Derived.Test.YtldemgejcehhlaaP02b
set_option linter.unusedVariables false
set_option linter.unusedSimpArgs false
set_option maxRecDepth 100000
namespace Go.AI
open Go Go.Proofs

/-- the next bytes -/
def bytesF (s : List UInt8) (a n : Int) : List UInt8 × List UInt8 × Int × Int :=
  if rightB s a = false ∨ n < 0 then ([], [], 0, 1) else if n > (s.length : Int) - (a + 7) / 8 then ([], [], 0, 2) else ((s.drop ((a + 7) / 8).toNat).take n.toNat, s, 8 * ((a + 7) / 8 + n), 0)
def encB (r : List UInt8 × List UInt8 × Int × Int) : Res := ([.s r.1, .s r.2.1, .i r.2.2.1, .i r.2.2.2], [])
theorem ng2 {b : Bool} {p : Prop} (h1 : b = true) (h2 : ¬ p) : ¬ (b = false ∨ p) := by
  rintro (h | h)
  · rw [h1] at h; cases h
  · exact h2 h
theorem cutL_eq {α : Type} (a n : Nat) (s : List α) : cutL (a : Int) ((a + n : Nat) : Int) s = (s.drop a).take n := by
  unfold cutL
  rw [Int.toNat_natCast, Int.toNat_natCast, List.drop_take]
  congr 1; omega
theorem bytesF_cases (s : List UInt8) (a n : Int) : bytesF s a n = ([], [], 0, 1) ∨ bytesF s a n = ([], [], 0, 2) ∨
    ∃ a' n' : Nat, a = a' ∧ n = n' ∧ a' ≤ 8 * s.length ∧ (a' + 7) / 8 + n' ≤ s.length ∧ bytesF s a n = ((s.drop ((a' + 7) / 8)).take n', s, ((8 * ((a' + 7) / 8 + n') : Nat) : Int), 0) := by
  by_cases h : rightB s a = false ∨ n < 0
  · left; unfold bytesF; rw [if_pos h]
  · have hr : rightB s a = true := by
      cases hb : rightB s a
      · exact absurd (.inl hb) h
      · rfl
    have hr' := rightB_iff.1 hr
    have h3 : ¬ n < 0 := fun e => h (.inr e)
    obtain ⟨a', rfl⟩ := Int.eq_ofNat_of_zero_le hr'.1
    obtain ⟨n', rfl⟩ := Int.eq_ofNat_of_zero_le (by omega : 0 ≤ n)
    by_cases h2 : (n' : Int) > (s.length : Int) - ((a' : Int) + 7) / 8
    · right; left; unfold bytesF; rw [if_neg h, if_pos h2]
    · right; right
      refine ⟨a', n', rfl, rfl, by omega, by omega, ?_⟩
      unfold bytesF; rw [if_neg h, if_neg h2]
      have : (((a' : Int) + 7) / 8).toNat = (a' + 7) / 8 := by omega
      rw [this, Int.toNat_natCast]
      congr 3

theorem bytes_body {s : List UInt8} (hs : s.length ≤ 2 ^ 40) {a n : Int} (h1 : rightB s a = true) (h2 : ¬ n < 0) (hn : n ≤ 9223372036854775807) :
    ∃ p : Nat, p = (a.toNat + 7) / 8 ∧ p ≤ s.length ∧ IntKind.wrap .i64 (Int.tdiv (alignF s a) 8) = (p : Int) ∧ IntKind.wrap .i64 ((s.length : Int) - (p : Int)) = (s.length : Int) - p ∧ (a + 7) / 8 = (p : Int) := by
  have hs : s.length ≤ 1099511627776 := hs
  have hr := rightB_iff.1 h1
  obtain ⟨a, rfl⟩ := Int.eq_ofNat_of_zero_le hr.1
  refine ⟨(a + 7) / 8, rfl, by omega, ?_, wrap64 (by omega) (by omega), by omega⟩
  unfold alignF
  rw [if_pos h1, show ((a : Int) + 7) / 8 * 8 = (((a + 7) / 8 * 8 : Nat) : Int) by omega, show (8 : Int) = ((8 : Nat) : Int) from rfl, tdivN, wrap64 (by omega) (by omega)]
  congr 1; omega

theorem bytes_ans {s : List UInt8} (hs : s.length ≤ 2 ^ 40) (a n : Int) (hn : n ≤ 9223372036854775807) : Ans (fun k => call k f_bits_Bytes [.s s, .i a, .i n] []) (encB (bytesF s a n)) := by
  refine Ans.succ (fun k => u_bits_Bytes k s a n) ?_
  refine Ans.bind (x := [.b (!rightB s a || decide (n < 0))]) (Ans.bind (right_ans hs a) ?_) ?_
  · simp only [List.getD_cons_zero, PV.toB]
    exact .ite (fun h => .pure' (by rw [h]; rfl)) (fun h => .pure' (by rw [h]; rfl))
  · simp only [List.getD_cons_zero, PV.toB]
    refine .ite (fun h => .pure' ?_) (fun h => ?_)
    · have : rightB s a = false ∨ n < 0 := by simpa using h
      unfold bytesF; rw [if_pos this]; rfl
    · simp only [Bool.or_eq_false_iff, Bool.not_eq_false', decide_eq_false_iff_not] at h
      obtain ⟨h1, h2⟩ := h
      refine .bind (align_ans hs a) ?_
      obtain ⟨p, hp, hpl, e1, e2, e3⟩ := bytes_body hs h1 h2 hn
      have hs : s.length ≤ 1099511627776 := hs
      simp only [List.getD_cons_zero, List.getD_cons_succ, PV.toI, e1, e2]
      unfold bytesF
      rw [if_neg (ng2 h1 h2), e3]
      refine .ite (fun h => ?_) (fun h => ?_)
      · rw [if_pos (by simpa using h)]; exact .pure _
      · have h : ¬ (n > (s.length : Int) - p) := by simpa using h
        obtain ⟨n, rfl⟩ := Int.eq_ofNat_of_zero_le (by omega : 0 ≤ n)
        have e4 : IntKind.wrap .i64 ((p : Int) + (n : Int)) = ((p + n : Nat) : Int) := by rw [wrap64 (by omega) (by omega)]; rfl
        rw [if_neg h, e4, cutL_eq, wrap64 (by omega) (by omega)]
        refine .yes (by unfold okB; simp; omega) (.pure' ?_)
        rfl
theorem rbytes_ans {s : List UInt8} (hs : s.length ≤ 2 ^ 40) (a n : Int) (hn : n ≤ 9223372036854775807) : Ans (fun k => call k f_celluloidref02_Bytes [.s s, .i a, .i n] []) (encB (bytesF s a n)) := by
  refine Ans.succ (fun k => u_celluloidref02_Bytes k s a n) ?_
  refine Ans.bind (x := [.b (!rightB s a || decide (n < 0))]) (Ans.bind (rright_ans hs a) ?_) ?_
  · simp only [List.getD_cons_zero, PV.toB]
    exact .ite (fun h => .pure' (by rw [h]; rfl)) (fun h => .pure' (by rw [h]; rfl))
  · simp only [List.getD_cons_zero, PV.toB]
    refine .ite (fun h => .pure' ?_) (fun h => ?_)
    · have : rightB s a = false ∨ n < 0 := by simpa using h
      unfold bytesF; rw [if_pos this]; rfl
    · simp only [Bool.or_eq_false_iff, Bool.not_eq_false', decide_eq_false_iff_not] at h
      obtain ⟨h1, h2⟩ := h
      refine .bind (ralign_ans hs a) ?_
      obtain ⟨p, hp, hpl, e1, e2, e3⟩ := bytes_body hs h1 h2 hn
      have hs : s.length ≤ 1099511627776 := hs
      simp only [List.getD_cons_zero, List.getD_cons_succ, PV.toI, e1, e2]
      unfold bytesF
      rw [if_neg (ng2 h1 h2), e3]
      refine .ite (fun h => ?_) (fun h => ?_)
      · rw [if_pos (by simpa using h)]; exact .pure _
      · have h : ¬ (n > (s.length : Int) - p) := by simpa using h
        obtain ⟨n, rfl⟩ := Int.eq_ofNat_of_zero_le (by omega : 0 ≤ n)
        have e4 : IntKind.wrap .i64 ((p : Int) + (n : Int)) = ((p + n : Nat) : Int) := by rw [wrap64 (by omega) (by omega)]; rfl
        rw [if_neg h, e4, cutL_eq, wrap64 (by omega) (by omega)]
        refine .yes (by unfold okB; simp; omega) (.pure' ?_)
        rfl

/-- the number of bytes, the lowest first -/
def littleN : List UInt8 → Nat
  | [] => 0
  | b :: l => b.toNat + 256 * littleN l
theorem littleN_lt : ∀ l : List UInt8, littleN l < 256 ^ l.length
  | [] => by simp [littleN]
  | b :: l => by
    have := littleN_lt l
    have hb : b.toNat < 256 := UInt8.toNat_lt _
    simp only [littleN, List.length_cons, Nat.pow_succ]; omega
theorem littleN_snoc : ∀ (l : List UInt8) (b : UInt8), littleN (l ++ [b]) = littleN l + 256 ^ l.length * b.toNat
  | [], b => by simp [littleN]
  | x :: l, b => by
    simp only [List.cons_append, littleN, littleN_snoc l b, List.length_cons, Nat.pow_succ]
    rw [Nat.mul_add, ← Nat.mul_assoc, Nat.mul_comm 256 (256 ^ l.length)]; omega
def littleF (s : List UInt8) (a n : Int) : Int × List UInt8 × Int × Int :=
  if n < 1 ∨ n > 4 then (0, [], 0, 1) else (((littleN (bytesF s a n).1 : Nat) : Int), (bytesF s a n).2)

theorem little_loop (l : List UInt8) (hl : l.length ≤ 4) (e : Int) (o1 : List UInt8) (o2 : Int) (r1 : List UInt8) (r2 : Int) : ∀ i : Nat, i ≤ l.length →
    Ans (fun k => run k f_bits_Little [] at_bits_Little_L0 (S_bits_Little_L0 l e ((littleN (l.drop i) : Nat) : Int) ((i : Int) - 1) o1 o2 r1 r2)) ([.i ((littleN l : Nat) : Int), .s r1, .i r2, .i e], [])
  | 0, _ => by
    refine Ans.succ (fun k => u_bits_Little_L0 k ..) ?_
    exact .no (by decide) (.pure _)
  | i + 1, h => by
    refine Ans.succ (fun k => u_bits_Little_L0 k ..) ?_
    have e0 : (((i + 1 : Nat) : Int) - 1) = (i : Int) := by omega
    rw [e0]
    have h1 : inB (i : Int) l.length = true := by unfold inB; simp; omega
    have hb : (l.getD i 0).toNat < 256 := UInt8.toNat_lt _
    have e1 : IntKind.wrap .i64 (bt l (i : Int)) = (((l.getD i 0).toNat : Nat) : Int) := by unfold bt; rw [Int.toNat_natCast, wrap64 (by omega) (by omega)]
    have e2 : IntKind.wrap .i64 ((i : Int) - 1) = (i : Int) - 1 := wrap64 (by omega) (by omega)
    have hlt := littleN_lt (l.drop (i + 1))
    have hp : 256 ^ (l.drop (i + 1)).length ≤ 256 ^ 4 := Nat.pow_le_pow_right (by decide) (by rw [List.length_drop]; omega)
    have hp : 256 ^ (l.drop (i + 1)).length ≤ 4294967296 := hp
    have e3 : bitsOp .or .i64 (shl .i64 ((littleN (l.drop (i + 1)) : Nat) : Int) 8) (((l.getD i 0).toNat : Nat) : Int) = ((littleN (l.drop i) : Nat) : Int) := by
      have hd : l.drop i = l.getD i 0 :: l.drop (i + 1) := by
        rw [List.drop_eq_getElem_cons (by omega)]
        simp [List.getD, show i < l.length by omega]
      rw [show (8 : Int) = ((8 : Nat) : Int) from rfl, shl64 (by omega) (by decide), or_add (by omega) (by omega), hd]
      simp only [littleN]
      omega
    rw [e1, e2, e3]
    exact .yes (by simp) (.yes h1 (little_loop l hl e o1 o2 r1 r2 i (by omega)))
theorem bytesF_len {s : List UInt8} {a n : Int} (hn : n ≤ 4) : (bytesF s a n).1.length ≤ 4 := by
  rcases bytesF_cases s a n with h | h | ⟨a', n', rfl, rfl, _, _, h⟩
  · rw [h]; simp
  · rw [h]; simp
  · rw [h]; simp; omega
theorem little_ans {s : List UInt8} (hs : s.length ≤ 2 ^ 40) (a n : Int) : Ans (fun k => call k f_bits_Little [.s s, .i a, .i n] []) (encF (littleF s a n)) := by
  refine Ans.succ (fun k => u_bits_Little k s a n) ?_
  refine Ans.bind (x := [.b (decide (n < 1) || decide (n > 4))]) (.ite (fun h => .pure' (by rw [h]; rfl)) (fun h => .pure' (by rw [h]; rfl))) ?_
  simp only [List.getD_cons_zero, PV.toB]
  unfold littleF
  refine .ite (fun h => ?_) (fun h => ?_)
  · rw [if_pos (by simpa using h)]; exact .pure _
  · have h : ¬ (n < 1 ∨ n > 4) := by simpa using h
    rw [if_neg h]
    refine .bind (bytes_ans hs a n (by omega)) ?_
    simp only [encB, List.getD_cons_zero, List.getD_cons_succ, PV.toI, PV.toS]
    have hl := bytesF_len (s := s) (a := a) (n := n) (by omega)
    have := little_loop (bytesF s a n).1 hl (bytesF s a n).2.2.2 [] 0 (bytesF s a n).2.1 (bytesF s a n).2.2.1 _ (Nat.le_refl _)
    rw [List.drop_length] at this
    rw [wrap64 (by omega) (by omega)]
    exact this
theorem rlittle_loop (l : List UInt8) (hl : l.length ≤ 4) (e : Int) (o1 : List UInt8) (o2 : Int) (r1 : List UInt8) (r2 : Int) : ∀ j i : Nat, i + j = l.length →
    Ans (fun k => run k f_celluloidref02_Little [] at_celluloidref02_Little_L0 (S_celluloidref02_Little_L0 l e ((littleN (l.take i) : Nat) : Int) (i : Int) o1 o2 r1 r2)) ([.i ((littleN l : Nat) : Int), .s r1, .i r2, .i e], [])
  | 0, i, h => by
    refine Ans.succ (fun k => u_celluloidref02_Little_L0 k ..) ?_
    refine .no (by simp; omega) (.pure' ?_)
    rw [List.take_of_length_le (by omega)]
  | j + 1, i, h => by
    refine Ans.succ (fun k => u_celluloidref02_Little_L0 k ..) ?_
    have h1 : inB (i : Int) l.length = true := by unfold inB; simp; omega
    have hb : (l.getD i 0).toNat < 256 := UInt8.toNat_lt _
    have e0 : IntKind.wrap .i64 (8 * (i : Int)) = ((8 * i : Nat) : Int) := by rw [wrap64 (by omega) (by omega)]; rfl
    have e1 : IntKind.wrap .i64 (bt l (i : Int)) = (((l.getD i 0).toNat : Nat) : Int) := by unfold bt; rw [Int.toNat_natCast, wrap64 (by omega) (by omega)]
    have e2 : IntKind.wrap .i64 ((i : Int) + 1) = ((i + 1 : Nat) : Int) := by rw [wrap64 (by omega) (by omega)]; rfl
    rw [e0, e1, e2]
    refine .yes (by simp; omega) (.yes h1 (.bind (power_ans (8 * i) (by omega)) ?_))
    simp only [List.getD_cons_zero, PV.toI]
    have hlt := littleN_lt (l.take i)
    have hi : (l.take i).length = i := by rw [List.length_take]; omega
    rw [hi] at hlt
    have hp : 256 ^ i ≤ 256 ^ 3 := Nat.pow_le_pow_right (by decide) (by omega)
    have hp : 256 ^ i ≤ 16777216 := hp
    have h256 : 2 ^ (8 * i) = 256 ^ i := by rw [Nat.pow_mul]
    have ht : l.take (i + 1) = l.take i ++ [l.getD i 0] := by
      rw [List.take_succ_eq_append_getElem (by omega)]
      simp [List.getD, show i < l.length by omega]
    have hm : (l.getD i 0).toNat * 256 ^ i ≤ 256 * 16777216 := Nat.mul_le_mul (by omega) hp
    have e3 : IntKind.wrap .i64 (((littleN (l.take i) : Nat) : Int) + IntKind.wrap .i64 ((((l.getD i 0).toNat : Nat) : Int) * ((2 ^ (8 * i) : Nat) : Int))) = ((littleN (l.take (i + 1)) : Nat) : Int) := by
      rw [h256, ← Int.natCast_mul, wrap64 (n := (((l.getD i 0).toNat * 256 ^ i : Nat) : Int)) (by omega) (by omega), wrap64 (by omega) (by omega), ht, littleN_snoc, hi, Nat.mul_comm]
      rfl
    rw [e3]
    exact rlittle_loop l hl e o1 o2 r1 r2 j (i + 1) (by omega)
theorem rlittle_ans {s : List UInt8} (hs : s.length ≤ 2 ^ 40) (a n : Int) : Ans (fun k => call k f_celluloidref02_Little [.s s, .i a, .i n] []) (encF (littleF s a n)) := by
  refine Ans.succ (fun k => u_celluloidref02_Little k s a n) ?_
  refine Ans.bind (x := [.b (decide (n < 1) || decide (n > 4))]) (.ite (fun h => .pure' (by rw [h]; rfl)) (fun h => .pure' (by rw [h]; rfl))) ?_
  simp only [List.getD_cons_zero, PV.toB]
  unfold littleF
  refine .ite (fun h => ?_) (fun h => ?_)
  · rw [if_pos (by simpa using h)]; exact .pure _
  · have h : ¬ (n < 1 ∨ n > 4) := by simpa using h
    rw [if_neg h]
    refine .bind (rbytes_ans hs a n (by omega)) ?_
    simp only [encB, List.getD_cons_zero, List.getD_cons_succ, PV.toI, PV.toS]
    have hl := bytesF_len (s := s) (a := a) (n := n) (by omega)
    exact rlittle_loop (bytesF s a n).1 hl (bytesF s a n).2.2.2 [] 0 (bytesF s a n).2.1 (bytesF s a n).2.2.1 _ 0 (Nat.zero_add _)
end Go.AI
