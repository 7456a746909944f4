/- The number of the next bytes of a reader. -/
import Derived.Test.YtnbmjpdiibandaaP02c
set_option linter.unusedVariables false
set_option linter.unusedSimpArgs false
set_option maxRecDepth 100000
namespace Go.AI
open Go Go.Proofs

/-- the number of bytes, the lowest first -/
def littleN : List UInt8 → Nat
  | [] => 0
  | b :: l => b.toNat + 256 * littleN l
theorem littleN_lt : ∀ l : List UInt8, littleN l < 256 ^ l.length
  | [] => by simp [littleN]
  | b :: l => by
    have := littleN_lt l
    have hb : b.toNat < 256 := UInt8.toNat_lt _
    simp only [littleN, List.length_cons, Nat.pow_succ]; omega
theorem littleN_snoc : ∀ (l : List UInt8) (b : UInt8), littleN (l ++ [b]) = littleN l + 256 ^ l.length * b.toNat
  | [], b => by simp [littleN]
  | x :: l, b => by
    simp only [List.cons_append, littleN, littleN_snoc l b, List.length_cons, Nat.pow_succ]
    rw [Nat.mul_add, ← Nat.mul_assoc, Nat.mul_comm 256 (256 ^ l.length)]; omega
def littleF (s : List UInt8) (a n : Int) : Int × List UInt8 × Int × Int :=
  if n < 1 ∨ n > 4 then (0, [], 0, 1) else (((littleN (bytesF s a n).1 : Nat) : Int), (bytesF s a n).2)

theorem little_loop (l : List UInt8) (hl : l.length ≤ 4) (e : Int) (o1 : List UInt8) (o2 : Int) (r1 : List UInt8) (r2 : Int) : ∀ i : Nat, i ≤ l.length →
    Ans (fun k => run k f_bits_Little [] at_bits_Little_L0 (S_bits_Little_L0 l e ((littleN (l.drop i) : Nat) : Int) ((i : Int) - 1) o1 o2 r1 r2)) ([.i ((littleN l : Nat) : Int), .s r1, .i r2, .i e], [])
  | 0, _ => by
    refine Ans.succ (fun k => u_bits_Little_L0 k ..) ?_
    exact .no (by decide) (.pure _)
  | i + 1, h => by
    refine Ans.succ (fun k => u_bits_Little_L0 k ..) ?_
    have e0 : (((i + 1 : Nat) : Int) - 1) = (i : Int) := by omega
    rw [e0]
    have h1 : inB (i : Int) l.length = true := by unfold inB; simp; omega
    have hb : (l.getD i 0).toNat < 256 := UInt8.toNat_lt _
    have e1 : IntKind.wrap .i64 (bt l (i : Int)) = (((l.getD i 0).toNat : Nat) : Int) := by unfold bt; rw [Int.toNat_natCast, wrap64 (by omega) (by omega)]
    have e2 : IntKind.wrap .i64 ((i : Int) - 1) = (i : Int) - 1 := wrap64 (by omega) (by omega)
    have hlt := littleN_lt (l.drop (i + 1))
    have hp : 256 ^ (l.drop (i + 1)).length ≤ 256 ^ 4 := Nat.pow_le_pow_right (by decide) (by rw [List.length_drop]; omega)
    have hp : 256 ^ (l.drop (i + 1)).length ≤ 4294967296 := hp
    have e3 : bitsOp .or .i64 (shl .i64 ((littleN (l.drop (i + 1)) : Nat) : Int) 8) (((l.getD i 0).toNat : Nat) : Int) = ((littleN (l.drop i) : Nat) : Int) := by
      have hd : l.drop i = l.getD i 0 :: l.drop (i + 1) := by
        rw [List.drop_eq_getElem_cons (by omega)]
        simp [List.getD, show i < l.length by omega]
      rw [show (8 : Int) = ((8 : Nat) : Int) from rfl, shl64 (by omega) (by decide), or_add (by omega) (by omega), hd]
      simp only [littleN]
      omega
    rw [e1, e2, e3]
    exact .yes (by simp) (.yes h1 (little_loop l hl e o1 o2 r1 r2 i (by omega)))
theorem bytesF_len {s : List UInt8} {a n : Int} (hn : n ≤ 4) : (bytesF s a n).1.length ≤ 4 := by
  rcases bytesF_cases s a n with h | h | ⟨a', n', rfl, rfl, _, _, h⟩
  · rw [h]; simp
  · rw [h]; simp
  · rw [h]; simp; omega
theorem little_ans {s : List UInt8} (hs : s.length ≤ 2 ^ 40) (a n : Int) : Ans (fun k => call k f_bits_Little [.s s, .i a, .i n] []) (encF (littleF s a n)) := by
  refine Ans.succ (fun k => u_bits_Little k s a n) ?_
  refine Ans.bind (x := [.b (decide (n < 1) || decide (n > 4))]) (.ite (fun h => .pure' (by rw [h]; rfl)) (fun h => .pure' (by rw [h]; rfl))) ?_
  simp only [List.getD_cons_zero, PV.toB]
  unfold littleF
  refine .ite (fun h => ?_) (fun h => ?_)
  · rw [if_pos (by simpa using h)]; exact .pure _
  · have h : ¬ (n < 1 ∨ n > 4) := by simpa using h
    rw [if_neg h]
    refine .bind (bytes_ans hs a n (by omega)) ?_
    simp only [encB, List.getD_cons_zero, List.getD_cons_succ, PV.toI, PV.toS]
    have hl := bytesF_len (s := s) (a := a) (n := n) (by omega)
    have := little_loop (bytesF s a n).1 hl (bytesF s a n).2.2.2 [] 0 (bytesF s a n).2.1 (bytesF s a n).2.2.1 _ (Nat.le_refl _)
    rw [List.drop_length] at this
    rw [wrap64 (by omega) (by omega)]
    exact this
theorem rlittle_loop (l : List UInt8) (hl : l.length ≤ 4) (e : Int) (o1 : List UInt8) (o2 : Int) (r1 : List UInt8) (r2 : Int) : ∀ j i : Nat, i + j = l.length →
    Ans (fun k => run k f_celluloidref02_Little [] at_celluloidref02_Little_L0 (S_celluloidref02_Little_L0 l e ((littleN (l.take i) : Nat) : Int) (i : Int) o1 o2 r1 r2)) ([.i ((littleN l : Nat) : Int), .s r1, .i r2, .i e], [])
  | 0, i, h => by
    refine Ans.succ (fun k => u_celluloidref02_Little_L0 k ..) ?_
    refine .no (by simp; omega) (.pure' ?_)
    rw [List.take_of_length_le (by omega)]
  | j + 1, i, h => by
    refine Ans.succ (fun k => u_celluloidref02_Little_L0 k ..) ?_
    have h1 : inB (i : Int) l.length = true := by unfold inB; simp; omega
    have hb : (l.getD i 0).toNat < 256 := UInt8.toNat_lt _
    have e0 : IntKind.wrap .i64 (8 * (i : Int)) = ((8 * i : Nat) : Int) := by rw [wrap64 (by omega) (by omega)]; rfl
    have e1 : IntKind.wrap .i64 (bt l (i : Int)) = (((l.getD i 0).toNat : Nat) : Int) := by unfold bt; rw [Int.toNat_natCast, wrap64 (by omega) (by omega)]
    have e2 : IntKind.wrap .i64 ((i : Int) + 1) = ((i + 1 : Nat) : Int) := by rw [wrap64 (by omega) (by omega)]; rfl
    rw [e0, e1, e2]
    refine .yes (by simp; omega) (.yes h1 (.bind (power_ans (8 * i) (by omega)) ?_))
    simp only [List.getD_cons_zero, PV.toI]
    have hlt := littleN_lt (l.take i)
    have hi : (l.take i).length = i := by rw [List.length_take]; omega
    rw [hi] at hlt
    have hp : 256 ^ i ≤ 256 ^ 3 := Nat.pow_le_pow_right (by decide) (by omega)
    have hp : 256 ^ i ≤ 16777216 := hp
    have h256 : 2 ^ (8 * i) = 256 ^ i := by rw [Nat.pow_mul]
    have ht : l.take (i + 1) = l.take i ++ [l.getD i 0] := by
      rw [List.take_succ_eq_append_getElem (by omega)]
      simp [List.getD, show i < l.length by omega]
    have hm : (l.getD i 0).toNat * 256 ^ i ≤ 256 * 16777216 := Nat.mul_le_mul (by omega) hp
    have e3 : IntKind.wrap .i64 (((littleN (l.take i) : Nat) : Int) + IntKind.wrap .i64 ((((l.getD i 0).toNat : Nat) : Int) * ((2 ^ (8 * i) : Nat) : Int))) = ((littleN (l.take (i + 1)) : Nat) : Int) := by
      rw [h256, ← Int.natCast_mul, wrap64 (n := (((l.getD i 0).toNat * 256 ^ i : Nat) : Int)) (by omega) (by omega), wrap64 (by omega) (by omega), ht, littleN_snoc, hi, Nat.mul_comm]
      rfl
    rw [e3]
    exact rlittle_loop l hl e o1 o2 r1 r2 j (i + 1) (by omega)
theorem rlittle_ans {s : List UInt8} (hs : s.length ≤ 2 ^ 40) (a n : Int) : Ans (fun k => call k f_celluloidref02_Little [.s s, .i a, .i n] []) (encF (littleF s a n)) := by
  refine Ans.succ (fun k => u_celluloidref02_Little k s a n) ?_
  refine Ans.bind (x := [.b (decide (n < 1) || decide (n > 4))]) (.ite (fun h => .pure' (by rw [h]; rfl)) (fun h => .pure' (by rw [h]; rfl))) ?_
  simp only [List.getD_cons_zero, PV.toB]
  unfold littleF
  refine .ite (fun h => ?_) (fun h => ?_)
  · rw [if_pos (by simpa using h)]; exact .pure _
  · have h : ¬ (n < 1 ∨ n > 4) := by simpa using h
    rw [if_neg h]
    refine .bind (rbytes_ans hs a n (by omega)) ?_
    simp only [encB, List.getD_cons_zero, List.getD_cons_succ, PV.toI, PV.toS]
    have hl := bytesF_len (s := s) (a := a) (n := n) (by omega)
    exact rlittle_loop (bytesF s a n).1 hl (bytesF s a n).2.2.2 [] 0 (bytesF s a n).2.1 (bytesF s a n).2.2.1 _ 0 (Nat.zero_add _)
end Go.AI
