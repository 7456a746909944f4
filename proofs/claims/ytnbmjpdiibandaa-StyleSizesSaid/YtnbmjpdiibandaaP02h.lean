/- Numbers of bytes behind a writer. -/
import Derived.Test.YtnbmjpdiibandaaP02hB
import Derived.Test.YtnbmjpdiibandaaP02cL
set_option linter.unusedVariables false
set_option linter.unusedSimpArgs false
set_option maxRecDepth 100000
namespace Go.AI
open Go Go.Proofs

def littleB (v : Nat) : Nat → List UInt8
  | 0 => []
  | n + 1 => littleB v n ++ [UInt8.ofNat (v / 256 ^ n % 256)]
theorem littleB_length (v : Nat) : ∀ n, (littleB v n).length = n
  | 0 => rfl
  | n + 1 => by simp [littleB, littleB_length v n]
theorem byte_shr {v i : Nat} (hv : v < 9223372036854775808) (hi : i ≤ 7) : IntKind.wrap .u8 (shr .i64 (v : Int) ((8 * i : Nat) : Int)) = (((UInt8.ofNat (v / 256 ^ i % 256)).toNat : Nat) : Int) := by
  rw [shrN (by show 8 * i ≤ 64; omega), wrapU8, byte_nat _ (Nat.mod_lt _ (by decide)), show 2 ^ (8 * i) = 256 ^ i by rw [Nat.pow_mul]]
  omega
theorem putLittle_loop {v n : Nat} (hv : v < 9223372036854775808) (hn : n ≤ 4) {s : List UInt8} (hs : s.length ≤ 500000000) (f : Int) (o1 : List UInt8) (o2 : Int) : ∀ j i, i + j = n →
    Ans (fun k => run k f_bits_PutLittle [] at_bits_PutLittle_L0 (S_bits_PutLittle_L0 v n i (ofBytes (littleB v i ++ List.replicate j 0)) s f o1 o2)) ([.s (s ++ littleB v n), .i 0, .i 0], [])
  | 0, i, h => by
    obtain rfl : i = n := h
    refine Ans.succ (fun k => u_bits_PutLittle_L0 k ..) ?_
    rw [toBytes_of]
    simp only [List.replicate_zero, List.append_nil]
    exact .no (by simp) (.bind (putBytes_ans (by rw [littleB_length]; omega) f) (.pure _))
  | j + 1, i, h => by
    refine Ans.succ (fun k => u_bits_PutLittle_L0 k ..) ?_
    have e1 : IntKind.wrap .i64 (8 * (i : Int)) = ((8 * i : Nat) : Int) := by rw [wrap64 (by omega) (by omega)]; rfl
    have e2 : IntKind.wrap .i64 ((i : Int) + 1) = ((i + 1 : Nat) : Int) := by rw [wrap64 (by omega) (by omega)]; rfl
    have hl : (littleB v i ++ List.replicate (j + 1) (0 : UInt8)).length = n := by simp [littleB_length]; omega
    have hg : elemAt (ofBytes (littleB v i ++ List.replicate (j + 1) 0)) (i : Int) = [.i ((0 : Nat) : Int)] := by
      rw [elemAt_nat, ofBytes_get (by omega)]
      simp [List.getD, littleB_length]
    have hi : inB (i : Int) (ofBytes (littleB v i ++ List.replicate (j + 1) 0)).length = true := by rw [ofBytes_length, hl]; unfold inB; simp; omega
    have hset : (ofBytes (littleB v i ++ List.replicate (j + 1) 0)).set i [.i (((UInt8.ofNat (v / 256 ^ i % 256)).toNat : Nat) : Int)] = ofBytes (littleB v (i + 1) ++ List.replicate j 0) := by
      rw [ofBytes_set]
      congr 1
      rw [List.set_append_right _ _ (by rw [littleB_length]; omega), littleB_length, Nat.sub_self]
      simp [littleB, List.replicate_succ]
    rw [e1, e2, byte_shr hv (by omega), hg, Int.toNat_natCast]
    refine .yes (by simp; omega) (.yes (by simp; omega) (.yes hi (.yes hi ?_)))
    rw [show putAt [PV.i ((0 : Nat) : Int)] 0 [PV.i (((UInt8.ofNat (v / 256 ^ i % 256)).toNat : Nat) : Int)] = [PV.i (((UInt8.ofNat (v / 256 ^ i % 256)).toNat : Nat) : Int)] from rfl, hset]
    exact putLittle_loop hv hn hs f o1 o2 j (i + 1) (by omega)

def putLittleF (s : List UInt8) (v n : Int) : List UInt8 × Int × Int :=
  if n < 1 ∨ n > 4 ∨ v < 0 ∨ v ≥ 2 ^ (8 * n.toNat) then ([], 0, 1) else (s ++ littleB v.toNat n.toNat, 0, 0)
theorem shr_zero' {v n : Nat} (hn : n ≤ 62) : (shr .i64 (v : Int) (n : Int) != 0) = decide (v ≥ 2 ^ n) := by
  rw [shrN (by show n ≤ 64; omega)]
  have hpos : 0 < 2 ^ n := Nat.pow_pos (by decide)
  by_cases h : v ≥ 2 ^ n
  · have : 0 < v / 2 ^ n := Nat.div_pos h hpos
    rw [decide_eq_true h]
    simp only [bne_iff_ne, ne_eq]
    omega
  · have : v / 2 ^ n = 0 := Nat.div_eq_of_lt (by omega)
    rw [decide_eq_false h, this]; rfl
theorem putLittle_ans {s : List UInt8} (hs : s.length ≤ 500000000) (f : Int) (v n : Int) (hv : v ≤ 9223372036854775807) : Ans (fun k => call k f_bits_PutLittle [.s s, .i f, .i v, .i n] []) (encW (putLittleF s v n)) := by
  refine Ans.succ (fun k => u_bits_PutLittle k s f v n) ?_
  by_cases hg : n < 1 ∨ n > 4 ∨ v < 0
  · refine .bind (x := [.b true]) ?_ (.yes rfl (.pure' ?_))
    · refine .ite (fun h => .pure _) (fun h => .ite (fun h2 => .pure _) (fun h2 => .ite (fun h3 => .pure _) (fun h3 => ?_)))
      simp only [decide_eq_false_iff_not] at h h2 h3
      omega
    · unfold putLittleF
      rw [if_pos (by rcases hg with h | h | h <;> simp [h])]; rfl
  · simp only [not_or] at hg
    obtain ⟨g1, g2, g3⟩ := hg
    obtain ⟨n, rfl⟩ := Int.eq_ofNat_of_zero_le (by omega : 0 ≤ n)
    obtain ⟨v, rfl⟩ := Int.eq_ofNat_of_zero_le (by omega : 0 ≤ v)
    have e1 : IntKind.wrap .i64 (8 * (n : Int)) = ((8 * n : Nat) : Int) := by rw [wrap64 (by omega) (by omega)]; rfl
    rw [e1]
    refine .bind (x := [.b (decide (v ≥ 2 ^ (8 * n)))]) (.no (by simp; omega) (.no (by simp; omega) (.no (by simp) (.yes (by simp; omega) (.pure' (by rw [shr_zero' (by omega)])))))) ?_
    simp only [List.getD_cons_zero, PV.toB]
    unfold putLittleF
    refine .ite (fun h => .pure' ?_) (fun h => ?_)
    · have h : v ≥ 2 ^ (8 * n) := by simpa using h
      rw [if_pos (.inr (.inr (.inr (by rw [Int.toNat_natCast]; exact_mod_cast h))))]; rfl
    · have h : ¬ v ≥ 2 ^ (8 * n) := by simpa using h
      rw [if_neg (by
        rintro (h | h | h | h)
        · omega
        · omega
        · omega
        · rw [Int.toNat_natCast] at h
          have h' : (2 : Int) ^ (8 * n) ≤ (v : Int) := h
          exact absurd (by exact_mod_cast h') ‹¬ v ≥ 2 ^ (8 * n)›)]
      rw [Int.toNat_natCast, Int.toNat_natCast]
      have er : List.replicate n [PV.i 0] = ofBytes (littleB v 0 ++ List.replicate n 0) := by simp [littleB, ofBytes]
      rw [List.length_replicate, er]
      refine .yes (by simp; omega) ?_
      exact putLittle_loop (by omega) (by omega) hs f [] 0 n 0 (by omega)

def rputLittleF (s : List UInt8) (v n : Int) : Res := let r := putLittleF s v n; ([.s r.1, .i r.2.1, .b (decide (r.2.2 = 0))], [])
end Go.AI
