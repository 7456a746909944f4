/- Lengths of numbers in bits, and widths. -/
import Derived.Test.YtnbmjpdiibandaaP02c
set_option linter.unusedVariables false
set_option linter.unusedSimpArgs false
set_option maxRecDepth 100000
namespace Go.AI
open Go Go.Proofs

/-- how many bits a number has -/
def blen (n : Nat) : Nat := if n = 0 then 0 else Nat.log2 n + 1
theorem blen_le {n k : Nat} : blen n ≤ k ↔ n < 2 ^ k := by
  unfold blen
  by_cases h : n = 0
  · subst h; simp; exact Nat.pow_pos (by decide)
  · rw [if_neg h, Nat.succ_le_iff, Nat.log2_lt h]
theorem blen_shift {n s : Nat} (h : 2 ^ s ≤ n) : blen n = s + blen (n / 2 ^ s) := by
  have h1 : ¬ blen n ≤ s := fun e => by have := blen_le.1 e; omega
  apply Nat.le_antisymm
  · rw [blen_le, Nat.pow_add]
    have : n / 2 ^ s < 2 ^ blen (n / 2 ^ s) := blen_le.1 (Nat.le_refl _)
    rw [Nat.mul_comm]
    exact (Nat.div_lt_iff_lt_mul (Nat.pow_pos (by decide))).1 this
  · have : blen (n / 2 ^ s) ≤ blen n - s := by
      rw [blen_le, Nat.div_lt_iff_lt_mul (Nat.pow_pos (by decide)), ← Nat.pow_add]
      rw [show blen n - s + s = blen n by omega]
      exact blen_le.1 (Nat.le_refl _)
    omega
def lenTab : List UInt8 := [0, 1, 2, 2, 3, 3, 3, 3, 4, 4, 4, 4, 4, 4, 4, 4, 5, 5, 5, 5, 5, 5, 5, 5, 5, 5, 5, 5, 5, 5, 5, 5, 6, 6, 6, 6, 6, 6, 6, 6, 6, 6, 6, 6, 6, 6, 6, 6, 6, 6, 6, 6, 6, 6, 6, 6, 6, 6, 6, 6, 6, 6, 6, 6, 7, 7, 7, 7, 7, 7, 7, 7, 7, 7, 7, 7, 7, 7, 7, 7, 7, 7, 7, 7, 7, 7, 7, 7, 7, 7, 7, 7, 7, 7, 7, 7, 7, 7, 7, 7, 7, 7, 7, 7, 7, 7, 7, 7, 7, 7, 7, 7, 7, 7, 7, 7, 7, 7, 7, 7, 7, 7, 7, 7, 7, 7, 7, 7, 8, 8, 8, 8, 8, 8, 8, 8, 8, 8, 8, 8, 8, 8, 8, 8, 8, 8, 8, 8, 8, 8, 8, 8, 8, 8, 8, 8, 8, 8, 8, 8, 8, 8, 8, 8, 8, 8, 8, 8, 8, 8, 8, 8, 8, 8, 8, 8, 8, 8, 8, 8, 8, 8, 8, 8, 8, 8, 8, 8, 8, 8, 8, 8, 8, 8, 8, 8, 8, 8, 8, 8, 8, 8, 8, 8, 8, 8, 8, 8, 8, 8, 8, 8, 8, 8, 8, 8, 8, 8, 8, 8, 8, 8, 8, 8, 8, 8, 8, 8, 8, 8, 8, 8, 8, 8, 8, 8, 8, 8, 8, 8, 8, 8, 8, 8, 8, 8, 8, 8, 8, 8, 8, 8, 8, 8, 8, 8]
theorem lenTab_ok : ∀ i : Fin 256, (lenTab.getD i.1 0).toNat = blen i.1 := by decide +kernel
theorem blen_small {i : Nat} (h : i < 256) : blen i ≤ 8 := blen_le.2 h
theorem len_leaf {a x s : Nat} (hx : x < 256) (h : blen a = s + blen x) (hs : s ≤ 56) :
    Ans (fun _ => bif inB (IntKind.wrap .u8 (x : Int)) 256 then some ([PV.i (IntKind.wrap .i64 ((s : Int) + IntKind.wrap .i64 (bt lenTab (IntKind.wrap .u8 (x : Int)))))], ([] : List BX)) else none) ([.i ((blen a : Nat) : Int)], []) := by
  rw [wrapU8' (by omega) (by omega)]
  refine .yes (by unfold inB; simp; omega) (.pure' ?_)
  have e : bt lenTab (x : Int) = ((blen x : Nat) : Int) := by
    unfold bt
    rw [Int.toNat_natCast]
    have := lenTab_ok ⟨x, hx⟩
    simp only at this
    rw [this]
  have := blen_small hx
  rw [e, wrap64 (n := ((blen x : Nat) : Int)) (by omega) (by omega), wrap64 (by omega) (by omega), h]
  rfl
theorem len64_ans (a : Nat) (ha : a < 18446744073709551616) : Ans (fun k => call k f_math_bits_Len64 [.i (a : Int)] []) ([.i ((blen a : Nat) : Int)], []) := by
  refine Ans.succ (fun k => u_math_bits_Len64 k a) ?_
  have s8 : ∀ x : Nat, shr .u64 (x : Int) 8 = ((x / 256 : Nat) : Int) := fun x => shrN (k := .u64) (x := x) (y := 8) (by decide)
  have s16 : ∀ x : Nat, shr .u64 (x : Int) 16 = ((x / 65536 : Nat) : Int) := fun x => shrN (k := .u64) (x := x) (y := 16) (by decide)
  have s32 : ∀ x : Nat, shr .u64 (x : Int) 32 = ((x / 4294967296 : Nat) : Int) := fun x => shrN (k := .u64) (x := x) (y := 32) (by decide)
  rw [s32, s16, s16, s8, s8, s8, s8]
  have b8 : ∀ {x : Nat}, 256 ≤ x → blen x = 8 + blen (x / 256) := fun h => blen_shift (s := 8) h
  have b16 : ∀ {x : Nat}, 65536 ≤ x → blen x = 16 + blen (x / 65536) := fun h => blen_shift (s := 16) h
  have b32 : ∀ {x : Nat}, 4294967296 ≤ x → blen x = 32 + blen (x / 4294967296) := fun h => blen_shift (s := 32) h
  refine .ite (fun h => .ite (fun h2 => .ite (fun h3 => ?_) (fun h3 => ?_)) (fun h2 => .ite (fun h3 => ?_) (fun h3 => ?_))) (fun h => .ite (fun h2 => .ite (fun h3 => ?_) (fun h3 => ?_)) (fun h2 => .ite (fun h3 => ?_) (fun h3 => ?_))) <;>
    simp only [decide_eq_true_eq, decide_eq_false_iff_not] at h h2 h3
  · exact len_leaf (s := 56) (by omega) (by rw [b32 (by omega), b16 (x := a / 4294967296) (by omega), b8 (x := a / 4294967296 / 65536) (by omega)]; omega) (by omega)
  · exact len_leaf (s := 48) (by omega) (by rw [b32 (by omega), b16 (x := a / 4294967296) (by omega)]; omega) (by omega)
  · exact len_leaf (s := 40) (by omega) (by rw [b32 (by omega), b8 (x := a / 4294967296) (by omega)]; omega) (by omega)
  · exact len_leaf (s := 32) (by omega) (by rw [b32 (by omega)]) (by omega)
  · exact len_leaf (s := 24) (by omega) (by rw [b16 (by omega), b8 (x := a / 65536) (by omega)]; omega) (by omega)
  · exact len_leaf (s := 16) (by omega) (by rw [b16 (by omega)]) (by omega)
  · exact len_leaf (s := 8) (by omega) (by rw [b8 (by omega)]) (by omega)
  · exact len_leaf (s := 0) (by omega) (by rw [Nat.zero_add]) (by omega)
theorem len_ans (a : Nat) (ha : a < 18446744073709551616) : Ans (fun k => call k f_math_bits_Len [.i (a : Int)] []) ([.i ((blen a : Nat) : Int)], []) :=
  Ans.succ (fun k => u_math_bits_Len k a) (.bind (len64_ans a ha) (.pure _))

/-- how many bits a number wants, with its sign -/
def widthN (v : Int) : Nat := if v < 0 then blen (-v - 1).toNat + 1 else if v = 0 then 0 else blen v.toNat + 1
theorem widthN_le {v : Int} {n : Nat} (hv : v ≠ 0) (hn : 0 < n) : widthN v ≤ n ↔ -(2 ^ (n - 1) : Nat) ≤ v ∧ v < (2 ^ (n - 1) : Nat) := by
  obtain ⟨m, rfl⟩ : ∃ m, n = m + 1 := ⟨n - 1, by omega⟩
  rw [Nat.add_sub_cancel]
  unfold widthN
  by_cases h : v < 0
  · rw [if_pos h, Nat.add_le_add_iff_right, blen_le]
    omega
  · rw [if_neg h, if_neg hv, Nat.add_le_add_iff_right, blen_le]
    omega
theorem widthN_zero : widthN 0 = 0 := rfl
theorem widthN_pos {v : Int} (h : v ≠ 0) : 0 < widthN v := by
  unfold widthN
  split <;> omega

theorem not64 {v : Int} (h1 : -9223372036854775808 ≤ v) (h2 : v < 0) : IntKind.wrap .u64 (bitsOp .xor .i64 (-1) v) = -v - 1 := by
  have e : bitsOp .xor .i64 (-1) v = -v - 1 := by
    have e0 : bitsOp .xor .i64 (-1) v = IntKind.wrap .i64 ((BitVec.ofInt 64 (-1) ^^^ BitVec.ofInt 64 v).toNat : Nat) := rfl
    have : (BitVec.ofInt 64 (-1) ^^^ BitVec.ofInt 64 v).toNat = (-v - 1).toNat := by
      rw [show BitVec.ofInt 64 (-1) = BitVec.allOnes 64 from by decide, BitVec.allOnes_xor, BitVec.toNat_not, BitVec.toNat_ofInt]
      omega
    rw [e0, this, wrap64 (by omega) (by omega)]
    omega
  rw [e, wrapU64 (by omega) (by omega)]

/-- the greatest width of numbers -/
def elI (es : List (List PV)) (i : Nat) : Int := (((es.getD i []).getD 0 .u)).toI
def widthL (es : List (List PV)) : Nat → Nat
  | 0 => 0
  | i + 1 => max (widthL es i) (widthN (elI es i))
def I64 (v : Int) : Prop := -9223372036854775808 ≤ v ∧ v ≤ 9223372036854775807
theorem elemAt_nat (es : List (List PV)) (i : Nat) : elemAt es (i : Int) = es.getD i [] := by unfold elemAt; rw [Int.toNat_natCast]
theorem blen64 {a : Nat} (h : a < 18446744073709551616) : blen a ≤ 64 := blen_le.2 h
theorem width_loop {es : List (List PV)} (hes : es.length ≤ 9223372036854775806) (he : ∀ i, i < es.length → I64 (elI es i)) : ∀ j i, i + j = es.length → widthL es i ≤ 65 →
    Ans (fun k => run k f_bits_Width [] at_bits_Width_L0 (S_bits_Width_L0 (widthL es i) es es.length i)) ([.i ((widthL es es.length : Nat) : Int)], [])
  | 0, i, h, _ => by
    obtain rfl : i = es.length := h
    refine Ans.succ (fun k => u_bits_Width_L0 k ..) ?_
    exact .no (by simp) (.pure _)
  | j + 1, i, h, hw => by
    refine Ans.succ (fun k => u_bits_Width_L0 k ..) ?_
    have hi := he i (by omega)
    have e2 : IntKind.wrap .i64 ((i : Int) + 1) = ((i + 1 : Nat) : Int) := by rw [wrap64 (by omega) (by omega)]; rfl
    have ev : ((es.getD i []).getD 0 .u).toI = elI es i := rfl
    rw [e2, elemAt_nat, ev]
    obtain ⟨v, hv⟩ : ∃ v, v = elI es i := ⟨_, rfl⟩
    rw [← hv] at hi ⊢
    refine .yes (by simp; omega) (.yes (by unfold inB; simp; omega) (.ite (fun hn => ?_) (fun hn => ?_)))
    · simp only [decide_eq_true_eq] at hn
      rw [not64 hi.1 hn]
      have hlt : (-v - 1).toNat < 18446744073709551616 := by have := hi.1; omega
      have hl := len_ans (-v - 1).toNat hlt
      rw [show (((-v - 1).toNat : Nat) : Int) = -v - 1 by omega] at hl
      refine .bind hl ?_
      have hb := blen64 hlt
      simp only [List.getD_cons_zero, PV.toI]
      rw [wrap64 (by omega) (by omega)]
      have e : (bif decide (((blen (-v - 1).toNat : Nat) : Int) + 1 > ((widthL es i : Nat) : Int)) then ((blen (-v - 1).toNat : Nat) : Int) + 1 else ((widthL es i : Nat) : Int)) = ((widthL es (i + 1) : Nat) : Int) := by
        simp only [widthL, ← hv]
        have : widthN v = blen (-v - 1).toNat + 1 := by unfold widthN; rw [if_pos hn]
        rw [this]
        by_cases hc : ((blen (-v - 1).toNat : Nat) : Int) + 1 > ((widthL es i : Nat) : Int)
        · rw [decide_eq_true hc, cond_true]; omega
        · rw [decide_eq_false hc, cond_false]; omega
      rw [e]
      exact width_loop hes he j (i + 1) (by omega) (by simp only [widthL, ← hv]; have : widthN v = blen (-v - 1).toNat + 1 := (by unfold widthN; rw [if_pos hn]); omega)
    · simp only [decide_eq_false_iff_not] at hn
      refine .ite (fun h0 => ?_) (fun h0 => ?_)
      · have h0 : v = 0 := by simpa using h0
        have e : widthL es (i + 1) = widthL es i := by simp only [widthL, ← hv, h0, widthN_zero]; omega
        have := width_loop hes he j (i + 1) (by omega) (by rw [e]; exact hw)
        rw [e] at this
        exact this
      · have h0 : v ≠ 0 := by simpa using h0
        rw [wrapU64 (by omega) (by have := hi.2; omega)]
        have hlt : v.toNat < 18446744073709551616 := by have := hi.2; omega
        have hl := len_ans v.toNat hlt
        rw [show ((v.toNat : Nat) : Int) = v by omega] at hl
        refine .bind hl ?_
        have hb := blen64 hlt
        simp only [List.getD_cons_zero, PV.toI]
        rw [wrap64 (by omega) (by omega)]
        have hwv : widthN v = blen v.toNat + 1 := by unfold widthN; rw [if_neg hn, if_neg h0]
        have e : (bif decide (((blen v.toNat : Nat) : Int) + 1 > ((widthL es i : Nat) : Int)) then ((blen v.toNat : Nat) : Int) + 1 else ((widthL es i : Nat) : Int)) = ((widthL es (i + 1) : Nat) : Int) := by
          simp only [widthL, ← hv]
          rw [hwv]
          by_cases hc : ((blen v.toNat : Nat) : Int) + 1 > ((widthL es i : Nat) : Int)
          · rw [decide_eq_true hc, cond_true]; omega
          · rw [decide_eq_false hc, cond_false]; omega
        rw [e]
        exact width_loop hes he j (i + 1) (by omega) (by simp only [widthL, ← hv, hwv]; omega)
theorem width_ans {es : List (List PV)} (hes : es.length ≤ 9223372036854775806) (he : ∀ i, i < es.length → I64 (elI es i)) : Ans (fun k => call k f_bits_Width [.l es] []) ([.i ((widthL es es.length : Nat) : Int)], []) :=
  Ans.succ (fun k => u_bits_Width k es) (width_loop hes he es.length 0 (by omega) (by simp [widthL]))

/-- the document's width -/
theorem rwidth_loop {v : Int} (hv : I64 v) : ∀ j n, n + j = widthN v → Ans (fun k => run k f_celluloidref02_Width [] at_celluloidref02_Width_L0 (S_celluloidref02_Width_L0 v n)) ([.i ((widthN v : Nat) : Int)], []) := by
  have hw64 : widthN v ≤ 64 := by
    by_cases h : v = 0
    · subst h; rw [widthN_zero]; omega
    · rw [widthN_le h (by omega)]
      have := hv.1; have := hv.2
      have : ((2 ^ (64 - 1) : Nat) : Int) = 9223372036854775808 := rfl
      omega
  have stop : v ≠ 0 → ∀ n, 0 < n → n < 63 → ((-((2 ^ (n - 1) : Nat) : Int) ≤ v ∧ v < ((2 ^ (n - 1) : Nat) : Int)) ↔ widthN v ≤ n) := fun h n hn _ => (widthN_le h hn).symm
  have stop63 : v ≠ 0 → ((-4611686018427387904 ≤ v ∧ v < 4611686018427387904) ↔ widthN v ≤ 63) := fun h => by
    rw [widthN_le h (by omega)]
    have : ((2 ^ (63 - 1) : Nat) : Int) = 4611686018427387904 := rfl
    rw [this]
  intro j n hj
  induction j generalizing n with
  | zero =>
    obtain rfl : n = widthN v := hj
    refine Ans.succ (fun k => u_celluloidref02_Width_L0 k ..) ?_
    refine .bind (x := [.b false]) ?_ (.no rfl (.pure _))
    refine .ite (fun h => .ite (fun h0 => .ite (fun hn => .ite (fun h63 => ?_) (fun h63 => ?_)) (fun hn => ?_)) (fun h0 => .pure _)) (fun h => .pure _)
    · have h0 : v ≠ 0 := by simpa using h0
      simp only [decide_eq_true_eq] at hn h63
      have st := (stop h0 (widthN v) (by omega) (by omega)).2 (Nat.le_refl _)
      have hp : (2 : Nat) ^ (widthN v - 1) ≤ 2 ^ 61 := Nat.pow_le_pow_right (by decide) (by omega)
      have hp : (2 : Nat) ^ (widthN v - 1) ≤ 2305843009213693952 := hp
      have e1 : IntKind.wrap .i64 (((widthN v : Nat) : Int) - 1) = ((widthN v - 1 : Nat) : Int) := by rw [wrap64 (by omega) (by omega)]; omega
      rw [e1]
      obtain ⟨p, hpe⟩ : ∃ p, p = 2 ^ (widthN v - 1) := ⟨_, rfl⟩
      have pa := power_ans (widthN v - 1) (by omega)
      rw [← hpe] at st hp pa
      refine .bind pa ?_
      simp only [List.getD_cons_zero, PV.toI]
      rw [wrap64 (n := 0 - (p : Int)) (by omega) (by omega)]
      refine .yes (by simp; omega) (.bind pa ?_)
      simp only [List.getD_cons_zero, PV.toI]
      exact .no (by simp; omega) (.pure _)
    · have h0 : v ≠ 0 := by simpa using h0
      simp only [decide_eq_true_eq, decide_eq_false_iff_not] at h hn h63
      have : widthN v = 63 := by omega
      rw [this]
      have st := (stop63 h0).2 (by omega)
      exact .yes (by decide) (.yes (by simp; omega) (.pure' (by simp; omega)))
    · have h0 : v ≠ 0 := by simpa using h0
      simp only [decide_eq_false_iff_not] at hn
      have := widthN_pos h0
      omega
  | succ j ih =>
    refine Ans.succ (fun k => u_celluloidref02_Width_L0 k ..) ?_
    have h0 : v ≠ 0 := by rintro rfl; rw [widthN_zero] at hj; omega
    have e2 : IntKind.wrap .i64 ((n : Int) + 1) = ((n + 1 : Nat) : Int) := by rw [wrap64 (by omega) (by omega)]; rfl
    rw [e2]
    refine .bind (x := [.b true]) ?_ (.yes rfl (ih (n + 1) (by omega)))
    refine .yes (by simp; omega) (.yes (by simpa using h0) (.ite (fun hn => .ite (fun h63 => ?_) (fun h63 => ?_)) (fun hn => ?_)))
    · simp only [decide_eq_true_eq] at hn h63
      have st := stop h0 n (by omega) (by omega)
      have hp : (2 : Nat) ^ (n - 1) ≤ 2 ^ 61 := Nat.pow_le_pow_right (by decide) (by omega)
      have hp : (2 : Nat) ^ (n - 1) ≤ 2305843009213693952 := hp
      have e1 : IntKind.wrap .i64 ((n : Int) - 1) = ((n - 1 : Nat) : Int) := by rw [wrap64 (by omega) (by omega)]; omega
      rw [e1]
      obtain ⟨p, hpe⟩ : ∃ p, p = 2 ^ (n - 1) := ⟨_, rfl⟩
      have pa := power_ans (n - 1) (by omega)
      rw [← hpe] at st hp pa
      refine .bind pa ?_
      simp only [List.getD_cons_zero, PV.toI]
      rw [wrap64 (n := 0 - (p : Int)) (by omega) (by omega)]
      have h63' : ((n : Int) == 63) = false := by simp; omega
      refine .ite (fun hc => .bind pa ?_) (fun hc => .no h63' (.pure _))
      simp only [List.getD_cons_zero, PV.toI]
      refine .ite (fun hd => .no h63' (.pure _)) (fun hd => ?_)
      simp only [decide_eq_true_eq, Bool.not_eq_false', decide_eq_true_eq] at hc hd
      have := st.1 ⟨by omega, hd⟩
      omega
    · simp only [decide_eq_true_eq, decide_eq_false_iff_not] at hn h63
      obtain rfl : n = 63 := by omega
      have st := stop63 h0
      refine .yes (by decide) (.ite (fun hc => .pure' ?_) (fun hc => .pure _))
      simp only [decide_eq_true_eq] at hc
      congr 2
      have : ¬ v < 4611686018427387904 := fun hd => by have := st.1 ⟨by omega, hd⟩; omega
      simp [this]
    · simp only [decide_eq_false_iff_not] at hn
      exact .no (by simp; omega) (.pure _)
theorem rwidth_ans {v : Int} (hv : I64 v) : Ans (fun k => call k f_celluloidref02_Width [.i v] []) ([.i ((widthN v : Nat) : Int)], []) :=
  Ans.succ (fun k => u_celluloidref02_Width k v) (rwidth_loop hv (widthN v) 0 (by omega))
end Go.AI
