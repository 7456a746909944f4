/- What the functions of bits answer. -/
import Derived.Test.YtbaajplajjfgcaaGreatU
import Derived.Test.YtbaajplajjfgcaaGreatAiM
set_option linter.unusedVariables false
set_option linter.unusedSimpArgs false
set_option maxRecDepth 100000
namespace Go.AI
open Go Go.Proofs


def rightB (s : List UInt8) (a : Int) : Bool := decide (0 ≤ a) && decide (a ≤ 8 * (s.length : Int))
/-- the next bits -/
def plainF (s : List UInt8) (a n : Int) : Int × List UInt8 × Int × Int :=
  if rightB s a = false ∨ n < 0 ∨ n > 31 then (0, [], 0, 1) else if a + n > 8 * (s.length : Int) then (0, [], 0, 2) else (fieldN s a.toNat n.toNat, s, a + n, 0)
end Go.AI
set_option linter.unusedVariables false
set_option linter.unusedSimpArgs false
set_option maxRecDepth 100000
namespace Go.AI
open Go Go.Proofs

/-- a field with a sign -/
def signedF (s : List UInt8) (a n : Int) : Int × List UInt8 × Int × Int :=
  let r := plainF s a n
  (if r.2.2.2 = 0 ∧ n > 0 ∧ 2 * r.1 ≥ 2 ^ n.toNat then r.1 - 2 ^ n.toNat else r.1, r.2)
/-! ### the document's -/
/-- to the next whole byte -/
def alignF (s : List UInt8) (a : Int) : Int := if rightB s a = true then (a + 7) / 8 * 8 else a
end Go.AI
set_option linter.unusedVariables false
set_option linter.unusedSimpArgs false
set_option maxRecDepth 100000
namespace Go.AI
open Go Go.Proofs

/-- the next bytes -/
def bytesF (s : List UInt8) (a n : Int) : List UInt8 × List UInt8 × Int × Int :=
  if rightB s a = false ∨ n < 0 then ([], [], 0, 1) else if n > (s.length : Int) - (a + 7) / 8 then ([], [], 0, 2) else ((s.drop ((a + 7) / 8).toNat).take n.toNat, s, 8 * ((a + 7) / 8 + n), 0)
end Go.AI
set_option linter.unusedVariables false
set_option linter.unusedSimpArgs false
set_option maxRecDepth 100000
namespace Go.AI
open Go Go.Proofs

/-- how many bits a number has -/
def blen (n : Nat) : Nat := if n = 0 then 0 else Nat.log2 n + 1
theorem blen_le {n k : Nat} : blen n ≤ k ↔ n < 2 ^ k := by
  unfold blen
  by_cases h : n = 0
  · subst h; simp; exact Nat.pow_pos (by decide)
  · rw [if_neg h, Nat.succ_le_iff, Nat.log2_lt h]
theorem blen_shift {n s : Nat} (h : 2 ^ s ≤ n) : blen n = s + blen (n / 2 ^ s) := by
  have h1 : ¬ blen n ≤ s := fun e => by have := blen_le.1 e; omega
  apply Nat.le_antisymm
  · rw [blen_le, Nat.pow_add]
    have : n / 2 ^ s < 2 ^ blen (n / 2 ^ s) := blen_le.1 (Nat.le_refl _)
    rw [Nat.mul_comm]
    exact (Nat.div_lt_iff_lt_mul (Nat.pow_pos (by decide))).1 this
  · have : blen (n / 2 ^ s) ≤ blen n - s := by
      rw [blen_le, Nat.div_lt_iff_lt_mul (Nat.pow_pos (by decide)), ← Nat.pow_add]
      rw [show blen n - s + s = blen n by omega]
      exact blen_le.1 (Nat.le_refl _)
    omega
def lenTab : List UInt8 := [0, 1, 2, 2, 3, 3, 3, 3, 4, 4, 4, 4, 4, 4, 4, 4, 5, 5, 5, 5, 5, 5, 5, 5, 5, 5, 5, 5, 5, 5, 5, 5, 6, 6, 6, 6, 6, 6, 6, 6, 6, 6, 6, 6, 6, 6, 6, 6, 6, 6, 6, 6, 6, 6, 6, 6, 6, 6, 6, 6, 6, 6, 6, 6, 7, 7, 7, 7, 7, 7, 7, 7, 7, 7, 7, 7, 7, 7, 7, 7, 7, 7, 7, 7, 7, 7, 7, 7, 7, 7, 7, 7, 7, 7, 7, 7, 7, 7, 7, 7, 7, 7, 7, 7, 7, 7, 7, 7, 7, 7, 7, 7, 7, 7, 7, 7, 7, 7, 7, 7, 7, 7, 7, 7, 7, 7, 7, 7, 8, 8, 8, 8, 8, 8, 8, 8, 8, 8, 8, 8, 8, 8, 8, 8, 8, 8, 8, 8, 8, 8, 8, 8, 8, 8, 8, 8, 8, 8, 8, 8, 8, 8, 8, 8, 8, 8, 8, 8, 8, 8, 8, 8, 8, 8, 8, 8, 8, 8, 8, 8, 8, 8, 8, 8, 8, 8, 8, 8, 8, 8, 8, 8, 8, 8, 8, 8, 8, 8, 8, 8, 8, 8, 8, 8, 8, 8, 8, 8, 8, 8, 8, 8, 8, 8, 8, 8, 8, 8, 8, 8, 8, 8, 8, 8, 8, 8, 8, 8, 8, 8, 8, 8, 8, 8, 8, 8, 8, 8, 8, 8, 8, 8, 8, 8, 8, 8, 8, 8, 8, 8, 8, 8, 8, 8, 8, 8]
theorem lenTab_ok : ∀ i : Fin 256, (lenTab.getD i.1 0).toNat = blen i.1 := by decide +kernel
theorem blen_small {i : Nat} (h : i < 256) : blen i ≤ 8 := blen_le.2 h
theorem len_leaf {a x s : Nat} (hx : x < 256) (h : blen a = s + blen x) (hs : s ≤ 56) :
    Ans (fun _ => bif inB (IntKind.wrap .u8 (x : Int)) 256 then some ([PV.i (IntKind.wrap .i64 ((s : Int) + IntKind.wrap .i64 (bt lenTab (IntKind.wrap .u8 (x : Int)))))], ([] : List BX)) else none) ([.i ((blen a : Nat) : Int)], []) := by
  rw [wrapU8' (by omega) (by omega)]
  refine .yes (by unfold inB; simp; omega) (.pure' ?_)
  have e : bt lenTab (x : Int) = ((blen x : Nat) : Int) := by
    unfold bt
    rw [Int.toNat_natCast]
    have := lenTab_ok ⟨x, hx⟩
    simp only at this
    rw [this]
  have := blen_small hx
  rw [e, wrap64 (n := ((blen x : Nat) : Int)) (by omega) (by omega), wrap64 (by omega) (by omega), h]
  rfl
theorem len64_ans (a : Nat) (ha : a < 18446744073709551616) : Ans (fun k => call k f_math_bits_Len64 [.i (a : Int)] []) ([.i ((blen a : Nat) : Int)], []) := by
  refine Ans.succ (fun k => u_math_bits_Len64 k a) ?_
  have s8 : ∀ x : Nat, shr .u64 (x : Int) 8 = ((x / 256 : Nat) : Int) := fun x => shrN (k := .u64) (x := x) (y := 8) (by decide)
  have s16 : ∀ x : Nat, shr .u64 (x : Int) 16 = ((x / 65536 : Nat) : Int) := fun x => shrN (k := .u64) (x := x) (y := 16) (by decide)
  have s32 : ∀ x : Nat, shr .u64 (x : Int) 32 = ((x / 4294967296 : Nat) : Int) := fun x => shrN (k := .u64) (x := x) (y := 32) (by decide)
  rw [s32, s16, s16, s8, s8, s8, s8]
  have b8 : ∀ {x : Nat}, 256 ≤ x → blen x = 8 + blen (x / 256) := fun h => blen_shift (s := 8) h
  have b16 : ∀ {x : Nat}, 65536 ≤ x → blen x = 16 + blen (x / 65536) := fun h => blen_shift (s := 16) h
  have b32 : ∀ {x : Nat}, 4294967296 ≤ x → blen x = 32 + blen (x / 4294967296) := fun h => blen_shift (s := 32) h
  refine .ite (fun h => .ite (fun h2 => .ite (fun h3 => ?_) (fun h3 => ?_)) (fun h2 => .ite (fun h3 => ?_) (fun h3 => ?_))) (fun h => .ite (fun h2 => .ite (fun h3 => ?_) (fun h3 => ?_)) (fun h2 => .ite (fun h3 => ?_) (fun h3 => ?_))) <;>
    simp only [decide_eq_true_eq, decide_eq_false_iff_not] at h h2 h3
  · exact len_leaf (s := 56) (by omega) (by rw [b32 (by omega), b16 (x := a / 4294967296) (by omega), b8 (x := a / 4294967296 / 65536) (by omega)]; omega) (by omega)
  · exact len_leaf (s := 48) (by omega) (by rw [b32 (by omega), b16 (x := a / 4294967296) (by omega)]; omega) (by omega)
  · exact len_leaf (s := 40) (by omega) (by rw [b32 (by omega), b8 (x := a / 4294967296) (by omega)]; omega) (by omega)
  · exact len_leaf (s := 32) (by omega) (by rw [b32 (by omega)]) (by omega)
  · exact len_leaf (s := 24) (by omega) (by rw [b16 (by omega), b8 (x := a / 65536) (by omega)]; omega) (by omega)
  · exact len_leaf (s := 16) (by omega) (by rw [b16 (by omega)]) (by omega)
  · exact len_leaf (s := 8) (by omega) (by rw [b8 (by omega)]) (by omega)
  · exact len_leaf (s := 0) (by omega) (by rw [Nat.zero_add]) (by omega)
theorem len_ans (a : Nat) (ha : a < 18446744073709551616) : Ans (fun k => call k f_math_bits_Len [.i (a : Int)] []) ([.i ((blen a : Nat) : Int)], []) :=
  Ans.succ (fun k => u_math_bits_Len k a) (.bind (len64_ans a ha) (.pure _))

/-- how many bits a number wants, with its sign -/
def widthN (v : Int) : Nat := if v < 0 then blen (-v - 1).toNat + 1 else if v = 0 then 0 else blen v.toNat + 1
theorem widthN_le {v : Int} {n : Nat} (hv : v ≠ 0) (hn : 0 < n) : widthN v ≤ n ↔ -(2 ^ (n - 1) : Nat) ≤ v ∧ v < (2 ^ (n - 1) : Nat) := by
  obtain ⟨m, rfl⟩ : ∃ m, n = m + 1 := ⟨n - 1, by omega⟩
  rw [Nat.add_sub_cancel]
  unfold widthN
  by_cases h : v < 0
  · rw [if_pos h, Nat.add_le_add_iff_right, blen_le]
    omega
  · rw [if_neg h, if_neg hv, Nat.add_le_add_iff_right, blen_le]
    omega
theorem widthN_zero : widthN 0 = 0 := rfl
theorem widthN_pos {v : Int} (h : v ≠ 0) : 0 < widthN v := by
  unfold widthN
  split <;> omega

theorem not64 {v : Int} (h1 : -9223372036854775808 ≤ v) (h2 : v < 0) : IntKind.wrap .u64 (bitsOp .xor .i64 (-1) v) = -v - 1 := by
  have e : bitsOp .xor .i64 (-1) v = -v - 1 := by
    have e0 : bitsOp .xor .i64 (-1) v = IntKind.wrap .i64 ((BitVec.ofInt 64 (-1) ^^^ BitVec.ofInt 64 v).toNat : Nat) := rfl
    have : (BitVec.ofInt 64 (-1) ^^^ BitVec.ofInt 64 v).toNat = (-v - 1).toNat := by
      rw [show BitVec.ofInt 64 (-1) = BitVec.allOnes 64 from by decide, BitVec.allOnes_xor, BitVec.toNat_not, BitVec.toNat_ofInt]
      omega
    rw [e0, this, wrap64 (by omega) (by omega)]
    omega
  rw [e, wrapU64 (by omega) (by omega)]

/-- the greatest width of numbers -/
def elI (es : List (List PV)) (i : Nat) : Int := (((es.getD i []).getD 0 .u)).toI
def widthL (es : List (List PV)) : Nat → Nat
  | 0 => 0
  | i + 1 => max (widthL es i) (widthN (elI es i))
def I64 (v : Int) : Prop := -9223372036854775808 ≤ v ∧ v ≤ 9223372036854775807
theorem elemAt_nat (es : List (List PV)) (i : Nat) : elemAt es (i : Int) = es.getD i [] := by unfold elemAt; rw [Int.toNat_natCast]
theorem blen64 {a : Nat} (h : a < 18446744073709551616) : blen a ≤ 64 := blen_le.2 h
theorem width_loop {es : List (List PV)} (hes : es.length ≤ 9223372036854775806) (he : ∀ i, i < es.length → I64 (elI es i)) : ∀ j i, i + j = es.length → widthL es i ≤ 65 →
    Ans (fun k => run k f_bits_Width [] at_bits_Width_L0 (S_bits_Width_L0 (widthL es i) es es.length i)) ([.i ((widthL es es.length : Nat) : Int)], [])
  | 0, i, h, _ => by
    obtain rfl : i = es.length := h
    refine Ans.succ (fun k => u_bits_Width_L0 k ..) ?_
    exact .no (by simp) (.pure _)
  | j + 1, i, h, hw => by
    refine Ans.succ (fun k => u_bits_Width_L0 k ..) ?_
    have hi := he i (by omega)
    have e2 : IntKind.wrap .i64 ((i : Int) + 1) = ((i + 1 : Nat) : Int) := by rw [wrap64 (by omega) (by omega)]; rfl
    have ev : ((es.getD i []).getD 0 .u).toI = elI es i := rfl
    rw [e2, elemAt_nat, ev]
    obtain ⟨v, hv⟩ : ∃ v, v = elI es i := ⟨_, rfl⟩
    rw [← hv] at hi ⊢
    refine .yes (by simp; omega) (.yes (by unfold inB; simp; omega) (.ite (fun hn => ?_) (fun hn => ?_)))
    · simp only [decide_eq_true_eq] at hn
      rw [not64 hi.1 hn]
      have hlt : (-v - 1).toNat < 18446744073709551616 := by have := hi.1; omega
      have hl := len_ans (-v - 1).toNat hlt
      rw [show (((-v - 1).toNat : Nat) : Int) = -v - 1 by omega] at hl
      refine .bind hl ?_
      have hb := blen64 hlt
      simp only [List.getD_cons_zero, PV.toI]
      rw [wrap64 (by omega) (by omega)]
      have e : (bif decide (((blen (-v - 1).toNat : Nat) : Int) + 1 > ((widthL es i : Nat) : Int)) then ((blen (-v - 1).toNat : Nat) : Int) + 1 else ((widthL es i : Nat) : Int)) = ((widthL es (i + 1) : Nat) : Int) := by
        simp only [widthL, ← hv]
        have : widthN v = blen (-v - 1).toNat + 1 := by unfold widthN; rw [if_pos hn]
        rw [this]
        by_cases hc : ((blen (-v - 1).toNat : Nat) : Int) + 1 > ((widthL es i : Nat) : Int)
        · rw [decide_eq_true hc, cond_true]; omega
        · rw [decide_eq_false hc, cond_false]; omega
      rw [e]
      exact width_loop hes he j (i + 1) (by omega) (by simp only [widthL, ← hv]; have : widthN v = blen (-v - 1).toNat + 1 := (by unfold widthN; rw [if_pos hn]); omega)
    · simp only [decide_eq_false_iff_not] at hn
      refine .ite (fun h0 => ?_) (fun h0 => ?_)
      · have h0 : v = 0 := by simpa using h0
        have e : widthL es (i + 1) = widthL es i := by simp only [widthL, ← hv, h0, widthN_zero]; omega
        have := width_loop hes he j (i + 1) (by omega) (by rw [e]; exact hw)
        rw [e] at this
        exact this
      · have h0 : v ≠ 0 := by simpa using h0
        rw [wrapU64 (by omega) (by have := hi.2; omega)]
        have hlt : v.toNat < 18446744073709551616 := by have := hi.2; omega
        have hl := len_ans v.toNat hlt
        rw [show ((v.toNat : Nat) : Int) = v by omega] at hl
        refine .bind hl ?_
        have hb := blen64 hlt
        simp only [List.getD_cons_zero, PV.toI]
        rw [wrap64 (by omega) (by omega)]
        have hwv : widthN v = blen v.toNat + 1 := by unfold widthN; rw [if_neg hn, if_neg h0]
        have e : (bif decide (((blen v.toNat : Nat) : Int) + 1 > ((widthL es i : Nat) : Int)) then ((blen v.toNat : Nat) : Int) + 1 else ((widthL es i : Nat) : Int)) = ((widthL es (i + 1) : Nat) : Int) := by
          simp only [widthL, ← hv]
          rw [hwv]
          by_cases hc : ((blen v.toNat : Nat) : Int) + 1 > ((widthL es i : Nat) : Int)
          · rw [decide_eq_true hc, cond_true]; omega
          · rw [decide_eq_false hc, cond_false]; omega
        rw [e]
        exact width_loop hes he j (i + 1) (by omega) (by simp only [widthL, ← hv, hwv]; omega)
theorem width_ans {es : List (List PV)} (hes : es.length ≤ 9223372036854775806) (he : ∀ i, i < es.length → I64 (elI es i)) : Ans (fun k => call k f_bits_Width [.l es] []) ([.i ((widthL es es.length : Nat) : Int)], []) :=
  Ans.succ (fun k => u_bits_Width k es) (width_loop hes he es.length 0 (by omega) (by simp [widthL]))

end Go.AI
set_option linter.unusedVariables false
set_option linter.unusedSimpArgs false
set_option maxRecDepth 100000
namespace Go.AI
open Go Go.Proofs

/-! ### bytes as elements -/
theorem ofBytes_length (s : List UInt8) : (ofBytes s).length = s.length := by simp [ofBytes]
theorem ofBytes_get {s : List UInt8} {i : Nat} (h : i < s.length) : (ofBytes s).getD i [] = [.i (((s.getD i 0).toNat : Nat) : Int)] := by
  simp [ofBytes, List.getD, h]
theorem toBytes_of (s : List UInt8) : toBytes (ofBytes s) = s := by
  unfold toBytes ofBytes
  rw [List.map_map]
  have : ∀ b : UInt8, ((fun e : List PV => UInt8.ofNat (e.getD 0 .u).toI.toNat) ∘ fun b : UInt8 => [PV.i b.toNat]) b = b := fun b => by
    simp [PV.toI]
  rw [List.map_congr_left (g := id) (fun b _ => this b), List.map_id]
theorem ofBytes_append (s t : List UInt8) : ofBytes (s ++ t) = ofBytes s ++ ofBytes t := by simp [ofBytes]
theorem ofBytes_set (s : List UInt8) (i : Nat) (b : UInt8) : (ofBytes s).set i [.i ((b.toNat : Nat) : Int)] = ofBytes (s.set i b) := by
  unfold ofBytes; rw [List.map_set]
theorem byte_nat (n : Nat) (h : n < 256) : ((UInt8.ofNat n).toNat : Nat) = n := by simp; omega

/-- the last byte is not full: so many bits are free -/
def freeN (s : List UInt8) (f : Int) : Nat :=
  if f < 0 ∨ f > 7 ∨ s = [] ∨ (s.getD (s.length - 1) 0).toNat % 2 ^ f.toNat ≠ 0 then 0 else f.toNat
/-- one bit behind -/
def put1 (s : List UInt8) (f : Nat) (b : Nat) : List UInt8 × Nat :=
  if f = 0 then (s ++ [UInt8.ofNat (128 * b)], 7) else (s.set (s.length - 1) (UInt8.ofNat ((s.getD (s.length - 1) 0).toNat + b * 2 ^ (f - 1))), f - 1)
/-- the bits of a number, from the highest on -/
def putN (v : Nat) : Nat → List UInt8 × Nat → List UInt8 × Nat
  | 0, w => w
  | n + 1, w => putN v n (put1 w.1 w.2 (v / 2 ^ n % 2))
/-- a writer whose last byte is not full -/
def WOk (w : List UInt8 × Nat) : Prop := w.2 ≤ 7 ∧ (w.2 ≠ 0 → w.1 ≠ [] ∧ (w.1.getD (w.1.length - 1) 0).toNat % 2 ^ w.2 = 0)
theorem freeN_ok (s : List UInt8) (f : Int) : WOk (s, freeN s f) := by
  unfold freeN
  split
  · exact ⟨Nat.zero_le _, fun h => absurd rfl h⟩
  · rename_i h
    simp only [not_or, Decidable.not_not] at h
    exact ⟨by show f.toNat ≤ 7; omega, fun _ => ⟨h.2.2.1, h.2.2.2⟩⟩
theorem set_last (s : List UInt8) (h : s ≠ []) (b : UInt8) : (s.set (s.length - 1) b).getD (s.length - 1) 0 = b := by
  have hl : 0 < s.length := List.length_pos_iff.2 h
  rw [List.getD, List.getElem?_set_self (by omega)]; rfl
theorem free_le {x f b : Nat} (hf : f ≤ 6) (hx : x < 256) (hm : x % 2 ^ (f + 1) = 0) (hb : b < 2) : x + b * 2 ^ f < 256 ∧ (x + b * 2 ^ f) % 2 ^ f = 0 := by
  have hp : 2 ^ (f + 1) = 2 * 2 ^ f := Nat.pow_succ'
  obtain ⟨c, hc⟩ : ∃ c, x = 2 ^ (f + 1) * c := ⟨x / 2 ^ (f + 1), by have := Nat.div_add_mod x (2 ^ (f + 1)); omega⟩
  have h256 : 256 = 2 ^ (f + 1) * 2 ^ (7 - f) := by rw [← Nat.pow_add, show f + 1 + (7 - f) = 8 by omega]
  have hcl : c < 2 ^ (7 - f) := by
    rw [hc, h256] at hx
    exact Nat.lt_of_mul_lt_mul_left hx
  have h1 : 2 ^ (f + 1) * (c + 1) ≤ 256 := by rw [h256]; exact Nat.mul_le_mul_left _ hcl
  rw [Nat.mul_add] at h1
  have hb' : b * 2 ^ f ≤ 1 * 2 ^ f := Nat.mul_le_mul_right _ (by omega)
  have hpos : 0 < 2 ^ f := Nat.pow_pos (by decide)
  refine ⟨by omega, ?_⟩
  rw [hc, hp, Nat.mul_assoc, Nat.mul_comm b, Nat.mul_left_comm, ← Nat.mul_add]
  exact Nat.mul_mod_right _ _
theorem put1_ok {s : List UInt8} {f : Nat} (h : WOk (s, f)) {b : Nat} (hb : b < 2) : WOk (put1 s f b) ∧ (put1 s f b).1.length ≤ s.length + 1 := by
  unfold put1
  by_cases h0 : f = 0
  · rw [if_pos h0]
    refine ⟨⟨Nat.le_refl 7, fun _ => ⟨by simp, ?_⟩⟩, by simp⟩
    have : (s ++ [UInt8.ofNat (128 * b)]).getD ((s ++ [UInt8.ofNat (128 * b)]).length - 1) 0 = UInt8.ofNat (128 * b) := by simp [List.getD]
    rw [this, byte_nat _ (by omega)]
    show 128 * b % 128 = 0
    omega
  · rw [if_neg h0]
    obtain ⟨h1, h2⟩ := h
    obtain ⟨h3, h4⟩ := h2 h0
    have h1 : f ≤ 7 := h1
    have h3 : s ≠ [] := h3
    have h4 : (s.getD (s.length - 1) 0).toNat % 2 ^ f = 0 := h4
    have hx : (s.getD (s.length - 1) 0).toNat < 256 := UInt8.toNat_lt _
    obtain ⟨f, rfl⟩ : ∃ g, f = g + 1 := ⟨f - 1, by omega⟩
    rw [Nat.add_sub_cancel]
    have hle := free_le (by omega) hx h4 hb
    refine ⟨⟨by show f ≤ 7; omega, fun _ => ⟨by simpa using h3, ?_⟩⟩, by simp⟩
    show ((s.set (s.length - 1) (UInt8.ofNat ((s.getD (s.length - 1) 0).toNat + b * 2 ^ f))).getD ((s.set (s.length - 1) _).length - 1) 0).toNat % 2 ^ f = 0
    rw [List.length_set, set_last s h3, byte_nat _ hle.1]
    exact hle.2
end Go.AI
set_option linter.unusedVariables false
set_option linter.unusedSimpArgs false
set_option maxRecDepth 100000
namespace Go.AI
open Go Go.Proofs

theorem or_u8 {x f b : Nat} (hf : f ≤ 6) (hx : x < 256) (hm : x % 2 ^ (f + 1) = 0) (hb : b < 2) : bitsOp .or .u8 (x : Int) ((b * 2 ^ f : Nat) : Int) = ((x + b * 2 ^ f : Nat) : Int) := by
  have hle := free_le hf hx hm hb
  have h2 : (2 : Nat) ^ IntKind.u8.bits = 256 := rfl
  rw [orN (by rw [h2]; exact hx) (by rw [h2]; omega), wrapU8]
  have hc : x = 2 ^ (f + 1) * (x / 2 ^ (f + 1)) := by have := Nat.div_add_mod x (2 ^ (f + 1)); omega
  have hlt : b * 2 ^ f < 2 ^ (f + 1) := by
    have hpos : 0 < 2 ^ f := Nat.pow_pos (by decide)
    have hb' : b * 2 ^ f ≤ 1 * 2 ^ f := Nat.mul_le_mul_right _ (by omega)
    rw [Nat.pow_succ']; omega
  have e : x ||| b * 2 ^ f = x + b * 2 ^ f := by
    conv => lhs; rw [hc]
    rw [← Nat.two_pow_add_eq_or_of_lt hlt, ← hc]
  rw [e]
  have := hle.1
  omega
theorem shl_u8 {b f : Nat} (hb : b < 2) (hf : f ≤ 7) : shl .u8 (b : Int) (f : Int) = ((b * 2 ^ f : Nat) : Int) := by
  rw [shl_eq (by show (f : Int) ≤ (8 : Nat); omega), Int.toNat_natCast]
  have h : 2 ^ f ≤ 2 ^ 7 := Nat.pow_le_pow_right (by decide) hf
  have h : 2 ^ f ≤ 128 := h
  have hb' : b * 2 ^ f ≤ 1 * 2 ^ f := Nat.mul_le_mul_right _ (by omega)
  have e : (b : Int) * 2 ^ f = ((b * 2 ^ f : Nat) : Int) := by simp
  rw [e, wrapU8' (by omega) (by omega)]

theorem bit_of {v m : Nat} (hv : v < 9223372036854775808) (hm : m ≤ 62) : IntKind.wrap .u8 (bitsOp .and .i64 (shr .i64 (v : Int) (m : Int)) 1) = ((v / 2 ^ m % 2 : Nat) : Int) := by
  have h1 : v / 2 ^ m ≤ v := Nat.div_le_self _ _
  rw [shrN (by show m ≤ 64; omega), and1_64 (by omega), wrapU8' (by omega) (by omega)]

theorem putPlain_loop {v : Nat} (hv : v < 9223372036854775808) (o1 : List UInt8) (o2 : List UInt8) (o3 : Int) : ∀ (m : Nat) (s : List UInt8) (f : Nat), m ≤ 62 → WOk (s, f) → s.length + m ≤ 1000000000 →
    Ans (fun k => run k f_bits_PutPlain [] at_bits_PutPlain_L0 (S_bits_PutPlain_L0 v ((m : Int) - 1) (ofBytes s) o1 f o2 o3)) ([.s (putN v m (s, f)).1, .i (((putN v m (s, f)).2 : Nat) : Int), .i 0], [])
  | 0, s, f, _, _, _ => by
    refine Ans.succ (fun k => u_bits_PutPlain_L0 k ..) ?_
    refine .no (by decide) (.pure' ?_)
    rw [toBytes_of]; rfl
  | m + 1, s, f, hm, hw, hl => by
    refine Ans.succ (fun k => u_bits_PutPlain_L0 k ..) ?_
    have e0 : (((m + 1 : Nat) : Int) - 1) = (m : Int) := by omega
    have e1 : IntKind.wrap .i64 ((m : Int) - 1) = (m : Int) - 1 := wrap64 (by omega) (by omega)
    have hb : v / 2 ^ m % 2 < 2 := Nat.mod_lt _ (by decide)
    rw [e0, e1, bit_of hv (by omega)]
    obtain ⟨b, hbe⟩ : ∃ b, b = v / 2 ^ m % 2 := ⟨_, rfl⟩
    have ih := putPlain_loop hv o1 o2 o3 m (put1 s f b).1 (put1 s f b).2 (by omega) (put1_ok hw (by omega)).1 (by have := (put1_ok hw (b := b) (by omega)).2; omega)
    have hput : putN v (m + 1) (s, f) = putN v m ((put1 s f b).1, (put1 s f b).2) := by simp only [putN, ← hbe]
    rw [hput, ← hbe]
    rw [← hbe] at hb
    refine .yes (by simp) (.ite (fun h => ?_) (fun h => ?_))
    · have h : f = 0 := by simpa using h
      subst h
      have ea : ofBytes s ++ [[PV.i 0]] = ofBytes (s ++ [0]) := by rw [ofBytes_append]; rfl
      have el : (ofBytes (s ++ [0])).length = s.length + 1 := by rw [ofBytes_length]; simp
      have e2 : IntKind.wrap .i64 (((s.length + 1 : Nat) : Int) - 1) = ((s.length : Nat) : Int) := by rw [wrap64 (by omega) (by omega)]; omega
      have eg : elemAt (ofBytes (s ++ [0])) ((s.length : Nat) : Int) = [.i ((0 : Nat) : Int)] := by
        rw [elemAt_nat, ofBytes_get (by simp)]
        simp [List.getD]
      have eo : bitsOp .or .u8 ((0 : Nat) : Int) (shl .u8 (b : Int) 7) = (((UInt8.ofNat (128 * b)).toNat : Nat) : Int) := by
        have h2 : (2 : Nat) ^ IntKind.u8.bits = 256 := rfl
        rw [show (7 : Int) = ((7 : Nat) : Int) from rfl, shl_u8 hb (by omega), orN (by rw [h2]; omega) (by rw [h2]; omega), Nat.zero_or, wrapU8' (by omega) (by omega), byte_nat _ (by omega)]
        omega
      have hi : inB ((s.length : Nat) : Int) (s.length + 1) = true := by unfold inB; simp; omega
      have hset : (ofBytes (s ++ [0])).set s.length [.i (((UInt8.ofNat (128 * b)).toNat : Nat) : Int)] = ofBytes (put1 s 0 b).1 := by
        rw [ofBytes_set]
        unfold put1
        rw [if_pos rfl]
        congr 1
        simp
      rw [ea, el, e2, eg]
      simp only [List.getD_cons_zero, PV.toI, Int.toNat_natCast]
      rw [eo]
      refine .yes (by rw [ofBytes_length]; simp; omega) (.yes hi (.yes hi (.yes (by simp) (.yes hi (.yes hi ?_)))))
      rw [show putAt [PV.i ((0 : Nat) : Int)] 0 [PV.i (((UInt8.ofNat (128 * b)).toNat : Nat) : Int)] = [PV.i (((UInt8.ofNat (128 * b)).toNat : Nat) : Int)] from rfl, hset]
      exact ih
    · have h : f ≠ 0 := by simpa using h
      obtain ⟨h1, h2⟩ := hw
      obtain ⟨h3, h4⟩ := h2 h
      have h1 : f ≤ 7 := h1
      have h3 : s ≠ [] := h3
      have h4 : (s.getD (s.length - 1) 0).toNat % 2 ^ f = 0 := h4
      have hx : (s.getD (s.length - 1) 0).toNat < 256 := UInt8.toNat_lt _
      have hsl : 0 < s.length := List.length_pos_iff.2 h3
      obtain ⟨f, rfl⟩ : ∃ g, f = g + 1 := ⟨f - 1, by omega⟩
      have hle := free_le (by omega) hx h4 hb
      have el : (ofBytes s).length = s.length := ofBytes_length s
      have e2 : IntKind.wrap .i64 (((s.length : Nat) : Int) - 1) = ((s.length - 1 : Nat) : Int) := by rw [wrap64 (by omega) (by omega)]; omega
      have e3 : IntKind.wrap .i64 (((f + 1 : Nat) : Int) - 1) = ((f : Nat) : Int) := by rw [wrap64 (by omega) (by omega)]; omega
      have eg : elemAt (ofBytes s) ((s.length - 1 : Nat) : Int) = [.i (((s.getD (s.length - 1) 0).toNat : Nat) : Int)] := by
        rw [elemAt_nat, ofBytes_get (by omega)]
      have eo : bitsOp .or .u8 (((s.getD (s.length - 1) 0).toNat : Nat) : Int) (shl .u8 (b : Int) ((f : Nat) : Int)) = (((UInt8.ofNat ((s.getD (s.length - 1) 0).toNat + b * 2 ^ f)).toNat : Nat) : Int) := by
        rw [shl_u8 hb (by omega), or_u8 (by omega) hx h4 hb, byte_nat _ hle.1]
      have hi : inB ((s.length - 1 : Nat) : Int) s.length = true := by unfold inB; simp; omega
      have hset : (ofBytes s).set (s.length - 1) [.i (((UInt8.ofNat ((s.getD (s.length - 1) 0).toNat + b * 2 ^ f)).toNat : Nat) : Int)] = ofBytes (put1 s (f + 1) b).1 := by
        rw [ofBytes_set]
        unfold put1
        rw [if_neg (by omega)]
        rfl
      have hf2 : (put1 s (f + 1) b).2 = f := by unfold put1; rw [if_neg (by omega)]; rfl
      rw [el, e2, e3, eg]
      simp only [List.getD_cons_zero, PV.toI, Int.toNat_natCast]
      rw [eo]
      refine .yes hi (.yes hi (.yes (by simp) (.yes (by simp) (.yes hi (.yes hi ?_)))))
      rw [show putAt [PV.i (((s.getD (s.length - 1) 0).toNat : Nat) : Int)] 0 [PV.i (((UInt8.ofNat ((s.getD (s.length - 1) 0).toNat + b * 2 ^ f)).toNat : Nat) : Int)] = [PV.i (((UInt8.ofNat ((s.getD (s.length - 1) 0).toNat + b * 2 ^ f)).toNat : Nat) : Int)] from rfl, hset]
      rw [hf2] at ih
      exact ih

/-- a plain field behind -/
def putPlainF (s : List UInt8) (f v n : Int) : List UInt8 × Int × Int :=
  if n < 0 ∨ n > 31 ∨ v < 0 ∨ v ≥ 2 ^ n.toNat then ([], 0, 1) else ((putN v.toNat n.toNat (s, freeN s f)).1, (((putN v.toNat n.toNat (s, freeN s f)).2 : Nat) : Int), 0)
def encW (r : List UInt8 × Int × Int) : Res := ([.s r.1, .i r.2.1, .i r.2.2], [])

theorem shr_zero {v n : Nat} (hn : n ≤ 31) : (shr .i64 (v : Int) (n : Int) != 0) = decide (v ≥ 2 ^ n) := by
  rw [shrN (by show n ≤ 64; omega)]
  have hpos : 0 < 2 ^ n := Nat.pow_pos (by decide)
  by_cases h : v ≥ 2 ^ n
  · have : 0 < v / 2 ^ n := Nat.div_pos h hpos
    rw [decide_eq_true h]
    simp only [bne_iff_ne, ne_eq]
    omega
  · have : v / 2 ^ n = 0 := Nat.div_eq_of_lt (by omega)
    rw [decide_eq_false h, this]; rfl
theorem wrapU8_sub {f : Nat} (h : f ≤ 7) : IntKind.wrap .u8 (shl .u8 1 (f : Int) - 1) = ((2 ^ f - 1 : Nat) : Int) := by
  have := shl_u8 (b := 1) (f := f) (by omega) h
  rw [show ((1 : Nat) : Int) = 1 from rfl, Nat.one_mul] at this
  rw [this, wrapU8]
  have h1 : 2 ^ f ≤ 2 ^ 7 := Nat.pow_le_pow_right (by decide) h
  have h1 : 2 ^ f ≤ 128 := h1
  have hpos : 0 < 2 ^ f := Nat.pow_pos (by decide)
  omega
theorem and_mask {x f : Nat} (hx : x < 256) (hf : f ≤ 7) : bitsOp .and .u8 (x : Int) ((2 ^ f - 1 : Nat) : Int) = ((x % 2 ^ f : Nat) : Int) := by
  have h2 : (2 : Nat) ^ IntKind.u8.bits = 256 := rfl
  have h1 : 2 ^ f ≤ 2 ^ 7 := Nat.pow_le_pow_right (by decide) hf
  have h1 : 2 ^ f ≤ 128 := h1
  have hm := Nat.mod_le x (2 ^ f)
  rw [andN (by rw [h2]; exact hx) (by rw [h2]; omega), Nat.and_two_pow_sub_one_eq_mod, wrapU8' (by omega) (by omega)]
theorem putPlain_ans {s : List UInt8} (hs : s.length ≤ 500000000) (f : Int) (v n : Int) (hv : v ≤ 9223372036854775807) : Ans (fun k => call k f_bits_PutPlain [.s s, .i f, .i v, .i n] []) (encW (putPlainF s f v n)) := by
  refine Ans.succ (fun k => u_bits_PutPlain k s f v n) ?_
  by_cases hg : n < 0 ∨ n > 31 ∨ v < 0
  · refine .bind (x := [.b true]) ?_ (.yes rfl (.pure' ?_))
    · refine .ite (fun h => .pure _) (fun h => .ite (fun h2 => .pure _) (fun h2 => .ite (fun h3 => .pure _) (fun h3 => ?_)))
      simp only [decide_eq_false_iff_not] at h h2 h3
      omega
    · unfold putPlainF
      rw [if_pos (by rcases hg with h | h | h <;> simp [h])]; rfl
  · simp only [not_or] at hg
    obtain ⟨g1, g2, g3⟩ := hg
    obtain ⟨n, rfl⟩ := Int.eq_ofNat_of_zero_le (by omega : 0 ≤ n)
    obtain ⟨v, rfl⟩ := Int.eq_ofNat_of_zero_le (by omega : 0 ≤ v)
    refine .bind (x := [.b (decide (v ≥ 2 ^ n))]) (.no (by simp) (.no (by simp; omega) (.no (by simp) (.yes (by simp) (.pure' (by rw [shr_zero (by omega)])))))) ?_
    simp only [List.getD_cons_zero, PV.toB]
    refine .ite (fun h => .pure' ?_) (fun h => ?_)
    · have h : v ≥ 2 ^ n := by simpa using h
      unfold putPlainF
      rw [if_pos (.inr (.inr (.inr (by rw [Int.toNat_natCast]; exact_mod_cast h))))]; rfl
    · have h : ¬ v ≥ 2 ^ n := by simpa using h
      unfold putPlainF
      rw [if_neg (by
        rintro (h | h | h | h)
        · omega
        · omega
        · omega
        · rw [Int.toNat_natCast] at h
          have h' : (2 : Int) ^ n ≤ (v : Int) := h
          exact absurd (by exact_mod_cast h') ‹¬ v ≥ 2 ^ n›)]
      rw [Int.toNat_natCast, Int.toNat_natCast]
      have e1 : IntKind.wrap .i64 ((n : Int) - 1) = (n : Int) - 1 := wrap64 (by omega) (by omega)
      have fin : ∀ g : Nat, g = freeN s f → Ans (fun k => run k f_bits_PutPlain [] at_bits_PutPlain_L0 (S_bits_PutPlain_L0 v (IntKind.wrap .i64 ((n : Int) - 1)) (ofBytes s) s g [] 0)) (encW ((putN v n (s, freeN s f)).1, (((putN v n (s, freeN s f)).2 : Nat) : Int), 0)) := by
        rintro g rfl
        rw [e1]
        exact putPlain_loop (by omega) s [] 0 n s (freeN s f) (by omega) (freeN_ok s f) (by omega)
      rw [ofBytes_length]
      by_cases hf : f < 0 ∨ f > 7 ∨ s = []
      · refine .bind (x := [.b true]) ?_ (.yes rfl (fin 0 ?_))
        · refine .ite (fun h => .pure _) (fun h => .ite (fun h2 => .pure _) (fun h2 => .ite (fun h3 => .pure _) (fun h3 => ?_)))
          simp only [decide_eq_false_iff_not] at h h2
          have h3 : s ≠ [] := by
            rintro rfl
            simp at h3
          rcases hf with hf | hf | hf
          · omega
          · omega
          · exact absurd hf h3
        · unfold freeN
          rw [if_pos (by rcases hf with h | h | h <;> simp [h])]
      · simp only [not_or] at hf
        obtain ⟨f1, f2, f3⟩ := hf
        have hsl : 0 < s.length := List.length_pos_iff.2 f3
        obtain ⟨f, rfl⟩ := Int.eq_ofNat_of_zero_le (by omega : 0 ≤ f)
        have e2 : IntKind.wrap .i64 (((s.length : Nat) : Int) - 1) = ((s.length - 1 : Nat) : Int) := by rw [wrap64 (by omega) (by omega)]; omega
        have hi : inB ((s.length - 1 : Nat) : Int) s.length = true := by unfold inB; simp; omega
        have hx : (s.getD (s.length - 1) 0).toNat < 256 := UInt8.toNat_lt _
        have eg : elemAt (ofBytes s) ((s.length - 1 : Nat) : Int) = [.i (((s.getD (s.length - 1) 0).toNat : Nat) : Int)] := by
          rw [elemAt_nat, ofBytes_get (by omega)]
        rw [e2, eg]
        refine .bind (x := [.b (decide ((s.getD (s.length - 1) 0).toNat % 2 ^ f ≠ 0))]) (.no (by simp) (.no (by simp; omega) (.no (by simp; exact f3) (.yes hi (.yes hi (.yes (by simp) (.pure' ?_))))))) ?_
        · simp only [List.getD_cons_zero, PV.toI]
          rw [wrapU8_sub (by omega), and_mask hx (by omega)]
          congr 2
          by_cases hz : (s.getD (s.length - 1) 0).toNat % 2 ^ f = 0
          · rw [hz]; simp
          · rw [decide_eq_true hz]
            simp only [bne_iff_ne, ne_eq]
            omega
        · simp only [List.getD_cons_zero, PV.toB]
          refine .ite (fun h => fin 0 ?_) (fun h => fin f ?_)
          · have h : (s.getD (s.length - 1) 0).toNat % 2 ^ f ≠ 0 := by simpa using h
            unfold freeN
            rw [if_pos (.inr (.inr (.inr (by rw [Int.toNat_natCast]; exact h))))]
          · have h : (s.getD (s.length - 1) 0).toNat % 2 ^ f = 0 := by simpa using h
            unfold freeN
            rw [if_neg (by
              rintro (h | h | h | h)
              · omega
              · omega
              · exact f3 h
              · rw [Int.toNat_natCast] at h; exact h ‹_›)]
            rw [Int.toNat_natCast]
end Go.AI
set_option linter.unusedVariables false
set_option linter.unusedSimpArgs false
set_option maxRecDepth 100000
namespace Go.AI
open Go Go.Proofs

/-- a field with a sign behind -/
def putSignedF (s : List UInt8) (f v n : Int) : List UInt8 × Int × Int :=
  if n < 0 ∨ n > 31 ∨ (widthN v : Int) > n then ([], 0, 1) else putPlainF s f (if v < 0 then v + 2 ^ n.toNat else v) n
theorem width1_ans {v : Int} (hv : I64 v) : Ans (fun k => call k f_bits_Width [.l (List.set [[PV.i 0]] 0 [PV.i v])] []) ([.i ((widthN v : Nat) : Int)], []) := by
  have := width_ans (es := [[PV.i v]]) (by simp) (fun i hi => by
    have : i = 0 := by simpa using hi
    subst this; exact hv)
  have e : widthL [[PV.i v]] [[PV.i v]].length = widthN v := by
    simp [widthL, elI, PV.toI]
  rw [e] at this
  exact this
theorem putSigned_ans {s : List UInt8} (hs : s.length ≤ 500000000) (f : Int) (v n : Int) (hv : I64 v) : Ans (fun k => call k f_bits_PutSigned [.s s, .i f, .i v, .i n] []) (encW (putSignedF s f v n)) := by
  refine Ans.succ (fun k => u_bits_PutSigned k s f v n) ?_
  refine .bind (x := [.b (decide (n < 0 ∨ n > 31 ∨ (widthN v : Int) > n))]) ?_ ?_
  · refine .ite (fun h => .pure' ?_) (fun h => .ite (fun h2 => .pure' ?_) (fun h2 => .bind (width1_ans hv) (.pure' ?_)))
    · simp only [decide_eq_true_eq] at h; simp [h]
    · simp only [decide_eq_true_eq] at h2; simp [h2]
    · simp only [decide_eq_false_iff_not] at h h2
      simp only [List.getD_cons_zero, PV.toI]
      congr 2
      apply decide_eq_decide.2
      constructor
      · intro e; exact .inr (.inr e)
      · rintro (e | e | e)
        · exact absurd e h
        · exact absurd e h2
        · exact e
  · simp only [List.getD_cons_zero, PV.toB]
    unfold putSignedF
    refine .ite (fun h => .pure' ?_) (fun h => ?_)
    · rw [if_pos (of_decide_eq_true h)]; rfl
    · have h := of_decide_eq_false h
      rw [if_neg h]
      simp only [not_or] at h
      obtain ⟨h1, h2, h3⟩ := h
      obtain ⟨n, rfl⟩ := Int.eq_ofNat_of_zero_le (by omega : 0 ≤ n)
      refine .ite (fun hn => ?_) (fun hn => ?_)
      · simp only [decide_eq_true_eq] at hn
        have hp : 2 ^ n ≤ 2147483648 := Nat.pow_le_pow_right (n := 2) (by decide) (by omega : n ≤ 31)
        have e2 : shl .i64 1 (n : Int) = ((2 ^ n : Nat) : Int) := by
          have := shl64 (x := 1) (y := n) (by omega) (by omega)
          rw [Nat.one_mul] at this; exact this
        have := hv.1
        have e3 : v + 2 ^ (n : Int).toNat = v + ((2 ^ n : Nat) : Int) := by rw [Int.toNat_natCast]; simp
        have key : ∀ p : Nat, p ≤ 2147483648 → IntKind.wrap .i64 (v + (p : Int)) = v + (p : Int) ∧ v + (p : Int) ≤ 9223372036854775807 := fun p hp => ⟨wrap64 (by omega) (by omega), by omega⟩
        rw [if_pos hn, e2, (key _ hp).1, e3]
        refine .yes (by simp) (.bind (putPlain_ans hs f _ n (key _ hp).2) ?_)
        exact .pure _
      · simp only [decide_eq_false_iff_not] at hn
        rw [if_neg hn]
        exact .bind (putPlain_ans hs f _ n hv.2) (.pure _)
end Go.AI
set_option linter.unusedVariables false
set_option linter.unusedSimpArgs false
set_option maxRecDepth 100000
namespace Go.AI
open Go Go.Proofs

theorem putBytes_ans {s t : List UInt8} (h : s.length + t.length ≤ 1099511627776) (f : Int) : Ans (fun k => call k f_bits_PutBytes [.s s, .i f, .s t] []) ([.s (s ++ t), .i 0], []) :=
  Ans.succ (fun k => u_bits_PutBytes k s f t) (.yes (by simpa using h) (.pure _))
theorem putAlign_ans (s : List UInt8) (f : Int) : Ans (fun k => call k f_bits_PutAlign [.s s, .i f] []) ([.s s, .i 0], []) :=
  Ans.succ (fun k => u_bits_PutAlign k s f) (.pure _)

end Go.AI
set_option linter.unusedVariables false
set_option linter.unusedSimpArgs false
set_option maxRecDepth 100000
namespace Go.AI
open Go Go.Proofs

/-- how many bits a writer has -/
def wl (w : List UInt8 × Nat) : Nat := 8 * w.1.length - w.2
/-- a writer's bits are another's first ones -/
def WExt (w w' : List UInt8 × Nat) : Prop := wl w ≤ wl w' ∧ ∀ i, i < wl w → bitN w'.1 i = bitN w.1 i
theorem WExt.refl (w : List UInt8 × Nat) : WExt w w := ⟨Nat.le_refl _, fun _ _ => rfl⟩
theorem WExt.trans {a b c : List UInt8 × Nat} (h : WExt a b) (k : WExt b c) : WExt a c :=
  ⟨Nat.le_trans h.1 k.1, fun i hi => (k.2 i (Nat.lt_of_lt_of_le hi h.1)).trans (h.2 i hi)⟩
theorem fieldN_congr {s t : List UInt8} {a : Nat} : ∀ n, (∀ i, i < n → bitN s (a + i) = bitN t (a + i)) → fieldN s a n = fieldN t a n
  | 0, _ => rfl
  | n + 1, h => by simp only [fieldN]; rw [fieldN_congr n (fun i hi => h i (by omega)), h n (by omega)]
theorem WExt.field {w w' : List UInt8 × Nat} (h : WExt w w') {a n : Nat} (hl : a + n ≤ wl w) : fieldN w'.1 a n = fieldN w.1 a n :=
  fieldN_congr n fun i hi => h.2 _ (by omega)

theorem bitN_append {s t : List UInt8} {i : Nat} (h : i < 8 * s.length) : bitN (s ++ t) i = bitN s i := by
  unfold bitN
  have e : (s ++ t).getD (i / 8) 0 = s.getD (i / 8) 0 := by
    simp only [List.getD]
    rw [List.getElem?_append_left (by omega)]
  rw [e]
theorem wl_le {w : List UInt8 × Nat} : wl w ≤ 8 * w.1.length := Nat.sub_le _ _
theorem put1_ext {s : List UInt8} {f : Nat} (h : WOk (s, f)) {b : Nat} (hb : b < 2) : WExt (s, f) (put1 s f b) ∧ wl (put1 s f b) = wl (s, f) + 1 ∧ bitN (put1 s f b).1 (wl (s, f)) = b := by
  unfold put1
  by_cases h0 : f = 0
  · subst h0
    rw [if_pos rfl]
    have e1 : wl (s, 0) = 8 * s.length := by simp [wl]
    have e2 : wl (s ++ [UInt8.ofNat (128 * b)], 7) = 8 * s.length + 1 := by simp [wl]; omega
    refine ⟨⟨by rw [e1, e2]; omega, fun i hi => ?_⟩, by rw [e1, e2], ?_⟩
    · rw [e1] at hi
      exact bitN_append hi
    · rw [e1]
      unfold bitN
      have : (s ++ [UInt8.ofNat (128 * b)]).getD (8 * s.length / 8) 0 = UInt8.ofNat (128 * b) := by
        rw [show 8 * s.length / 8 = s.length by omega]; simp [List.getD]
      rw [this, byte_nat _ (by omega), show 7 - 8 * s.length % 8 = 7 by omega]
      omega
  · rw [if_neg h0]
    obtain ⟨h1, h2⟩ := h
    obtain ⟨h3, h4⟩ := h2 h0
    have h1 : f ≤ 7 := h1
    have h3 : s ≠ [] := h3
    have h4 : (s.getD (s.length - 1) 0).toNat % 2 ^ f = 0 := h4
    have hx : (s.getD (s.length - 1) 0).toNat < 256 := UInt8.toNat_lt _
    have hsl : 0 < s.length := List.length_pos_iff.2 h3
    obtain ⟨f, rfl⟩ : ∃ g, f = g + 1 := ⟨f - 1, by omega⟩
    rw [Nat.add_sub_cancel]
    have hle := free_le (by omega) hx h4 hb
    obtain ⟨x, hxe⟩ : ∃ x, x = (s.getD (s.length - 1) 0).toNat := ⟨_, rfl⟩
    rw [← hxe] at hx h4 hle ⊢
    have e1 : wl (s, f + 1) = 8 * (s.length - 1) + (7 - f) := by simp only [wl]; omega
    have e2 : wl (s.set (s.length - 1) (UInt8.ofNat (x + b * 2 ^ f)), f) = 8 * (s.length - 1) + (8 - f) := by simp only [wl, List.length_set]; omega
    have hpos : 0 < 2 ^ f := Nat.pow_pos (by decide)
    have hp : 2 ^ (f + 1) = 2 ^ f * 2 := by rw [Nat.pow_succ]
    obtain ⟨c, hc⟩ : ∃ c, x = 2 ^ (f + 1) * c := ⟨x / 2 ^ (f + 1), by have := Nat.div_add_mod x (2 ^ (f + 1)); omega⟩
    have hd1 : (x + b * 2 ^ f) / 2 ^ f = 2 * c + b := by
      rw [hc, hp, Nat.mul_assoc, Nat.mul_comm b, ← Nat.mul_add, Nat.mul_div_cancel_left _ hpos]
    refine ⟨⟨by rw [e1, e2]; omega, fun i hi => ?_⟩, by rw [e1, e2]; omega, ?_⟩
    · rw [e1] at hi
      unfold bitN
      by_cases hk : i / 8 = s.length - 1
      · rw [hk, set_last s h3, byte_nat _ hle.1, ← hxe]
        -- higher bits of the last byte
        have hs : ∃ g, 7 - i % 8 = f + (1 + g) := ⟨7 - i % 8 - f - 1, by omega⟩
        obtain ⟨g, hg⟩ := hs
        rw [hg, Nat.pow_add, ← Nat.div_div_eq_div_mul, ← Nat.div_div_eq_div_mul, hd1]
        have hd2 : x / 2 ^ f = 2 * c := by rw [hc, hp, Nat.mul_assoc, Nat.mul_div_cancel_left _ hpos]
        rw [hd2, Nat.pow_add, ← Nat.div_div_eq_div_mul, ← Nat.div_div_eq_div_mul]
        congr 2
        omega
      · have : (s.set (s.length - 1) (UInt8.ofNat (x + b * 2 ^ f))).getD (i / 8) 0 = s.getD (i / 8) 0 := by
          simp only [List.getD]
          rw [List.getElem?_set_ne (by omega)]
        rw [this]
    · rw [e1]
      unfold bitN
      rw [show (8 * (s.length - 1) + (7 - f)) / 8 = s.length - 1 by omega, set_last s h3, byte_nat _ hle.1, show 7 - (8 * (s.length - 1) + (7 - f)) % 8 = f by omega, hd1]
      omega
theorem putN_ext (v : Nat) : ∀ (n : Nat) (w : List UInt8 × Nat), WOk w → WOk (putN v n w) ∧ WExt w (putN v n w) ∧ wl (putN v n w) = wl w + n ∧ fieldN (putN v n w).1 (wl w) n = v % 2 ^ n ∧ (putN v n w).1.length ≤ w.1.length + n
  | 0, w, h => ⟨h, WExt.refl w, rfl, by simp [fieldN]; omega, Nat.le_refl _⟩
  | n + 1, (s, f), h => by
    have hb : v / 2 ^ n % 2 < 2 := Nat.mod_lt _ (by decide)
    obtain ⟨a1, a2⟩ := put1_ok h hb
    obtain ⟨b1, b2, b3⟩ := put1_ext h hb
    obtain ⟨c1, c2, c3, c4, c5⟩ := putN_ext v n (put1 s f (v / 2 ^ n % 2)) a1
    simp only [putN]
    refine ⟨c1, b1.trans c2, by rw [c3, b2]; omega, ?_, Nat.le_trans c5 (by omega)⟩
    rw [Nat.add_comm n 1, fieldN_add, ← b2, c4]
    have e : fieldN (putN v n (put1 s f (v / 2 ^ n % 2))).1 (wl (s, f)) 1 = v / 2 ^ n % 2 := by
      simp only [fieldN, Nat.mul_zero, Nat.zero_add, Nat.add_zero]
      rw [c2.2 _ (by omega), b3]
    rw [e, Nat.add_comm 1 n, Nat.pow_succ, Nat.mod_mul]
    rw [Nat.mul_comm (2 ^ n)]; omega
theorem freeN_same {s : List UInt8} {f : Nat} (h : WOk (s, f)) : freeN s f = f := by
  unfold freeN
  split
  · rename_i hc
    by_cases h0 : f = 0
    · exact h0.symm
    · obtain ⟨h3, h4⟩ := h.2 h0
      have := h.1
      rcases hc with hc | hc | hc | hc
      · omega
      · have : f ≤ 7 := this
        omega
      · exact absurd hc h3
      · rw [Int.toNat_natCast] at hc; exact absurd h4 hc
  · exact Int.toNat_natCast f

theorem byte_bits : ∀ x : Fin 256, 2 * (2 * (2 * (2 * (2 * (2 * (2 * (2 * 0 + x.1 / 2 ^ 7 % 2) + x.1 / 2 ^ 6 % 2) + x.1 / 2 ^ 5 % 2) + x.1 / 2 ^ 4 % 2) + x.1 / 2 ^ 3 % 2) + x.1 / 2 ^ 2 % 2) + x.1 / 2 ^ 1 % 2) + x.1 / 2 ^ 0 % 2 = x.1 := by decide +kernel
/-- a byte, as the field of its bits -/
theorem field_byte (s : List UInt8) (k : Nat) : fieldN s (8 * k) 8 = (s.getD k 0).toNat := by
  have hx : (s.getD k 0).toNat < 256 := UInt8.toNat_lt _
  have e : ∀ j, j < 8 → bitN s (8 * k + j) = (s.getD k 0).toNat / 2 ^ (7 - j) % 2 := fun j hj => by
    unfold bitN
    rw [show (8 * k + j) / 8 = k by omega, show (8 * k + j) % 8 = j by omega]
  simp only [fieldN]
  rw [e 0 (by omega), e 1 (by omega), e 2 (by omega), e 3 (by omega), e 4 (by omega), e 5 (by omega), e 6 (by omega), e 7 (by omega)]
  exact byte_bits ⟨_, hx⟩
theorem WExt.byte {w w' : List UInt8 × Nat} (h : WExt w w') {k : Nat} (hk : 8 * k + 8 ≤ wl w) : w'.1.getD k 0 = w.1.getD k 0 := by
  have := h.field (a := 8 * k) (n := 8) hk
  rw [field_byte, field_byte] at this
  exact UInt8.toNat_inj.1 this
/-- the bytes of a writer that are full -/
theorem WExt.bytes {s t : List UInt8} {w' : List UInt8 × Nat} (h : WExt (s ++ t, 0) w') : s.length + t.length ≤ w'.1.length ∧ (w'.1.drop s.length).take t.length = t := by
  have hl : wl (s ++ t, 0) = 8 * (s.length + t.length) := by simp [wl]
  have hle : s.length + t.length ≤ w'.1.length := by have := h.1; have := wl_le (w := w'); omega
  refine ⟨hle, ?_⟩
  apply List.ext_getElem
  · rw [List.length_take, List.length_drop]; omega
  · intro i h1 h2
    have hb := h.byte (k := s.length + i) (by rw [hl]; omega)
    rw [List.getElem_take, List.getElem_drop]
    simp only [List.getD] at hb
    rw [List.getElem?_eq_getElem (by omega), List.getElem?_append_right (by omega), Nat.add_sub_cancel_left, List.getElem?_eq_getElem h2] at hb
    exact hb
theorem append_ext (s t : List UInt8) (f : Nat) : WExt (s, f) (s ++ t, 0) := by
  refine ⟨by simp [wl]; omega, fun i hi => bitN_append ?_⟩
  have := wl_le (w := (s, f))
  exact Nat.lt_of_lt_of_le hi this
theorem ok_zero (s : List UInt8) : WOk (s, 0) := ⟨Nat.zero_le _, fun h => absurd rfl h⟩
end Go.AI
set_option linter.unusedVariables false
set_option linter.unusedSimpArgs false
set_option maxRecDepth 100000
namespace Go.AI
open Go Go.Proofs

abbrev Wt := List UInt8 × Nat
def signU (v n : Int) : Int := if v < 0 then v + 2 ^ n.toNat else v
/-- a number with a sign that fits, as bits -/
theorem signU_of {v : Int} {n : Nat} (h : widthN v ≤ n) (hn : n ≤ 31) : 0 ≤ signU v n ∧ signU v n < 2 ^ n ∧ (signU v n ≥ 0 → ((n : Int) > 0 ∧ 2 * signU v n ≥ 2 ^ n ↔ v < 0)) := by
  by_cases h0 : v = 0
  · subst h0
    have hp : (0 : Int) < 2 ^ n := Int.pow_pos (by omega)
    have e : signU 0 n = 0 := by unfold signU; simp
    rw [e]
    refine ⟨Int.le_refl _, hp, fun _ => ⟨fun ⟨_, h⟩ => absurd (Int.lt_of_lt_of_le hp h) (by decide), fun h => absurd h (by decide)⟩⟩
  · have hn0 : 0 < n := Nat.lt_of_lt_of_le (widthN_pos h0) h
    have hw := (widthN_le h0 hn0).1 h
    obtain ⟨p, hp⟩ : ∃ p : Nat, p = 2 ^ (n - 1) := ⟨_, rfl⟩
    have h2 : (2 : Int) ^ n = 2 * (p : Int) := by
      rw [hp]
      have : (2 : Nat) ^ n = 2 * 2 ^ (n - 1) := by rw [← Nat.pow_succ']; congr 1; omega
      exact_mod_cast this
    rw [← hp] at hw
    unfold signU
    rw [Int.toNat_natCast, h2]
    split <;> omega

theorem putPlainF_step {w : Wt} (hw : WOk w) (v n : Int) :
    (∃ w', (0 ≤ n ∧ n ≤ 31 ∧ 0 ≤ v ∧ v < 2 ^ n.toNat) ∧ w' = putN v.toNat n.toNat w ∧ putPlainF w.1 w.2 v n = (w'.1, ((w'.2 : Nat) : Int), 0)) ∨
    (¬ (0 ≤ n ∧ n ≤ 31 ∧ 0 ≤ v ∧ v < 2 ^ n.toNat) ∧ (putPlainF w.1 w.2 v n).2.2 = 1) := by
  unfold putPlainF
  by_cases h : n < 0 ∨ n > 31 ∨ v < 0 ∨ v ≥ 2 ^ n.toNat
  · right
    rw [if_pos h]
    refine ⟨fun ⟨a, b, c, d⟩ => ?_, rfl⟩
    rcases h with h | h | h | h
    · omega
    · omega
    · omega
    · exact absurd d (by omega)
  · left
    rw [if_neg h]
    simp only [not_or] at h
    refine ⟨_, ⟨by omega, by omega, by omega, by omega⟩, rfl, ?_⟩
    have : freeN w.1 (w.2 : Int) = w.2 := freeN_same hw
    rw [this]
theorem putPlain_ok {w : Wt} (hw : WOk w) {v n : Nat} (hn : n ≤ 31) (hv : v < 2 ^ n) : putPlainF w.1 w.2 v n = ((putN v n w).1, (((putN v n w).2 : Nat) : Int), 0) := by
  rcases putPlainF_step hw v n with ⟨w', _, h2, h3⟩ | ⟨h1, _⟩
  · rw [h3, h2]; simp
  · exact absurd ⟨by omega, by omega, by omega, by rw [Int.toNat_natCast]; exact_mod_cast hv⟩ h1
theorem putSigned_ok {w : Wt} (hw : WOk w) {v : Int} {n : Nat} (hn : n ≤ 31) (hv : widthN v ≤ n) : putSignedF w.1 w.2 v n = ((putN (signU v n).toNat n w).1, (((putN (signU v n).toNat n w).2 : Nat) : Int), 0) := by
  obtain ⟨s1, s2, _⟩ := signU_of hv hn
  unfold putSignedF
  rw [if_neg (by omega)]
  have e : (if v < 0 then v + 2 ^ (n : Int).toNat else v) = signU v n := rfl
  rw [e]
  obtain ⟨u, hu⟩ := Int.eq_ofNat_of_zero_le s1
  rw [hu] at s2 ⊢
  rw [Int.toNat_natCast]
  exact putPlain_ok hw hn (by exact_mod_cast s2)
end Go.AI
set_option linter.unusedVariables false
set_option linter.unusedSimpArgs false
set_option maxRecDepth 100000
namespace Go.AI
open Go Go.Proofs

end Go.AI
set_option linter.unusedVariables false
set_option linter.unusedSimpArgs false
set_option maxRecDepth 100000
namespace Go.AI
open Go Go.Proofs

def littleB (v : Nat) : Nat → List UInt8
  | 0 => []
  | n + 1 => littleB v n ++ [UInt8.ofNat (v / 256 ^ n % 256)]
theorem littleB_length (v : Nat) : ∀ n, (littleB v n).length = n
  | 0 => rfl
  | n + 1 => by simp [littleB, littleB_length v n]
theorem byte_shr {v i : Nat} (hv : v < 9223372036854775808) (hi : i ≤ 7) : IntKind.wrap .u8 (shr .i64 (v : Int) ((8 * i : Nat) : Int)) = (((UInt8.ofNat (v / 256 ^ i % 256)).toNat : Nat) : Int) := by
  rw [shrN (by show 8 * i ≤ 64; omega), wrapU8, byte_nat _ (Nat.mod_lt _ (by decide)), show 2 ^ (8 * i) = 256 ^ i by rw [Nat.pow_mul]]
  omega
theorem putLittle_loop {v n : Nat} (hv : v < 9223372036854775808) (hn : n ≤ 4) {s : List UInt8} (hs : s.length ≤ 500000000) (f : Int) (o1 : List UInt8) (o2 : Int) : ∀ j i, i + j = n →
    Ans (fun k => run k f_bits_PutLittle [] at_bits_PutLittle_L0 (S_bits_PutLittle_L0 v n i (ofBytes (littleB v i ++ List.replicate j 0)) s f o1 o2)) ([.s (s ++ littleB v n), .i 0, .i 0], [])
  | 0, i, h => by
    obtain rfl : i = n := h
    refine Ans.succ (fun k => u_bits_PutLittle_L0 k ..) ?_
    rw [toBytes_of]
    simp only [List.replicate_zero, List.append_nil]
    exact .no (by simp) (.bind (putBytes_ans (by rw [littleB_length]; omega) f) (.pure _))
  | j + 1, i, h => by
    refine Ans.succ (fun k => u_bits_PutLittle_L0 k ..) ?_
    have e1 : IntKind.wrap .i64 (8 * (i : Int)) = ((8 * i : Nat) : Int) := by rw [wrap64 (by omega) (by omega)]; rfl
    have e2 : IntKind.wrap .i64 ((i : Int) + 1) = ((i + 1 : Nat) : Int) := by rw [wrap64 (by omega) (by omega)]; rfl
    have hl : (littleB v i ++ List.replicate (j + 1) (0 : UInt8)).length = n := by simp [littleB_length]; omega
    have hg : elemAt (ofBytes (littleB v i ++ List.replicate (j + 1) 0)) (i : Int) = [.i ((0 : Nat) : Int)] := by
      rw [elemAt_nat, ofBytes_get (by omega)]
      simp [List.getD, littleB_length]
    have hi : inB (i : Int) (ofBytes (littleB v i ++ List.replicate (j + 1) 0)).length = true := by rw [ofBytes_length, hl]; unfold inB; simp; omega
    have hset : (ofBytes (littleB v i ++ List.replicate (j + 1) 0)).set i [.i (((UInt8.ofNat (v / 256 ^ i % 256)).toNat : Nat) : Int)] = ofBytes (littleB v (i + 1) ++ List.replicate j 0) := by
      rw [ofBytes_set]
      congr 1
      rw [List.set_append_right _ _ (by rw [littleB_length]; omega), littleB_length, Nat.sub_self]
      simp [littleB, List.replicate_succ]
    rw [e1, e2, byte_shr hv (by omega), hg, Int.toNat_natCast]
    refine .yes (by simp; omega) (.yes (by simp; omega) (.yes hi (.yes hi ?_)))
    rw [show putAt [PV.i ((0 : Nat) : Int)] 0 [PV.i (((UInt8.ofNat (v / 256 ^ i % 256)).toNat : Nat) : Int)] = [PV.i (((UInt8.ofNat (v / 256 ^ i % 256)).toNat : Nat) : Int)] from rfl, hset]
    exact putLittle_loop hv hn hs f o1 o2 j (i + 1) (by omega)

def putLittleF (s : List UInt8) (v n : Int) : List UInt8 × Int × Int :=
  if n < 1 ∨ n > 4 ∨ v < 0 ∨ v ≥ 2 ^ (8 * n.toNat) then ([], 0, 1) else (s ++ littleB v.toNat n.toNat, 0, 0)
theorem shr_zero' {v n : Nat} (hn : n ≤ 62) : (shr .i64 (v : Int) (n : Int) != 0) = decide (v ≥ 2 ^ n) := by
  rw [shrN (by show n ≤ 64; omega)]
  have hpos : 0 < 2 ^ n := Nat.pow_pos (by decide)
  by_cases h : v ≥ 2 ^ n
  · have : 0 < v / 2 ^ n := Nat.div_pos h hpos
    rw [decide_eq_true h]
    simp only [bne_iff_ne, ne_eq]
    omega
  · have : v / 2 ^ n = 0 := Nat.div_eq_of_lt (by omega)
    rw [decide_eq_false h, this]; rfl
theorem putLittle_ans {s : List UInt8} (hs : s.length ≤ 500000000) (f : Int) (v n : Int) (hv : v ≤ 9223372036854775807) : Ans (fun k => call k f_bits_PutLittle [.s s, .i f, .i v, .i n] []) (encW (putLittleF s v n)) := by
  refine Ans.succ (fun k => u_bits_PutLittle k s f v n) ?_
  by_cases hg : n < 1 ∨ n > 4 ∨ v < 0
  · refine .bind (x := [.b true]) ?_ (.yes rfl (.pure' ?_))
    · refine .ite (fun h => .pure _) (fun h => .ite (fun h2 => .pure _) (fun h2 => .ite (fun h3 => .pure _) (fun h3 => ?_)))
      simp only [decide_eq_false_iff_not] at h h2 h3
      omega
    · unfold putLittleF
      rw [if_pos (by rcases hg with h | h | h <;> simp [h])]; rfl
  · simp only [not_or] at hg
    obtain ⟨g1, g2, g3⟩ := hg
    obtain ⟨n, rfl⟩ := Int.eq_ofNat_of_zero_le (by omega : 0 ≤ n)
    obtain ⟨v, rfl⟩ := Int.eq_ofNat_of_zero_le (by omega : 0 ≤ v)
    have e1 : IntKind.wrap .i64 (8 * (n : Int)) = ((8 * n : Nat) : Int) := by rw [wrap64 (by omega) (by omega)]; rfl
    rw [e1]
    refine .bind (x := [.b (decide (v ≥ 2 ^ (8 * n)))]) (.no (by simp; omega) (.no (by simp; omega) (.no (by simp) (.yes (by simp; omega) (.pure' (by rw [shr_zero' (by omega)])))))) ?_
    simp only [List.getD_cons_zero, PV.toB]
    unfold putLittleF
    refine .ite (fun h => .pure' ?_) (fun h => ?_)
    · have h : v ≥ 2 ^ (8 * n) := by simpa using h
      rw [if_pos (.inr (.inr (.inr (by rw [Int.toNat_natCast]; exact_mod_cast h))))]; rfl
    · have h : ¬ v ≥ 2 ^ (8 * n) := by simpa using h
      rw [if_neg (by
        rintro (h | h | h | h)
        · omega
        · omega
        · omega
        · rw [Int.toNat_natCast] at h
          have h' : (2 : Int) ^ (8 * n) ≤ (v : Int) := h
          exact absurd (by exact_mod_cast h') ‹¬ v ≥ 2 ^ (8 * n)›)]
      rw [Int.toNat_natCast, Int.toNat_natCast]
      have er : List.replicate n [PV.i 0] = ofBytes (littleB v 0 ++ List.replicate n 0) := by simp [littleB, ofBytes]
      rw [List.length_replicate, er]
      refine .yes (by simp; omega) ?_
      exact putLittle_loop (by omega) (by omega) hs f [] 0 n 0 (by omega)

end Go.AI
set_option linter.unusedVariables false
set_option linter.unusedSimpArgs false
set_option maxRecDepth 100000
namespace Go.AI
open Go Go.Proofs

end Go.AI
set_option linter.unusedVariables false
set_option linter.unusedSimpArgs false
set_option maxRecDepth 100000
namespace Go.AI
open Go Go.Proofs

def plainL (es : List (List PV)) : Nat → Nat
  | 0 => 0
  | i + 1 => max (plainL es i) (blen (elI es i).toNat)
theorem plainL_le {es : List (List PV)} (he : ∀ i, i < es.length → I64 (elI es i)) : ∀ i, i ≤ es.length → plainL es i ≤ 64
  | 0, _ => by simp [plainL]
  | i + 1, h => by
    have := plainL_le he i (by omega)
    have hb := he i (by omega)
    have := blen64 (a := (elI es i).toNat) (by have := hb.2; omega)
    simp only [plainL]; omega
theorem plainWidth_loop {es : List (List PV)} (hes : es.length ≤ 9223372036854775806) (he : ∀ i, i < es.length → I64 (elI es i)) : ∀ j i, i + j = es.length →
    Ans (fun k => run k f_bits_PlainWidth [] at_bits_PlainWidth_L0 (S_bits_PlainWidth_L0 (plainL es i) es es.length i)) ([.i ((plainL es es.length : Nat) : Int)], [])
  | 0, i, h => by
    obtain rfl : i = es.length := h
    refine Ans.succ (fun k => u_bits_PlainWidth_L0 k ..) ?_
    exact .no (by simp) (.pure _)
  | j + 1, i, h => by
    refine Ans.succ (fun k => u_bits_PlainWidth_L0 k ..) ?_
    have hi := he i (by omega)
    have hp := plainL_le he i (by omega)
    have e2 : IntKind.wrap .i64 ((i : Int) + 1) = ((i + 1 : Nat) : Int) := by rw [wrap64 (by omega) (by omega)]; rfl
    have ev : ((es.getD i []).getD 0 .u).toI = elI es i := rfl
    rw [e2, elemAt_nat, ev]
    obtain ⟨v, hv⟩ : ∃ v, v = elI es i := ⟨_, rfl⟩
    rw [← hv] at hi ⊢
    have em : (bif decide ((0 : Int) > v) then (0 : Int) else v) = ((v.toNat : Nat) : Int) := by
      by_cases hc : (0 : Int) > v
      · rw [decide_eq_true hc, cond_true]; omega
      · rw [decide_eq_false hc, cond_false]; omega
    have hlt : v.toNat < 18446744073709551616 := by have := hi.2; omega
    rw [em, wrapU64 (by omega) (by omega)]
    refine .yes (by simp; omega) (.yes (by unfold inB; simp; omega) (.bind (len_ans v.toNat hlt) ?_))
    simp only [List.getD_cons_zero, PV.toI]
    have e : (bif decide (((blen v.toNat : Nat) : Int) > ((plainL es i : Nat) : Int)) then ((blen v.toNat : Nat) : Int) else ((plainL es i : Nat) : Int)) = ((plainL es (i + 1) : Nat) : Int) := by
      simp only [plainL, ← hv]
      by_cases hc : ((blen v.toNat : Nat) : Int) > ((plainL es i : Nat) : Int)
      · rw [decide_eq_true hc, cond_true]; omega
      · rw [decide_eq_false hc, cond_false]; omega
    rw [e]
    exact plainWidth_loop hes he j (i + 1) (by omega)
theorem plainWidth_ans {es : List (List PV)} (hes : es.length ≤ 9223372036854775806) (he : ∀ i, i < es.length → I64 (elI es i)) : Ans (fun k => call k f_bits_PlainWidth [.l es] []) ([.i ((plainL es es.length : Nat) : Int)], []) :=
  Ans.succ (fun k => u_bits_PlainWidth k es) (plainWidth_loop hes he es.length 0 (by omega))

end Go.AI
