/- What is written behind a writer: plain fields, fields with a sign, numbers of bytes. -/
import Derived.Test.YtnbmjpdiibandaaP02d
set_option linter.unusedVariables false
set_option linter.unusedSimpArgs false
set_option maxRecDepth 100000
namespace Go.AI
open Go Go.Proofs

/-! ### bytes as elements -/
theorem ofBytes_length (s : List UInt8) : (ofBytes s).length = s.length := by simp [ofBytes]
theorem ofBytes_get {s : List UInt8} {i : Nat} (h : i < s.length) : (ofBytes s).getD i [] = [.i (((s.getD i 0).toNat : Nat) : Int)] := by
  simp [ofBytes, List.getD, h]
theorem toBytes_of (s : List UInt8) : toBytes (ofBytes s) = s := by
  unfold toBytes ofBytes
  rw [List.map_map]
  have : ∀ b : UInt8, ((fun e : List PV => UInt8.ofNat (e.getD 0 .u).toI.toNat) ∘ fun b : UInt8 => [PV.i b.toNat]) b = b := fun b => by
    simp [PV.toI]
  rw [List.map_congr_left (g := id) (fun b _ => this b), List.map_id]
theorem ofBytes_append (s t : List UInt8) : ofBytes (s ++ t) = ofBytes s ++ ofBytes t := by simp [ofBytes]
theorem ofBytes_set (s : List UInt8) (i : Nat) (b : UInt8) : (ofBytes s).set i [.i ((b.toNat : Nat) : Int)] = ofBytes (s.set i b) := by
  unfold ofBytes; rw [List.map_set]
theorem byte_nat (n : Nat) (h : n < 256) : ((UInt8.ofNat n).toNat : Nat) = n := by simp; omega

/-- the last byte is not full: so many bits are free -/
def freeN (s : List UInt8) (f : Int) : Nat :=
  if f < 0 ∨ f > 7 ∨ s = [] ∨ (s.getD (s.length - 1) 0).toNat % 2 ^ f.toNat ≠ 0 then 0 else f.toNat
/-- one bit behind -/
def put1 (s : List UInt8) (f : Nat) (b : Nat) : List UInt8 × Nat :=
  if f = 0 then (s ++ [UInt8.ofNat (128 * b)], 7) else (s.set (s.length - 1) (UInt8.ofNat ((s.getD (s.length - 1) 0).toNat + b * 2 ^ (f - 1))), f - 1)
/-- the bits of a number, from the highest on -/
def putN (v : Nat) : Nat → List UInt8 × Nat → List UInt8 × Nat
  | 0, w => w
  | n + 1, w => putN v n (put1 w.1 w.2 (v / 2 ^ n % 2))
/-- a writer whose last byte is not full -/
def WOk (w : List UInt8 × Nat) : Prop := w.2 ≤ 7 ∧ (w.2 ≠ 0 → w.1 ≠ [] ∧ (w.1.getD (w.1.length - 1) 0).toNat % 2 ^ w.2 = 0)
theorem freeN_ok (s : List UInt8) (f : Int) : WOk (s, freeN s f) := by
  unfold freeN
  split
  · exact ⟨Nat.zero_le _, fun h => absurd rfl h⟩
  · rename_i h
    simp only [not_or, Decidable.not_not] at h
    exact ⟨by show f.toNat ≤ 7; omega, fun _ => ⟨h.2.2.1, h.2.2.2⟩⟩
theorem set_last (s : List UInt8) (h : s ≠ []) (b : UInt8) : (s.set (s.length - 1) b).getD (s.length - 1) 0 = b := by
  have hl : 0 < s.length := List.length_pos_iff.2 h
  rw [List.getD, List.getElem?_set_self (by omega)]; rfl
theorem free_le {x f b : Nat} (hf : f ≤ 6) (hx : x < 256) (hm : x % 2 ^ (f + 1) = 0) (hb : b < 2) : x + b * 2 ^ f < 256 ∧ (x + b * 2 ^ f) % 2 ^ f = 0 := by
  have hp : 2 ^ (f + 1) = 2 * 2 ^ f := Nat.pow_succ'
  obtain ⟨c, hc⟩ : ∃ c, x = 2 ^ (f + 1) * c := ⟨x / 2 ^ (f + 1), by have := Nat.div_add_mod x (2 ^ (f + 1)); omega⟩
  have h256 : 256 = 2 ^ (f + 1) * 2 ^ (7 - f) := by rw [← Nat.pow_add, show f + 1 + (7 - f) = 8 by omega]
  have hcl : c < 2 ^ (7 - f) := by
    rw [hc, h256] at hx
    exact Nat.lt_of_mul_lt_mul_left hx
  have h1 : 2 ^ (f + 1) * (c + 1) ≤ 256 := by rw [h256]; exact Nat.mul_le_mul_left _ hcl
  rw [Nat.mul_add] at h1
  have hb' : b * 2 ^ f ≤ 1 * 2 ^ f := Nat.mul_le_mul_right _ (by omega)
  have hpos : 0 < 2 ^ f := Nat.pow_pos (by decide)
  refine ⟨by omega, ?_⟩
  rw [hc, hp, Nat.mul_assoc, Nat.mul_comm b, Nat.mul_left_comm, ← Nat.mul_add]
  exact Nat.mul_mod_right _ _
theorem put1_ok {s : List UInt8} {f : Nat} (h : WOk (s, f)) {b : Nat} (hb : b < 2) : WOk (put1 s f b) ∧ (put1 s f b).1.length ≤ s.length + 1 := by
  unfold put1
  by_cases h0 : f = 0
  · rw [if_pos h0]
    refine ⟨⟨Nat.le_refl 7, fun _ => ⟨by simp, ?_⟩⟩, by simp⟩
    have : (s ++ [UInt8.ofNat (128 * b)]).getD ((s ++ [UInt8.ofNat (128 * b)]).length - 1) 0 = UInt8.ofNat (128 * b) := by simp [List.getD]
    rw [this, byte_nat _ (by omega)]
    show 128 * b % 128 = 0
    omega
  · rw [if_neg h0]
    obtain ⟨h1, h2⟩ := h
    obtain ⟨h3, h4⟩ := h2 h0
    have h1 : f ≤ 7 := h1
    have h3 : s ≠ [] := h3
    have h4 : (s.getD (s.length - 1) 0).toNat % 2 ^ f = 0 := h4
    have hx : (s.getD (s.length - 1) 0).toNat < 256 := UInt8.toNat_lt _
    obtain ⟨f, rfl⟩ : ∃ g, f = g + 1 := ⟨f - 1, by omega⟩
    rw [Nat.add_sub_cancel]
    have hle := free_le (by omega) hx h4 hb
    refine ⟨⟨by show f ≤ 7; omega, fun _ => ⟨by simpa using h3, ?_⟩⟩, by simp⟩
    show ((s.set (s.length - 1) (UInt8.ofNat ((s.getD (s.length - 1) 0).toNat + b * 2 ^ f))).getD ((s.set (s.length - 1) _).length - 1) 0).toNat % 2 ^ f = 0
    rw [List.length_set, set_last s h3, byte_nat _ hle.1]
    exact hle.2
end Go.AI
