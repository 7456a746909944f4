/- What the functions of bits answer. -/
import Derived.Test.YtlahaamidmbajaaGreatU
import Derived.Test.YtlahaamidmbajaaGreatAiM
set_option linter.unusedVariables false
set_option linter.unusedSimpArgs false
set_option maxRecDepth 100000
namespace Go.AI
open Go Go.Proofs


def rightB (s : List UInt8) (a : Int) : Bool := decide (0 ≤ a) && decide (a ≤ 8 * (s.length : Int))
/-- the next bits -/
def plainF (s : List UInt8) (a n : Int) : Int × List UInt8 × Int × Int :=
  if rightB s a = false ∨ n < 0 ∨ n > 31 then (0, [], 0, 1) else if a + n > 8 * (s.length : Int) then (0, [], 0, 2) else (fieldN s a.toNat n.toNat, s, a + n, 0)
end Go.AI
set_option linter.unusedVariables false
set_option linter.unusedSimpArgs false
set_option maxRecDepth 100000
namespace Go.AI
open Go Go.Proofs

/-- a field with a sign -/
def signedF (s : List UInt8) (a n : Int) : Int × List UInt8 × Int × Int :=
  let r := plainF s a n
  (if r.2.2.2 = 0 ∧ n > 0 ∧ 2 * r.1 ≥ 2 ^ n.toNat then r.1 - 2 ^ n.toNat else r.1, r.2)
/-! ### the document's -/
/-- to the next whole byte -/
def alignF (s : List UInt8) (a : Int) : Int := if rightB s a = true then (a + 7) / 8 * 8 else a
end Go.AI
set_option linter.unusedVariables false
set_option linter.unusedSimpArgs false
set_option maxRecDepth 100000
namespace Go.AI
open Go Go.Proofs

/-- the next bytes -/
def bytesF (s : List UInt8) (a n : Int) : List UInt8 × List UInt8 × Int × Int :=
  if rightB s a = false ∨ n < 0 then ([], [], 0, 1) else if n > (s.length : Int) - (a + 7) / 8 then ([], [], 0, 2) else ((s.drop ((a + 7) / 8).toNat).take n.toNat, s, 8 * ((a + 7) / 8 + n), 0)
end Go.AI
set_option linter.unusedVariables false
set_option linter.unusedSimpArgs false
set_option maxRecDepth 100000
namespace Go.AI
open Go Go.Proofs

/-- how many bits a number has -/
def blen (n : Nat) : Nat := if n = 0 then 0 else Nat.log2 n + 1
theorem blen_le {n k : Nat} : blen n ≤ k ↔ n < 2 ^ k := by
  unfold blen
  by_cases h : n = 0
  · subst h; simp; exact Nat.pow_pos (by decide)
  · rw [if_neg h, Nat.succ_le_iff, Nat.log2_lt h]
/-- how many bits a number wants, with its sign -/
def widthN (v : Int) : Nat := if v < 0 then blen (-v - 1).toNat + 1 else if v = 0 then 0 else blen v.toNat + 1
theorem widthN_le {v : Int} {n : Nat} (hv : v ≠ 0) (hn : 0 < n) : widthN v ≤ n ↔ -(2 ^ (n - 1) : Nat) ≤ v ∧ v < (2 ^ (n - 1) : Nat) := by
  obtain ⟨m, rfl⟩ : ∃ m, n = m + 1 := ⟨n - 1, by omega⟩
  rw [Nat.add_sub_cancel]
  unfold widthN
  by_cases h : v < 0
  · rw [if_pos h, Nat.add_le_add_iff_right, blen_le]
    omega
  · rw [if_neg h, if_neg hv, Nat.add_le_add_iff_right, blen_le]
    omega
theorem widthN_zero : widthN 0 = 0 := rfl
/-- the greatest width of numbers -/
def elI (es : List (List PV)) (i : Nat) : Int := (((es.getD i []).getD 0 .u)).toI
def widthL (es : List (List PV)) : Nat → Nat
  | 0 => 0
  | i + 1 => max (widthL es i) (widthN (elI es i))
def I64 (v : Int) : Prop := -9223372036854775808 ≤ v ∧ v ≤ 9223372036854775807
theorem elemAt_nat (es : List (List PV)) (i : Nat) : elemAt es (i : Int) = es.getD i [] := by unfold elemAt; rw [Int.toNat_natCast]
end Go.AI
set_option linter.unusedVariables false
set_option linter.unusedSimpArgs false
set_option maxRecDepth 100000
namespace Go.AI
open Go Go.Proofs

/-! ### bytes as elements -/
/-- a writer whose last byte is not full -/
def WOk (w : List UInt8 × Nat) : Prop := w.2 ≤ 7 ∧ (w.2 ≠ 0 → w.1 ≠ [] ∧ (w.1.getD (w.1.length - 1) 0).toNat % 2 ^ w.2 = 0)
end Go.AI
set_option linter.unusedVariables false
set_option linter.unusedSimpArgs false
set_option maxRecDepth 100000
namespace Go.AI
open Go Go.Proofs

end Go.AI
set_option linter.unusedVariables false
set_option linter.unusedSimpArgs false
set_option maxRecDepth 100000
namespace Go.AI
open Go Go.Proofs

end Go.AI
set_option linter.unusedVariables false
set_option linter.unusedSimpArgs false
set_option maxRecDepth 100000
namespace Go.AI
open Go Go.Proofs

end Go.AI
set_option linter.unusedVariables false
set_option linter.unusedSimpArgs false
set_option maxRecDepth 100000
namespace Go.AI
open Go Go.Proofs

/-- how many bits a writer has -/
def wl (w : List UInt8 × Nat) : Nat := 8 * w.1.length - w.2
/-- a writer's bits are another's first ones -/
def WExt (w w' : List UInt8 × Nat) : Prop := wl w ≤ wl w' ∧ ∀ i, i < wl w → bitN w'.1 i = bitN w.1 i
theorem WExt.refl (w : List UInt8 × Nat) : WExt w w := ⟨Nat.le_refl _, fun _ _ => rfl⟩
theorem WExt.trans {a b c : List UInt8 × Nat} (h : WExt a b) (k : WExt b c) : WExt a c :=
  ⟨Nat.le_trans h.1 k.1, fun i hi => (k.2 i (Nat.lt_of_lt_of_le hi h.1)).trans (h.2 i hi)⟩
theorem fieldN_congr {s t : List UInt8} {a : Nat} : ∀ n, (∀ i, i < n → bitN s (a + i) = bitN t (a + i)) → fieldN s a n = fieldN t a n
  | 0, _ => rfl
  | n + 1, h => by simp only [fieldN]; rw [fieldN_congr n (fun i hi => h i (by omega)), h n (by omega)]
theorem WExt.field {w w' : List UInt8 × Nat} (h : WExt w w') {a n : Nat} (hl : a + n ≤ wl w) : fieldN w'.1 a n = fieldN w.1 a n :=
  fieldN_congr n fun i hi => h.2 _ (by omega)

theorem wl_le {w : List UInt8 × Nat} : wl w ≤ 8 * w.1.length := Nat.sub_le _ _
theorem WOk.len {w : List UInt8 × Nat} (h : WOk w) : wl w + w.2 = 8 * w.1.length ∧ w.2 ≤ 7 := by
  unfold wl
  refine ⟨?_, h.1⟩
  by_cases h0 : w.2 = 0
  · omega
  · have := List.length_pos_iff.2 (h.2 h0).1
    have := h.1
    omega
theorem byte_bits : ∀ x : Fin 256, 2 * (2 * (2 * (2 * (2 * (2 * (2 * (2 * 0 + x.1 / 2 ^ 7 % 2) + x.1 / 2 ^ 6 % 2) + x.1 / 2 ^ 5 % 2) + x.1 / 2 ^ 4 % 2) + x.1 / 2 ^ 3 % 2) + x.1 / 2 ^ 2 % 2) + x.1 / 2 ^ 1 % 2) + x.1 / 2 ^ 0 % 2 = x.1 := by decide +kernel
/-- a byte, as the field of its bits -/
theorem field_byte (s : List UInt8) (k : Nat) : fieldN s (8 * k) 8 = (s.getD k 0).toNat := by
  have hx : (s.getD k 0).toNat < 256 := UInt8.toNat_lt _
  have e : ∀ j, j < 8 → bitN s (8 * k + j) = (s.getD k 0).toNat / 2 ^ (7 - j) % 2 := fun j hj => by
    unfold bitN
    rw [show (8 * k + j) / 8 = k by omega, show (8 * k + j) % 8 = j by omega]
  simp only [fieldN]
  rw [e 0 (by omega), e 1 (by omega), e 2 (by omega), e 3 (by omega), e 4 (by omega), e 5 (by omega), e 6 (by omega), e 7 (by omega)]
  exact byte_bits ⟨_, hx⟩
theorem WExt.byte {w w' : List UInt8 × Nat} (h : WExt w w') {k : Nat} (hk : 8 * k + 8 ≤ wl w) : w'.1.getD k 0 = w.1.getD k 0 := by
  have := h.field (a := 8 * k) (n := 8) hk
  rw [field_byte, field_byte] at this
  exact UInt8.toNat_inj.1 this
/-- the bytes of a writer that are full -/
theorem WExt.bytes {s t : List UInt8} {w' : List UInt8 × Nat} (h : WExt (s ++ t, 0) w') : s.length + t.length ≤ w'.1.length ∧ (w'.1.drop s.length).take t.length = t := by
  have hl : wl (s ++ t, 0) = 8 * (s.length + t.length) := by simp [wl]
  have hle : s.length + t.length ≤ w'.1.length := by have := h.1; have := wl_le (w := w'); omega
  refine ⟨hle, ?_⟩
  apply List.ext_getElem
  · rw [List.length_take, List.length_drop]; omega
  · intro i h1 h2
    have hb := h.byte (k := s.length + i) (by rw [hl]; omega)
    rw [List.getElem_take, List.getElem_drop]
    simp only [List.getD] at hb
    rw [List.getElem?_eq_getElem (by omega), List.getElem?_append_right (by omega), Nat.add_sub_cancel_left, List.getElem?_eq_getElem h2] at hb
    exact hb
theorem ok_zero (s : List UInt8) : WOk (s, 0) := ⟨Nat.zero_le _, fun h => absurd rfl h⟩
end Go.AI
set_option linter.unusedVariables false
set_option linter.unusedSimpArgs false
set_option maxRecDepth 100000
namespace Go.AI
open Go Go.Proofs

abbrev Wt := List UInt8 × Nat
end Go.AI
set_option linter.unusedVariables false
set_option linter.unusedSimpArgs false
set_option maxRecDepth 100000
namespace Go.AI
open Go Go.Proofs

/-- the number of bytes, the lowest first -/
def littleN : List UInt8 → Nat
  | [] => 0
  | b :: l => b.toNat + 256 * littleN l
def littleF (s : List UInt8) (a n : Int) : Int × List UInt8 × Int × Int :=
  if n < 1 ∨ n > 4 then (0, [], 0, 1) else (((littleN (bytesF s a n).1 : Nat) : Int), (bytesF s a n).2)

end Go.AI
set_option linter.unusedVariables false
set_option linter.unusedSimpArgs false
set_option maxRecDepth 100000
namespace Go.AI
open Go Go.Proofs

end Go.AI
