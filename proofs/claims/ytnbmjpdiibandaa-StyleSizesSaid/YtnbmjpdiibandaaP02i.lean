/- What is written is read back: bits behind a writer. -/
import Derived.Test.YtnbmjpdiibandaaP02hB
set_option linter.unusedVariables false
set_option linter.unusedSimpArgs false
set_option maxRecDepth 100000
namespace Go.AI
open Go Go.Proofs

/-- how many bits a writer has -/
def wl (w : List UInt8 × Nat) : Nat := 8 * w.1.length - w.2
/-- a writer's bits are another's first ones -/
def WExt (w w' : List UInt8 × Nat) : Prop := wl w ≤ wl w' ∧ ∀ i, i < wl w → bitN w'.1 i = bitN w.1 i
theorem WExt.refl (w : List UInt8 × Nat) : WExt w w := ⟨Nat.le_refl _, fun _ _ => rfl⟩
theorem WExt.trans {a b c : List UInt8 × Nat} (h : WExt a b) (k : WExt b c) : WExt a c :=
  ⟨Nat.le_trans h.1 k.1, fun i hi => (k.2 i (Nat.lt_of_lt_of_le hi h.1)).trans (h.2 i hi)⟩
theorem fieldN_congr {s t : List UInt8} {a : Nat} : ∀ n, (∀ i, i < n → bitN s (a + i) = bitN t (a + i)) → fieldN s a n = fieldN t a n
  | 0, _ => rfl
  | n + 1, h => by simp only [fieldN]; rw [fieldN_congr n (fun i hi => h i (by omega)), h n (by omega)]
theorem WExt.field {w w' : List UInt8 × Nat} (h : WExt w w') {a n : Nat} (hl : a + n ≤ wl w) : fieldN w'.1 a n = fieldN w.1 a n :=
  fieldN_congr n fun i hi => h.2 _ (by omega)

theorem bitN_append {s t : List UInt8} {i : Nat} (h : i < 8 * s.length) : bitN (s ++ t) i = bitN s i := by
  unfold bitN
  have e : (s ++ t).getD (i / 8) 0 = s.getD (i / 8) 0 := by
    simp only [List.getD]
    rw [List.getElem?_append_left (by omega)]
  rw [e]
theorem wl_le {w : List UInt8 × Nat} : wl w ≤ 8 * w.1.length := Nat.sub_le _ _
theorem WOk.len {w : List UInt8 × Nat} (h : WOk w) : wl w + w.2 = 8 * w.1.length ∧ w.2 ≤ 7 := by
  unfold wl
  refine ⟨?_, h.1⟩
  by_cases h0 : w.2 = 0
  · omega
  · have := List.length_pos_iff.2 (h.2 h0).1
    have := h.1
    omega
theorem put1_ext {s : List UInt8} {f : Nat} (h : WOk (s, f)) {b : Nat} (hb : b < 2) : WExt (s, f) (put1 s f b) ∧ wl (put1 s f b) = wl (s, f) + 1 ∧ bitN (put1 s f b).1 (wl (s, f)) = b := by
  unfold put1
  by_cases h0 : f = 0
  · subst h0
    rw [if_pos rfl]
    have e1 : wl (s, 0) = 8 * s.length := by simp [wl]
    have e2 : wl (s ++ [UInt8.ofNat (128 * b)], 7) = 8 * s.length + 1 := by simp [wl]; omega
    refine ⟨⟨by rw [e1, e2]; omega, fun i hi => ?_⟩, by rw [e1, e2], ?_⟩
    · rw [e1] at hi
      exact bitN_append hi
    · rw [e1]
      unfold bitN
      have : (s ++ [UInt8.ofNat (128 * b)]).getD (8 * s.length / 8) 0 = UInt8.ofNat (128 * b) := by
        rw [show 8 * s.length / 8 = s.length by omega]; simp [List.getD]
      rw [this, byte_nat _ (by omega), show 7 - 8 * s.length % 8 = 7 by omega]
      omega
  · rw [if_neg h0]
    obtain ⟨h1, h2⟩ := h
    obtain ⟨h3, h4⟩ := h2 h0
    have h1 : f ≤ 7 := h1
    have h3 : s ≠ [] := h3
    have h4 : (s.getD (s.length - 1) 0).toNat % 2 ^ f = 0 := h4
    have hx : (s.getD (s.length - 1) 0).toNat < 256 := UInt8.toNat_lt _
    have hsl : 0 < s.length := List.length_pos_iff.2 h3
    obtain ⟨f, rfl⟩ : ∃ g, f = g + 1 := ⟨f - 1, by omega⟩
    rw [Nat.add_sub_cancel]
    have hle := free_le (by omega) hx h4 hb
    obtain ⟨x, hxe⟩ : ∃ x, x = (s.getD (s.length - 1) 0).toNat := ⟨_, rfl⟩
    rw [← hxe] at hx h4 hle ⊢
    have e1 : wl (s, f + 1) = 8 * (s.length - 1) + (7 - f) := by simp only [wl]; omega
    have e2 : wl (s.set (s.length - 1) (UInt8.ofNat (x + b * 2 ^ f)), f) = 8 * (s.length - 1) + (8 - f) := by simp only [wl, List.length_set]; omega
    have hpos : 0 < 2 ^ f := Nat.pow_pos (by decide)
    have hp : 2 ^ (f + 1) = 2 ^ f * 2 := by rw [Nat.pow_succ]
    obtain ⟨c, hc⟩ : ∃ c, x = 2 ^ (f + 1) * c := ⟨x / 2 ^ (f + 1), by have := Nat.div_add_mod x (2 ^ (f + 1)); omega⟩
    have hd1 : (x + b * 2 ^ f) / 2 ^ f = 2 * c + b := by
      rw [hc, hp, Nat.mul_assoc, Nat.mul_comm b, ← Nat.mul_add, Nat.mul_div_cancel_left _ hpos]
    refine ⟨⟨by rw [e1, e2]; omega, fun i hi => ?_⟩, by rw [e1, e2]; omega, ?_⟩
    · rw [e1] at hi
      unfold bitN
      by_cases hk : i / 8 = s.length - 1
      · rw [hk, set_last s h3, byte_nat _ hle.1, ← hxe]
        -- higher bits of the last byte
        have hs : ∃ g, 7 - i % 8 = f + (1 + g) := ⟨7 - i % 8 - f - 1, by omega⟩
        obtain ⟨g, hg⟩ := hs
        rw [hg, Nat.pow_add, ← Nat.div_div_eq_div_mul, ← Nat.div_div_eq_div_mul, hd1]
        have hd2 : x / 2 ^ f = 2 * c := by rw [hc, hp, Nat.mul_assoc, Nat.mul_div_cancel_left _ hpos]
        rw [hd2, Nat.pow_add, ← Nat.div_div_eq_div_mul, ← Nat.div_div_eq_div_mul]
        congr 2
        omega
      · have : (s.set (s.length - 1) (UInt8.ofNat (x + b * 2 ^ f))).getD (i / 8) 0 = s.getD (i / 8) 0 := by
          simp only [List.getD]
          rw [List.getElem?_set_ne (by omega)]
        rw [this]
    · rw [e1]
      unfold bitN
      rw [show (8 * (s.length - 1) + (7 - f)) / 8 = s.length - 1 by omega, set_last s h3, byte_nat _ hle.1, show 7 - (8 * (s.length - 1) + (7 - f)) % 8 = f by omega, hd1]
      omega
theorem putN_ext (v : Nat) : ∀ (n : Nat) (w : List UInt8 × Nat), WOk w → WOk (putN v n w) ∧ WExt w (putN v n w) ∧ wl (putN v n w) = wl w + n ∧ fieldN (putN v n w).1 (wl w) n = v % 2 ^ n ∧ (putN v n w).1.length ≤ w.1.length + n
  | 0, w, h => ⟨h, WExt.refl w, rfl, by simp [fieldN]; omega, Nat.le_refl _⟩
  | n + 1, (s, f), h => by
    have hb : v / 2 ^ n % 2 < 2 := Nat.mod_lt _ (by decide)
    obtain ⟨a1, a2⟩ := put1_ok h hb
    obtain ⟨b1, b2, b3⟩ := put1_ext h hb
    obtain ⟨c1, c2, c3, c4, c5⟩ := putN_ext v n (put1 s f (v / 2 ^ n % 2)) a1
    simp only [putN]
    refine ⟨c1, b1.trans c2, by rw [c3, b2]; omega, ?_, Nat.le_trans c5 (by omega)⟩
    rw [Nat.add_comm n 1, fieldN_add, ← b2, c4]
    have e : fieldN (putN v n (put1 s f (v / 2 ^ n % 2))).1 (wl (s, f)) 1 = v / 2 ^ n % 2 := by
      simp only [fieldN, Nat.mul_zero, Nat.zero_add, Nat.add_zero]
      rw [c2.2 _ (by omega), b3]
    rw [e, Nat.add_comm 1 n, Nat.pow_succ, Nat.mod_mul]
    rw [Nat.mul_comm (2 ^ n)]; omega
theorem freeN_same {s : List UInt8} {f : Nat} (h : WOk (s, f)) : freeN s f = f := by
  unfold freeN
  split
  · rename_i hc
    by_cases h0 : f = 0
    · exact h0.symm
    · obtain ⟨h3, h4⟩ := h.2 h0
      have := h.1
      rcases hc with hc | hc | hc | hc
      · omega
      · have : f ≤ 7 := this
        omega
      · exact absurd hc h3
      · rw [Int.toNat_natCast] at hc; exact absurd h4 hc
  · exact Int.toNat_natCast f

theorem byte_bits : ∀ x : Fin 256, 2 * (2 * (2 * (2 * (2 * (2 * (2 * (2 * 0 + x.1 / 2 ^ 7 % 2) + x.1 / 2 ^ 6 % 2) + x.1 / 2 ^ 5 % 2) + x.1 / 2 ^ 4 % 2) + x.1 / 2 ^ 3 % 2) + x.1 / 2 ^ 2 % 2) + x.1 / 2 ^ 1 % 2) + x.1 / 2 ^ 0 % 2 = x.1 := by decide +kernel
/-- a byte, as the field of its bits -/
theorem field_byte (s : List UInt8) (k : Nat) : fieldN s (8 * k) 8 = (s.getD k 0).toNat := by
  have hx : (s.getD k 0).toNat < 256 := UInt8.toNat_lt _
  have e : ∀ j, j < 8 → bitN s (8 * k + j) = (s.getD k 0).toNat / 2 ^ (7 - j) % 2 := fun j hj => by
    unfold bitN
    rw [show (8 * k + j) / 8 = k by omega, show (8 * k + j) % 8 = j by omega]
  simp only [fieldN]
  rw [e 0 (by omega), e 1 (by omega), e 2 (by omega), e 3 (by omega), e 4 (by omega), e 5 (by omega), e 6 (by omega), e 7 (by omega)]
  exact byte_bits ⟨_, hx⟩
theorem WExt.byte {w w' : List UInt8 × Nat} (h : WExt w w') {k : Nat} (hk : 8 * k + 8 ≤ wl w) : w'.1.getD k 0 = w.1.getD k 0 := by
  have := h.field (a := 8 * k) (n := 8) hk
  rw [field_byte, field_byte] at this
  exact UInt8.toNat_inj.1 this
/-- the bytes of a writer that are full -/
theorem WExt.bytes {s t : List UInt8} {w' : List UInt8 × Nat} (h : WExt (s ++ t, 0) w') : s.length + t.length ≤ w'.1.length ∧ (w'.1.drop s.length).take t.length = t := by
  have hl : wl (s ++ t, 0) = 8 * (s.length + t.length) := by simp [wl]
  have hle : s.length + t.length ≤ w'.1.length := by have := h.1; have := wl_le (w := w'); omega
  refine ⟨hle, ?_⟩
  apply List.ext_getElem
  · rw [List.length_take, List.length_drop]; omega
  · intro i h1 h2
    have hb := h.byte (k := s.length + i) (by rw [hl]; omega)
    rw [List.getElem_take, List.getElem_drop]
    simp only [List.getD] at hb
    rw [List.getElem?_eq_getElem (by omega), List.getElem?_append_right (by omega), Nat.add_sub_cancel_left, List.getElem?_eq_getElem h2] at hb
    exact hb
theorem append_ext (s t : List UInt8) (f : Nat) : WExt (s, f) (s ++ t, 0) := by
  refine ⟨by simp [wl]; omega, fun i hi => bitN_append ?_⟩
  have := wl_le (w := (s, f))
  exact Nat.lt_of_lt_of_le hi this
theorem align_ext (s : List UInt8) (f : Nat) : WExt (s, f) (s, 0) := by
  have := append_ext s [] f
  rwa [List.append_nil] at this
theorem ok_zero (s : List UInt8) : WOk (s, 0) := ⟨Nat.zero_le _, fun h => absurd rfl h⟩
end Go.AI
