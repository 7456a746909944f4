/- What is written behind a writer: plain fields, and fields with a sign. -/
import Derived.Test.YtnbmjpdiibandaaP02e
set_option linter.unusedVariables false
set_option linter.unusedSimpArgs false
set_option maxRecDepth 100000
namespace Go.AI
open Go Go.Proofs

theorem or_u8 {x f b : Nat} (hf : f ≤ 6) (hx : x < 256) (hm : x % 2 ^ (f + 1) = 0) (hb : b < 2) : bitsOp .or .u8 (x : Int) ((b * 2 ^ f : Nat) : Int) = ((x + b * 2 ^ f : Nat) : Int) := by
  have hle := free_le hf hx hm hb
  have h2 : (2 : Nat) ^ IntKind.u8.bits = 256 := rfl
  rw [orN (by rw [h2]; exact hx) (by rw [h2]; omega), wrapU8]
  have hc : x = 2 ^ (f + 1) * (x / 2 ^ (f + 1)) := by have := Nat.div_add_mod x (2 ^ (f + 1)); omega
  have hlt : b * 2 ^ f < 2 ^ (f + 1) := by
    have hpos : 0 < 2 ^ f := Nat.pow_pos (by decide)
    have hb' : b * 2 ^ f ≤ 1 * 2 ^ f := Nat.mul_le_mul_right _ (by omega)
    rw [Nat.pow_succ']; omega
  have e : x ||| b * 2 ^ f = x + b * 2 ^ f := by
    conv => lhs; rw [hc]
    rw [← Nat.two_pow_add_eq_or_of_lt hlt, ← hc]
  rw [e]
  have := hle.1
  omega
theorem shl_u8 {b f : Nat} (hb : b < 2) (hf : f ≤ 7) : shl .u8 (b : Int) (f : Int) = ((b * 2 ^ f : Nat) : Int) := by
  rw [shl_eq (by show (f : Int) ≤ (8 : Nat); omega), Int.toNat_natCast]
  have h : 2 ^ f ≤ 2 ^ 7 := Nat.pow_le_pow_right (by decide) hf
  have h : 2 ^ f ≤ 128 := h
  have hb' : b * 2 ^ f ≤ 1 * 2 ^ f := Nat.mul_le_mul_right _ (by omega)
  have e : (b : Int) * 2 ^ f = ((b * 2 ^ f : Nat) : Int) := by simp
  rw [e, wrapU8' (by omega) (by omega)]

theorem bit_of {v m : Nat} (hv : v < 9223372036854775808) (hm : m ≤ 62) : IntKind.wrap .u8 (bitsOp .and .i64 (shr .i64 (v : Int) (m : Int)) 1) = ((v / 2 ^ m % 2 : Nat) : Int) := by
  have h1 : v / 2 ^ m ≤ v := Nat.div_le_self _ _
  rw [shrN (by show m ≤ 64; omega), and1_64 (by omega), wrapU8' (by omega) (by omega)]

theorem putPlain_loop {v : Nat} (hv : v < 9223372036854775808) (o1 : List UInt8) (o2 : List UInt8) (o3 : Int) : ∀ (m : Nat) (s : List UInt8) (f : Nat), m ≤ 62 → WOk (s, f) → s.length + m ≤ 1000000000 →
    Ans (fun k => run k f_bits_PutPlain [] at_bits_PutPlain_L0 (S_bits_PutPlain_L0 v ((m : Int) - 1) (ofBytes s) o1 f o2 o3)) ([.s (putN v m (s, f)).1, .i (((putN v m (s, f)).2 : Nat) : Int), .i 0], [])
  | 0, s, f, _, _, _ => by
    refine Ans.succ (fun k => u_bits_PutPlain_L0 k ..) ?_
    refine .no (by decide) (.pure' ?_)
    rw [toBytes_of]; rfl
  | m + 1, s, f, hm, hw, hl => by
    refine Ans.succ (fun k => u_bits_PutPlain_L0 k ..) ?_
    have e0 : (((m + 1 : Nat) : Int) - 1) = (m : Int) := by omega
    have e1 : IntKind.wrap .i64 ((m : Int) - 1) = (m : Int) - 1 := wrap64 (by omega) (by omega)
    have hb : v / 2 ^ m % 2 < 2 := Nat.mod_lt _ (by decide)
    rw [e0, e1, bit_of hv (by omega)]
    obtain ⟨b, hbe⟩ : ∃ b, b = v / 2 ^ m % 2 := ⟨_, rfl⟩
    have ih := putPlain_loop hv o1 o2 o3 m (put1 s f b).1 (put1 s f b).2 (by omega) (put1_ok hw (by omega)).1 (by have := (put1_ok hw (b := b) (by omega)).2; omega)
    have hput : putN v (m + 1) (s, f) = putN v m ((put1 s f b).1, (put1 s f b).2) := by simp only [putN, ← hbe]
    rw [hput, ← hbe]
    rw [← hbe] at hb
    refine .yes (by simp) (.ite (fun h => ?_) (fun h => ?_))
    · have h : f = 0 := by simpa using h
      subst h
      have ea : ofBytes s ++ [[PV.i 0]] = ofBytes (s ++ [0]) := by rw [ofBytes_append]; rfl
      have el : (ofBytes (s ++ [0])).length = s.length + 1 := by rw [ofBytes_length]; simp
      have e2 : IntKind.wrap .i64 (((s.length + 1 : Nat) : Int) - 1) = ((s.length : Nat) : Int) := by rw [wrap64 (by omega) (by omega)]; omega
      have eg : elemAt (ofBytes (s ++ [0])) ((s.length : Nat) : Int) = [.i ((0 : Nat) : Int)] := by
        rw [elemAt_nat, ofBytes_get (by simp)]
        simp [List.getD]
      have eo : bitsOp .or .u8 ((0 : Nat) : Int) (shl .u8 (b : Int) 7) = (((UInt8.ofNat (128 * b)).toNat : Nat) : Int) := by
        have h2 : (2 : Nat) ^ IntKind.u8.bits = 256 := rfl
        rw [show (7 : Int) = ((7 : Nat) : Int) from rfl, shl_u8 hb (by omega), orN (by rw [h2]; omega) (by rw [h2]; omega), Nat.zero_or, wrapU8' (by omega) (by omega), byte_nat _ (by omega)]
        omega
      have hi : inB ((s.length : Nat) : Int) (s.length + 1) = true := by unfold inB; simp; omega
      have hset : (ofBytes (s ++ [0])).set s.length [.i (((UInt8.ofNat (128 * b)).toNat : Nat) : Int)] = ofBytes (put1 s 0 b).1 := by
        rw [ofBytes_set]
        unfold put1
        rw [if_pos rfl]
        congr 1
        simp
      rw [ea, el, e2, eg]
      simp only [List.getD_cons_zero, PV.toI, Int.toNat_natCast]
      rw [eo]
      refine .yes (by rw [ofBytes_length]; simp; omega) (.yes hi (.yes hi (.yes (by simp) (.yes hi (.yes hi ?_)))))
      rw [show putAt [PV.i ((0 : Nat) : Int)] 0 [PV.i (((UInt8.ofNat (128 * b)).toNat : Nat) : Int)] = [PV.i (((UInt8.ofNat (128 * b)).toNat : Nat) : Int)] from rfl, hset]
      exact ih
    · have h : f ≠ 0 := by simpa using h
      obtain ⟨h1, h2⟩ := hw
      obtain ⟨h3, h4⟩ := h2 h
      have h1 : f ≤ 7 := h1
      have h3 : s ≠ [] := h3
      have h4 : (s.getD (s.length - 1) 0).toNat % 2 ^ f = 0 := h4
      have hx : (s.getD (s.length - 1) 0).toNat < 256 := UInt8.toNat_lt _
      have hsl : 0 < s.length := List.length_pos_iff.2 h3
      obtain ⟨f, rfl⟩ : ∃ g, f = g + 1 := ⟨f - 1, by omega⟩
      have hle := free_le (by omega) hx h4 hb
      have el : (ofBytes s).length = s.length := ofBytes_length s
      have e2 : IntKind.wrap .i64 (((s.length : Nat) : Int) - 1) = ((s.length - 1 : Nat) : Int) := by rw [wrap64 (by omega) (by omega)]; omega
      have e3 : IntKind.wrap .i64 (((f + 1 : Nat) : Int) - 1) = ((f : Nat) : Int) := by rw [wrap64 (by omega) (by omega)]; omega
      have eg : elemAt (ofBytes s) ((s.length - 1 : Nat) : Int) = [.i (((s.getD (s.length - 1) 0).toNat : Nat) : Int)] := by
        rw [elemAt_nat, ofBytes_get (by omega)]
      have eo : bitsOp .or .u8 (((s.getD (s.length - 1) 0).toNat : Nat) : Int) (shl .u8 (b : Int) ((f : Nat) : Int)) = (((UInt8.ofNat ((s.getD (s.length - 1) 0).toNat + b * 2 ^ f)).toNat : Nat) : Int) := by
        rw [shl_u8 hb (by omega), or_u8 (by omega) hx h4 hb, byte_nat _ hle.1]
      have hi : inB ((s.length - 1 : Nat) : Int) s.length = true := by unfold inB; simp; omega
      have hset : (ofBytes s).set (s.length - 1) [.i (((UInt8.ofNat ((s.getD (s.length - 1) 0).toNat + b * 2 ^ f)).toNat : Nat) : Int)] = ofBytes (put1 s (f + 1) b).1 := by
        rw [ofBytes_set]
        unfold put1
        rw [if_neg (by omega)]
        rfl
      have hf2 : (put1 s (f + 1) b).2 = f := by unfold put1; rw [if_neg (by omega)]; rfl
      rw [el, e2, e3, eg]
      simp only [List.getD_cons_zero, PV.toI, Int.toNat_natCast]
      rw [eo]
      refine .yes hi (.yes hi (.yes (by simp) (.yes (by simp) (.yes hi (.yes hi ?_)))))
      rw [show putAt [PV.i (((s.getD (s.length - 1) 0).toNat : Nat) : Int)] 0 [PV.i (((UInt8.ofNat ((s.getD (s.length - 1) 0).toNat + b * 2 ^ f)).toNat : Nat) : Int)] = [PV.i (((UInt8.ofNat ((s.getD (s.length - 1) 0).toNat + b * 2 ^ f)).toNat : Nat) : Int)] from rfl, hset]
      rw [hf2] at ih
      exact ih

/-- a plain field behind -/
def putPlainF (s : List UInt8) (f v n : Int) : List UInt8 × Int × Int :=
  if n < 0 ∨ n > 31 ∨ v < 0 ∨ v ≥ 2 ^ n.toNat then ([], 0, 1) else ((putN v.toNat n.toNat (s, freeN s f)).1, (((putN v.toNat n.toNat (s, freeN s f)).2 : Nat) : Int), 0)
def encW (r : List UInt8 × Int × Int) : Res := ([.s r.1, .i r.2.1, .i r.2.2], [])

theorem shr_zero {v n : Nat} (hn : n ≤ 31) : (shr .i64 (v : Int) (n : Int) != 0) = decide (v ≥ 2 ^ n) := by
  rw [shrN (by show n ≤ 64; omega)]
  have hpos : 0 < 2 ^ n := Nat.pow_pos (by decide)
  by_cases h : v ≥ 2 ^ n
  · have : 0 < v / 2 ^ n := Nat.div_pos h hpos
    rw [decide_eq_true h]
    simp only [bne_iff_ne, ne_eq]
    omega
  · have : v / 2 ^ n = 0 := Nat.div_eq_of_lt (by omega)
    rw [decide_eq_false h, this]; rfl
theorem wrapU8_sub {f : Nat} (h : f ≤ 7) : IntKind.wrap .u8 (shl .u8 1 (f : Int) - 1) = ((2 ^ f - 1 : Nat) : Int) := by
  have := shl_u8 (b := 1) (f := f) (by omega) h
  rw [show ((1 : Nat) : Int) = 1 from rfl, Nat.one_mul] at this
  rw [this, wrapU8]
  have h1 : 2 ^ f ≤ 2 ^ 7 := Nat.pow_le_pow_right (by decide) h
  have h1 : 2 ^ f ≤ 128 := h1
  have hpos : 0 < 2 ^ f := Nat.pow_pos (by decide)
  omega
theorem and_mask {x f : Nat} (hx : x < 256) (hf : f ≤ 7) : bitsOp .and .u8 (x : Int) ((2 ^ f - 1 : Nat) : Int) = ((x % 2 ^ f : Nat) : Int) := by
  have h2 : (2 : Nat) ^ IntKind.u8.bits = 256 := rfl
  have h1 : 2 ^ f ≤ 2 ^ 7 := Nat.pow_le_pow_right (by decide) hf
  have h1 : 2 ^ f ≤ 128 := h1
  have hm := Nat.mod_le x (2 ^ f)
  rw [andN (by rw [h2]; exact hx) (by rw [h2]; omega), Nat.and_two_pow_sub_one_eq_mod, wrapU8' (by omega) (by omega)]
theorem putPlain_ans {s : List UInt8} (hs : s.length ≤ 500000000) (f : Int) (v n : Int) (hv : v ≤ 9223372036854775807) : Ans (fun k => call k f_bits_PutPlain [.s s, .i f, .i v, .i n] []) (encW (putPlainF s f v n)) := by
  refine Ans.succ (fun k => u_bits_PutPlain k s f v n) ?_
  by_cases hg : n < 0 ∨ n > 31 ∨ v < 0
  · refine .bind (x := [.b true]) ?_ (.yes rfl (.pure' ?_))
    · refine .ite (fun h => .pure _) (fun h => .ite (fun h2 => .pure _) (fun h2 => .ite (fun h3 => .pure _) (fun h3 => ?_)))
      simp only [decide_eq_false_iff_not] at h h2 h3
      omega
    · unfold putPlainF
      rw [if_pos (by rcases hg with h | h | h <;> simp [h])]; rfl
  · simp only [not_or] at hg
    obtain ⟨g1, g2, g3⟩ := hg
    obtain ⟨n, rfl⟩ := Int.eq_ofNat_of_zero_le (by omega : 0 ≤ n)
    obtain ⟨v, rfl⟩ := Int.eq_ofNat_of_zero_le (by omega : 0 ≤ v)
    refine .bind (x := [.b (decide (v ≥ 2 ^ n))]) (.no (by simp) (.no (by simp; omega) (.no (by simp) (.yes (by simp) (.pure' (by rw [shr_zero (by omega)])))))) ?_
    simp only [List.getD_cons_zero, PV.toB]
    refine .ite (fun h => .pure' ?_) (fun h => ?_)
    · have h : v ≥ 2 ^ n := by simpa using h
      unfold putPlainF
      rw [if_pos (.inr (.inr (.inr (by rw [Int.toNat_natCast]; exact_mod_cast h))))]; rfl
    · have h : ¬ v ≥ 2 ^ n := by simpa using h
      unfold putPlainF
      rw [if_neg (by
        rintro (h | h | h | h)
        · omega
        · omega
        · omega
        · rw [Int.toNat_natCast] at h
          have h' : (2 : Int) ^ n ≤ (v : Int) := h
          exact absurd (by exact_mod_cast h') ‹¬ v ≥ 2 ^ n›)]
      rw [Int.toNat_natCast, Int.toNat_natCast]
      have e1 : IntKind.wrap .i64 ((n : Int) - 1) = (n : Int) - 1 := wrap64 (by omega) (by omega)
      have fin : ∀ g : Nat, g = freeN s f → Ans (fun k => run k f_bits_PutPlain [] at_bits_PutPlain_L0 (S_bits_PutPlain_L0 v (IntKind.wrap .i64 ((n : Int) - 1)) (ofBytes s) s g [] 0)) (encW ((putN v n (s, freeN s f)).1, (((putN v n (s, freeN s f)).2 : Nat) : Int), 0)) := by
        rintro g rfl
        rw [e1]
        exact putPlain_loop (by omega) s [] 0 n s (freeN s f) (by omega) (freeN_ok s f) (by omega)
      rw [ofBytes_length]
      by_cases hf : f < 0 ∨ f > 7 ∨ s = []
      · refine .bind (x := [.b true]) ?_ (.yes rfl (fin 0 ?_))
        · refine .ite (fun h => .pure _) (fun h => .ite (fun h2 => .pure _) (fun h2 => .ite (fun h3 => .pure _) (fun h3 => ?_)))
          simp only [decide_eq_false_iff_not] at h h2
          have h3 : s ≠ [] := by
            rintro rfl
            simp at h3
          rcases hf with hf | hf | hf
          · omega
          · omega
          · exact absurd hf h3
        · unfold freeN
          rw [if_pos (by rcases hf with h | h | h <;> simp [h])]
      · simp only [not_or] at hf
        obtain ⟨f1, f2, f3⟩ := hf
        have hsl : 0 < s.length := List.length_pos_iff.2 f3
        obtain ⟨f, rfl⟩ := Int.eq_ofNat_of_zero_le (by omega : 0 ≤ f)
        have e2 : IntKind.wrap .i64 (((s.length : Nat) : Int) - 1) = ((s.length - 1 : Nat) : Int) := by rw [wrap64 (by omega) (by omega)]; omega
        have hi : inB ((s.length - 1 : Nat) : Int) s.length = true := by unfold inB; simp; omega
        have hx : (s.getD (s.length - 1) 0).toNat < 256 := UInt8.toNat_lt _
        have eg : elemAt (ofBytes s) ((s.length - 1 : Nat) : Int) = [.i (((s.getD (s.length - 1) 0).toNat : Nat) : Int)] := by
          rw [elemAt_nat, ofBytes_get (by omega)]
        rw [e2, eg]
        refine .bind (x := [.b (decide ((s.getD (s.length - 1) 0).toNat % 2 ^ f ≠ 0))]) (.no (by simp) (.no (by simp; omega) (.no (by simp; exact f3) (.yes hi (.yes hi (.yes (by simp) (.pure' ?_))))))) ?_
        · simp only [List.getD_cons_zero, PV.toI]
          rw [wrapU8_sub (by omega), and_mask hx (by omega)]
          congr 2
          by_cases hz : (s.getD (s.length - 1) 0).toNat % 2 ^ f = 0
          · rw [hz]; simp
          · rw [decide_eq_true hz]
            simp only [bne_iff_ne, ne_eq]
            omega
        · simp only [List.getD_cons_zero, PV.toB]
          refine .ite (fun h => fin 0 ?_) (fun h => fin f ?_)
          · have h : (s.getD (s.length - 1) 0).toNat % 2 ^ f ≠ 0 := by simpa using h
            unfold freeN
            rw [if_pos (.inr (.inr (.inr (by rw [Int.toNat_natCast]; exact h))))]
          · have h : (s.getD (s.length - 1) 0).toNat % 2 ^ f = 0 := by simpa using h
            unfold freeN
            rw [if_neg (by
              rintro (h | h | h | h)
              · omega
              · omega
              · exact f3 h
              · rw [Int.toNat_natCast] at h; exact h ‹_›)]
            rw [Int.toNat_natCast]
end Go.AI
