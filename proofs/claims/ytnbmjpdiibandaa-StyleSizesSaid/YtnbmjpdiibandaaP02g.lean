/- What is written behind a writer, by the document; fields with a sign; numbers of bytes. -/
import Derived.Test.YtnbmjpdiibandaaP02f
set_option linter.unusedVariables false
set_option linter.unusedSimpArgs false
set_option maxRecDepth 100000
namespace Go.AI
open Go Go.Proofs

theorem wrapNat {n : Nat} (h : n ≤ 9223372036854775807) : IntKind.wrap .i64 (n : Int) = (n : Int) := wrap64 (by omega) (by omega)
theorem toBytes_one (n : Nat) : toBytes (List.set [[PV.i 0]] 0 [PV.i ((n : Nat) : Int)]) = [UInt8.ofNat n] := by
  simp [toBytes, PV.toI]
theorem take_set (s : List UInt8) (h : s ≠ []) (b : UInt8) : s.take (s.length - 1) ++ [b] = s.set (s.length - 1) b := by
  have hl : 0 < s.length := List.length_pos_iff.2 h
  rw [List.set_eq_take_append_cons_drop, if_pos (by omega)]
  congr 2
  rw [List.drop_of_length_le (by omega)]
theorem cutL_zero {α : Type} (n : Nat) (s : List α) : cutL 0 (n : Int) s = s.take n := by
  unfold cutL; rw [Int.toNat_natCast]; rfl

theorem rput_ans {s : List UInt8} {f b : Nat} (hs : s.length ≤ 1000000000) (hw : WOk (s, f)) (hb : b < 2) : Ans (fun k => call k f_celluloidref02_put [.s s, .i (f : Int), .i (b : Int)] []) ([.s (put1 s f b).1, .i (((put1 s f b).2 : Nat) : Int)], []) := by
  refine Ans.succ (fun k => u_celluloidref02_put k s f b) ?_
  refine .ite (fun h => ?_) (fun h => ?_)
  · have h : f = 0 := by simpa using h
    subst h
    have e : IntKind.wrap .u8 (IntKind.wrap .i64 (128 * (b : Int))) = ((128 * b : Nat) : Int) := by rw [wrap64 (by omega) (by omega), wrapU8' (by omega) (by omega)]; rfl
    rw [e, toBytes_one]
    unfold put1
    rw [if_pos rfl]
    exact .yes (by simp; omega) (.pure _)
  · have h : f ≠ 0 := by simpa using h
    obtain ⟨h1, h2⟩ := hw
    obtain ⟨h3, h4⟩ := h2 h
    have h1 : f ≤ 7 := h1
    have h3 : s ≠ [] := h3
    have h4 : (s.getD (s.length - 1) 0).toNat % 2 ^ f = 0 := h4
    have hx : (s.getD (s.length - 1) 0).toNat < 256 := UInt8.toNat_lt _
    have hsl : 0 < s.length := List.length_pos_iff.2 h3
    obtain ⟨f, rfl⟩ : ∃ g, f = g + 1 := ⟨f - 1, by omega⟩
    have hle := free_le (by omega) hx h4 hb
    have e2 : IntKind.wrap .i64 (((s.length : Nat) : Int) - 1) = ((s.length - 1 : Nat) : Int) := by rw [wrap64 (by omega) (by omega)]; omega
    have e3 : IntKind.wrap .i64 (((f + 1 : Nat) : Int) - 1) = ((f : Nat) : Int) := by rw [wrap64 (by omega) (by omega)]; omega
    have e4 : IntKind.wrap .i64 (bt s ((s.length - 1 : Nat) : Int)) = (((s.getD (s.length - 1) 0).toNat : Nat) : Int) := by unfold bt; rw [Int.toNat_natCast, wrap64 (by omega) (by omega)]
    rw [e2, e3, e4]
    refine .yes (by unfold inB; simp; omega) (.bind (power_ans f (by omega)) ?_)
    have e5 : IntKind.wrap .u8 (IntKind.wrap .i64 ((((s.getD (s.length - 1) 0).toNat : Nat) : Int) + IntKind.wrap .i64 ((b : Int) * ((2 ^ f : Nat) : Int)))) = (((s.getD (s.length - 1) 0).toNat + b * 2 ^ f : Nat) : Int) := by
      have := hle.1
      rw [← Int.natCast_mul, wrap64 (n := ((b * 2 ^ f : Nat) : Int)) (by omega) (by omega), ← Int.natCast_add, wrap64 (by omega) (by omega), wrapU8' (by omega) (by omega)]
    simp only [List.getD_cons_zero, PV.toI]
    rw [e5, toBytes_one, cutL_zero, take_set s h3]
    unfold put1
    rw [if_neg (by omega)]
    exact .yes (by unfold okB; simp) (.yes (by simp; omega) (.pure _))

theorem rputPlain_loop {v : Nat} (hv : v < 9223372036854775808) (o2 : List UInt8) (o3 : Int) : ∀ (m : Nat) (s : List UInt8) (f : Nat), m ≤ 62 → WOk (s, f) → s.length + m ≤ 1000000000 →
    Ans (fun k => run k f_celluloidref02_PutPlain [] at_celluloidref02_PutPlain_L0 (S_celluloidref02_PutPlain_L0 v ((m : Int) - 1) s f o2 o3)) ([.s (putN v m (s, f)).1, .i (((putN v m (s, f)).2 : Nat) : Int), .b true], [])
  | 0, s, f, _, _, _ => by
    refine Ans.succ (fun k => u_celluloidref02_PutPlain_L0 k ..) ?_
    exact .no (by decide) (.pure _)
  | m + 1, s, f, hm, hw, hl => by
    refine Ans.succ (fun k => u_celluloidref02_PutPlain_L0 k ..) ?_
    have e0 : (((m + 1 : Nat) : Int) - 1) = (m : Int) := by omega
    have e1 : IntKind.wrap .i64 ((m : Int) - 1) = (m : Int) - 1 := wrap64 (by omega) (by omega)
    have hb : v / 2 ^ m % 2 < 2 := Nat.mod_lt _ (by decide)
    have hpos : 0 < 2 ^ m := Nat.pow_pos (by decide)
    have hd : v / 2 ^ m ≤ v := Nat.div_le_self _ _
    have ih := rputPlain_loop hv o2 o3 m (put1 s f (v / 2 ^ m % 2)).1 (put1 s f (v / 2 ^ m % 2)).2 (by omega) (put1_ok hw hb).1 (by have := (put1_ok hw hb).2; omega)
    rw [e0, e1]
    refine .yes (by simp) (.bind (power_ans m (by omega)) ?_)
    simp only [List.getD_cons_zero, PV.toI]
    have e2 : Int.tmod (IntKind.wrap .i64 (Int.tdiv (v : Int) ((2 ^ m : Nat) : Int))) 2 = ((v / 2 ^ m % 2 : Nat) : Int) := by
      rw [tdivN, wrapNat (Nat.le_trans hd (by omega)), show (2 : Int) = ((2 : Nat) : Int) from rfl, tmodN]
    rw [e2]
    refine .yes (by simp only [bne_iff_ne, ne_eq]; omega) (.bind (rput_ans (by omega) hw hb) ?_)
    exact ih

def rputPlainF (s : List UInt8) (f v n : Int) : Res := let r := putPlainF s f v n; ([.s r.1, .i r.2.1, .b (decide (r.2.2 = 0))], [])
theorem rputPlain_ans {s : List UInt8} (hs : s.length ≤ 500000000) (f : Int) (v n : Int) (hv : v ≤ 9223372036854775807) : Ans (fun k => call k f_celluloidref02_PutPlain [.s s, .i f, .i v, .i n] []) (rputPlainF s f v n) := by
  refine Ans.succ (fun k => u_celluloidref02_PutPlain k s f v n) ?_
  by_cases hg : n < 0 ∨ n > 31 ∨ v < 0
  · refine .bind (x := [.b true]) ?_ (.yes rfl (.pure' ?_))
    · refine .ite (fun h => .pure _) (fun h => .ite (fun h2 => .pure _) (fun h2 => .ite (fun h3 => .pure _) (fun h3 => ?_)))
      simp only [decide_eq_false_iff_not] at h h2 h3
      omega
    · unfold rputPlainF putPlainF
      rw [if_pos (by rcases hg with h | h | h <;> simp [h])]; rfl
  · simp only [not_or] at hg
    obtain ⟨g1, g2, g3⟩ := hg
    obtain ⟨n, rfl⟩ := Int.eq_ofNat_of_zero_le (by omega : 0 ≤ n)
    obtain ⟨v, rfl⟩ := Int.eq_ofNat_of_zero_le (by omega : 0 ≤ v)
    refine .bind (x := [.b (decide (v ≥ 2 ^ n))]) (.no (by simp) (.no (by simp; omega) (.no (by simp) (.bind (power_ans n (by omega)) (.pure' ?_))))) ?_
    · simp only [List.getD_cons_zero, PV.toI]
      congr 2
      apply decide_eq_decide.2
      constructor
      · intro h; exact_mod_cast h
      · intro h; exact_mod_cast h
    simp only [List.getD_cons_zero, PV.toB]
    refine .ite (fun h => .pure' ?_) (fun h => ?_)
    · have h : v ≥ 2 ^ n := by simpa using h
      unfold rputPlainF putPlainF
      rw [if_pos (.inr (.inr (.inr (by rw [Int.toNat_natCast]; exact_mod_cast h))))]; rfl
    · have h : ¬ v ≥ 2 ^ n := by simpa using h
      unfold rputPlainF putPlainF
      rw [if_neg (by
        rintro (h | h | h | h)
        · omega
        · omega
        · omega
        · rw [Int.toNat_natCast] at h
          have h' : (2 : Int) ^ n ≤ (v : Int) := h
          exact absurd (by exact_mod_cast h') ‹¬ v ≥ 2 ^ n›)]
      rw [Int.toNat_natCast, Int.toNat_natCast]
      have e1 : IntKind.wrap .i64 ((n : Int) - 1) = (n : Int) - 1 := wrap64 (by omega) (by omega)
      have fin : ∀ g : Nat, g = freeN s f → Ans (fun k => run k f_celluloidref02_PutPlain [] at_celluloidref02_PutPlain_L0 (S_celluloidref02_PutPlain_L0 v (IntKind.wrap .i64 ((n : Int) - 1)) s g [] 0)) ([.s (putN v n (s, freeN s f)).1, .i (((putN v n (s, freeN s f)).2 : Nat) : Int), .b true], []) := by
        rintro g rfl
        rw [e1]
        exact rputPlain_loop (by omega) [] 0 n s (freeN s f) (by omega) (freeN_ok s f) (by omega)
      by_cases hf : f < 0 ∨ f > 7 ∨ s = []
      · refine .bind (x := [.b true]) ?_ (.yes rfl (fin 0 ?_))
        · refine .ite (fun h => .pure _) (fun h => .ite (fun h2 => .pure _) (fun h2 => .ite (fun h3 => .pure _) (fun h3 => ?_)))
          simp only [decide_eq_false_iff_not] at h h2
          have h3 : s ≠ [] := by
            rintro rfl
            simp at h3
          rcases hf with hf | hf | hf
          · omega
          · omega
          · exact absurd hf h3
        · unfold freeN
          rw [if_pos (by rcases hf with h | h | h <;> simp [h])]
      · simp only [not_or] at hf
        obtain ⟨f1, f2, f3⟩ := hf
        have hsl : 0 < s.length := List.length_pos_iff.2 f3
        obtain ⟨f, rfl⟩ := Int.eq_ofNat_of_zero_le (by omega : 0 ≤ f)
        have e2 : IntKind.wrap .i64 (((s.length : Nat) : Int) - 1) = ((s.length - 1 : Nat) : Int) := by rw [wrap64 (by omega) (by omega)]; omega
        have hi : inB ((s.length - 1 : Nat) : Int) s.length = true := by unfold inB; simp; omega
        have hx : (s.getD (s.length - 1) 0).toNat < 256 := UInt8.toNat_lt _
        have e4 : IntKind.wrap .i64 (bt s ((s.length - 1 : Nat) : Int)) = (((s.getD (s.length - 1) 0).toNat : Nat) : Int) := by unfold bt; rw [Int.toNat_natCast, wrap64 (by omega) (by omega)]
        have hpos : 0 < 2 ^ f := Nat.pow_pos (by decide)
        rw [e2, e4]
        refine .bind (x := [.b (decide ((s.getD (s.length - 1) 0).toNat % 2 ^ f ≠ 0))]) (.no (by simp) (.no (by simp; omega) (.no (by simp; exact f3) (.yes hi (.bind (power_ans f (by omega)) (.yes (by simp only [List.getD_cons_zero, PV.toI, bne_iff_ne, ne_eq]; omega) (.pure' ?_))))))) ?_
        · simp only [List.getD_cons_zero, PV.toI]
          rw [tmodN]
          congr 2
          by_cases hz : (s.getD (s.length - 1) 0).toNat % 2 ^ f = 0
          · rw [hz]; simp
          · rw [decide_eq_true hz]
            simp only [bne_iff_ne, ne_eq]
            omega
        · simp only [List.getD_cons_zero, PV.toB]
          refine .ite (fun h => fin 0 ?_) (fun h => fin f ?_)
          · have h : (s.getD (s.length - 1) 0).toNat % 2 ^ f ≠ 0 := by simpa using h
            unfold freeN
            rw [if_pos (.inr (.inr (.inr (by rw [Int.toNat_natCast]; exact h))))]
          · have h : (s.getD (s.length - 1) 0).toNat % 2 ^ f = 0 := by simpa using h
            unfold freeN
            rw [if_neg (by
              rintro (h | h | h | h)
              · omega
              · omega
              · exact f3 h
              · rw [Int.toNat_natCast] at h; exact h ‹_›)]
            rw [Int.toNat_natCast]

/-- a field with a sign behind -/
def putSignedF (s : List UInt8) (f v n : Int) : List UInt8 × Int × Int :=
  if n < 0 ∨ n > 31 ∨ (widthN v : Int) > n then ([], 0, 1) else putPlainF s f (if v < 0 then v + 2 ^ n.toNat else v) n
theorem width1_ans {v : Int} (hv : I64 v) : Ans (fun k => call k f_bits_Width [.l (List.set [[PV.i 0]] 0 [PV.i v])] []) ([.i ((widthN v : Nat) : Int)], []) := by
  have := width_ans (es := [[PV.i v]]) (by simp) (fun i hi => by
    have : i = 0 := by simpa using hi
    subst this; exact hv)
  have e : widthL [[PV.i v]] [[PV.i v]].length = widthN v := by
    simp [widthL, elI, PV.toI]
  rw [e] at this
  exact this
theorem putSigned_ans {s : List UInt8} (hs : s.length ≤ 500000000) (f : Int) (v n : Int) (hv : I64 v) : Ans (fun k => call k f_bits_PutSigned [.s s, .i f, .i v, .i n] []) (encW (putSignedF s f v n)) := by
  refine Ans.succ (fun k => u_bits_PutSigned k s f v n) ?_
  refine .bind (x := [.b (decide (n < 0 ∨ n > 31 ∨ (widthN v : Int) > n))]) ?_ ?_
  · refine .ite (fun h => .pure' ?_) (fun h => .ite (fun h2 => .pure' ?_) (fun h2 => .bind (width1_ans hv) (.pure' ?_)))
    · simp only [decide_eq_true_eq] at h; simp [h]
    · simp only [decide_eq_true_eq] at h2; simp [h2]
    · simp only [decide_eq_false_iff_not] at h h2
      simp only [List.getD_cons_zero, PV.toI]
      congr 2
      apply decide_eq_decide.2
      constructor
      · intro e; exact .inr (.inr e)
      · rintro (e | e | e)
        · exact absurd e h
        · exact absurd e h2
        · exact e
  · simp only [List.getD_cons_zero, PV.toB]
    unfold putSignedF
    refine .ite (fun h => .pure' ?_) (fun h => ?_)
    · rw [if_pos (of_decide_eq_true h)]; rfl
    · have h := of_decide_eq_false h
      rw [if_neg h]
      simp only [not_or] at h
      obtain ⟨h1, h2, h3⟩ := h
      obtain ⟨n, rfl⟩ := Int.eq_ofNat_of_zero_le (by omega : 0 ≤ n)
      refine .ite (fun hn => ?_) (fun hn => ?_)
      · simp only [decide_eq_true_eq] at hn
        have hp : 2 ^ n ≤ 2147483648 := Nat.pow_le_pow_right (n := 2) (by decide) (by omega : n ≤ 31)
        have e2 : shl .i64 1 (n : Int) = ((2 ^ n : Nat) : Int) := by
          have := shl64 (x := 1) (y := n) (by omega) (by omega)
          rw [Nat.one_mul] at this; exact this
        have := hv.1
        have e3 : v + 2 ^ (n : Int).toNat = v + ((2 ^ n : Nat) : Int) := by rw [Int.toNat_natCast]; simp
        have key : ∀ p : Nat, p ≤ 2147483648 → IntKind.wrap .i64 (v + (p : Int)) = v + (p : Int) ∧ v + (p : Int) ≤ 9223372036854775807 := fun p hp => ⟨wrap64 (by omega) (by omega), by omega⟩
        rw [if_pos hn, e2, (key _ hp).1, e3]
        refine .yes (by simp) (.bind (putPlain_ans hs f _ n (key _ hp).2) ?_)
        exact .pure _
      · simp only [decide_eq_false_iff_not] at hn
        rw [if_neg hn]
        exact .bind (putPlain_ans hs f _ n hv.2) (.pure _)
def rputSignedF (s : List UInt8) (f v n : Int) : Res := let r := putSignedF s f v n; ([.s r.1, .i r.2.1, .b (decide (r.2.2 = 0))], [])
theorem rputSigned_ans {s : List UInt8} (hs : s.length ≤ 500000000) (f : Int) (v n : Int) (hv : I64 v) : Ans (fun k => call k f_celluloidref02_PutSigned [.s s, .i f, .i v, .i n] []) (rputSignedF s f v n) := by
  refine Ans.succ (fun k => u_celluloidref02_PutSigned k s f v n) ?_
  refine .bind (x := [.b (decide (n < 0 ∨ n > 31 ∨ (widthN v : Int) > n))]) ?_ ?_
  · refine .ite (fun h => .pure' ?_) (fun h => .ite (fun h2 => .pure' ?_) (fun h2 => .bind (rwidth_ans hv) (.pure' ?_)))
    · simp only [decide_eq_true_eq] at h; simp [h]
    · simp only [decide_eq_true_eq] at h2; simp [h2]
    · simp only [decide_eq_false_iff_not] at h h2
      simp only [List.getD_cons_zero, PV.toI]
      congr 2
      apply decide_eq_decide.2
      constructor
      · intro e; exact .inr (.inr e)
      · rintro (e | e | e)
        · exact absurd e h
        · exact absurd e h2
        · exact e
  · simp only [List.getD_cons_zero, PV.toB]
    unfold rputSignedF putSignedF
    refine .ite (fun h => .pure' ?_) (fun h => ?_)
    · rw [if_pos (of_decide_eq_true h)]; rfl
    · have h := of_decide_eq_false h
      rw [if_neg h]
      simp only [not_or] at h
      obtain ⟨h1, h2, h3⟩ := h
      obtain ⟨n, rfl⟩ := Int.eq_ofNat_of_zero_le (by omega : 0 ≤ n)
      refine .ite (fun hn => ?_) (fun hn => ?_)
      · simp only [decide_eq_true_eq] at hn
        have hp : 2 ^ n ≤ 2147483648 := Nat.pow_le_pow_right (n := 2) (by decide) (by omega : n ≤ 31)
        have := hv.1
        have e3 : v + 2 ^ (n : Int).toNat = v + ((2 ^ n : Nat) : Int) := by rw [Int.toNat_natCast]; simp
        rw [if_pos hn, e3]
        refine .bind (power_ans n (by omega)) ?_
        simp only [List.getD_cons_zero, PV.toI]
        have key : ∀ p : Nat, p ≤ 2147483648 → IntKind.wrap .i64 (v + (p : Int)) = v + (p : Int) ∧ v + (p : Int) ≤ 9223372036854775807 := fun p hp => ⟨wrap64 (by omega) (by omega), by omega⟩
        rw [(key _ hp).1]
        exact .bind (rputPlain_ans hs f _ n (key _ hp).2) (.pure _)
      · simp only [decide_eq_false_iff_not] at hn
        rw [if_neg hn]
        exact .bind (rputPlain_ans hs f _ n hv.2) (.pure _)
end Go.AI
