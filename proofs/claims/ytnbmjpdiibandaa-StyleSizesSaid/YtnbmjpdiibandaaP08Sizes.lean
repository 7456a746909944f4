/- So many plain fills and lines have so many bytes. -/
import Derived.Test.YtnbmjpdiibandaaP08Puts
set_option linter.unusedVariables false
set_option linter.unusedSimpArgs false
set_option maxRecDepth 100000
namespace Go.AI
open Go Go.Proofs

def plainFill (c : I4) : Fill := ⟨0, c, (0, 0, 0, 0, 0, 0), 0, [], 0⟩
theorem rep_snoc {α : Type} (n : Nat) (a : α) : List.replicate n a ++ [a] = List.replicate (n + 1) a := by rw [List.replicate_succ']
theorem fillsS_rep (c : I4) : ∀ n, (fillsS (List.replicate n (plainFill c))).length = 5 * n
  | 0 => rfl
  | n + 1 => by
    rw [List.replicate_succ]; unfold fillsS; rw [List.length_append, fillsS_rep c n]
    show 1 + 4 + _ = _; omega
theorem Sizes_end {n m : Nat} (hn : n ≤ 15) (hm : m ≤ 15) {w : Int} (w0 : 0 ≤ w) (w1 : w < 65536) (c : I4) : rW f_celluloidlaw08_StyleSizes [] at_celluloidlaw08_StyleSizes_L2 (S_celluloidlaw08_StyleSizes_L2 w n m m ((List.replicate n (plainFill c)).map Fill.e) ((List.replicate m (⟨w, c⟩ : Strk)).map Strk.e) c.1 c.2.1 c.2.2.1 c.2.2.2) = some ([.b true], []) := by
  rw [w_celluloidlaw08_StyleSizes_L2, decide_eq_false (by omega)]
  have hf : fillB (plainFill c) = rgbaB c := by
    unfold fillB plainFill; rw [show kindS (0 : Int) = true from rfl, cond_true]; simp
  have hs : strkB ⟨w, c⟩ = rgbaB c := by unfold strkB; simp [w0, w1]
  have hb : listsB (List.replicate n (plainFill c)) (List.replicate m (⟨w, c⟩ : Strk)) = (rgbaB c || decide (n + m = 0)) := by
    unfold listsB
    rw [List.length_replicate, List.length_replicate, decide_eq_true (p := ((n : Nat) : Int) ≤ 15) (by omega), decide_eq_true (p := ((m : Nat) : Int) ≤ 15) (by omega), List.all_replicate, List.all_replicate, hf, hs]
    by_cases h1 : n = 0 <;> by_cases h2 : m = 0 <;> cases rgbaB c <;> simp [h1, h2]
  have hsh : Shorts (List.replicate n (plainFill c)) := fun f hf => by rw [List.eq_of_mem_replicate hf]; exact Nat.zero_le _
  have hP := Put_c (l := List.replicate n (plainFill c)) (m := List.replicate m (⟨w, c⟩ : Strk)) (by rw [List.length_replicate]; exact Nat.le_trans hn (by decide)) (by rw [List.length_replicate]; exact Nat.le_trans hm (by decide)) hsh (s := []) (by simp) 0
  have hw1 : IntKind.wrap .i64 ((n : Int) + (m : Int)) = ((n + m : Nat) : Int) := by rw [wrap64 (by omega) (by omega)]; omega
  unfold putListsF at hP
  rw [hb] at hP
  simp only [hP, hw1, qRGBA_c, Option.bind_some, Option.bind_none, andB, orB, orB2, List.getD_cons_zero, List.getD_cons_succ, toB_b, toI_i, toS_s, toL_l, cond_true, cond_false, List.length_map]
  cases hc : rgbaB c with
  | true =>
    have hl : (listsS (List.replicate n (plainFill c)) (List.replicate m (⟨w, c⟩ : Strk))).length = 2 + 5 * n + 6 * m := by
      unfold listsS
      simp only [List.length_append, fillsS_rep, strksS_len, List.length_replicate]
      show 1 + (_ + (1 + _)) = _; omega
    have e1 : IntKind.wrap .i64 (IntKind.wrap .i64 (2 + IntKind.wrap .i64 (5 * (n : Int))) + IntKind.wrap .i64 (6 * (m : Int))) = ((2 + 5 * n + 6 * m : Nat) : Int) := by
      rw [wrap64 (n := 5 * (n : Int)) (by omega) (by omega), wrap64 (n := 6 * (m : Int)) (by omega) (by omega), wrap64 (n := 2 + 5 * (n : Int)) (by omega) (by omega), wrap64 (by omega) (by omega)]; omega
    have e2 : IntKind.wrap .i64 (1 + IntKind.wrap .i64 (5 * (n : Int))) = ((1 + 5 * n : Nat) : Int) := by
      rw [wrap64 (n := 5 * (n : Int)) (by omega) (by omega), wrap64 (by omega) (by omega)]; omega
    have b0 : IntKind.wrap .i64 (bt (listsS (List.replicate n (plainFill c)) (List.replicate m (⟨w, c⟩ : Strk))) 0) = (n : Int) := by
      have : bt (listsS (List.replicate n (plainFill c)) (List.replicate m (⟨w, c⟩ : Strk))) 0 = (n : Int) := by
        unfold bt listsS oneS
        rw [List.length_replicate]
        show (((UInt8.ofNat ((n : Int) % 256).toNat).toNat : Nat) : Int) = _
        rw [byte_nat _ (by omega)]; omega
      rw [this, wrap64 (by omega) (by omega)]
    have b1 : IntKind.wrap .i64 (bt (listsS (List.replicate n (plainFill c)) (List.replicate m (⟨w, c⟩ : Strk))) ((1 + 5 * n : Nat) : Int)) = (m : Int) := by
      have : bt (listsS (List.replicate n (plainFill c)) (List.replicate m (⟨w, c⟩ : Strk))) ((1 + 5 * n : Nat) : Int) = (m : Int) := by
        unfold bt listsS
        rw [Int.toNat_natCast]
        have : (oneS ((List.replicate n (plainFill c)).length) ++ fillsS (List.replicate n (plainFill c))).length = 1 + 5 * n := by rw [List.length_append, fillsS_rep]; rfl
        rw [← List.append_assoc, ← this]
        rw [List.getD_eq_getElem?_getD, List.getElem?_append_right (Nat.le_refl _), Nat.sub_self]
        unfold oneS
        rw [List.length_replicate]
        show (((UInt8.ofNat ((m : Int) % 256).toNat).toNat : Nat) : Int) = _
        rw [byte_nat _ (by omega)]; omega
      rw [this, wrap64 (by omega) (by omega)]
    have i0 : inB 0 (2 + 5 * n + 6 * m) = true := by unfold inB; simp; omega
    have i1 : inB ((1 + 5 * n : Nat) : Int) (2 + 5 * n + 6 * m) = true := by unfold inB; simp; omega
    simp only [Bool.true_or, cond_true, List.nil_append, hl, e1, e2, b0, b1, i0, i1, beq_self_eq_true, bne_self_eq_false, awake08, Bool.and_true, Bool.true_and, Bool.and_false, Bool.false_and, Bool.or_true, Bool.true_or, Bool.or_false, Bool.false_or, Bool.not_true, Bool.not_false, Option.bind_some, Option.bind_none, andB, orB, orB2, List.getD_cons_zero, List.getD_cons_succ, toB_b, toI_i, toS_s, toL_l, cond_true, cond_false, List.length_map]
  | false =>
    by_cases hz : n + m = 0
    · obtain rfl : n = 0 := by omega
      obtain rfl : m = 0 := by omega
      have b0 : IntKind.wrap .i64 (bt [0, 0] 0) = 0 := by decide
      have b1 : IntKind.wrap .i64 (bt [0, 0] 1) = 0 := by decide
      have e1 : IntKind.wrap .i64 (IntKind.wrap .i64 (2 + IntKind.wrap .i64 (5 * (0 : Int))) + IntKind.wrap .i64 (6 * (0 : Int))) = 2 := by decide
      have e2 : IntKind.wrap .i64 (1 + IntKind.wrap .i64 (5 * (0 : Int))) = 1 := by decide
      have el : ([] : List UInt8) ++ listsS (List.replicate 0 (plainFill c)) (List.replicate 0 (⟨w, c⟩ : Strk)) = [0, 0] := rfl
      have i0 : inB 0 2 = true := by decide
      have i1 : inB 1 2 = true := by decide
      simp only [Nat.add_zero, decide_true, Bool.or_true, cond_true, el, e1, e2, b0, b1, List.length_cons, List.length_nil, show (0 + 1 + 1 : Nat) = 2 from rfl, i0, i1, show (((2 : Nat) : Int) == 2) = true from rfl, show (((0 : Nat) : Int)) = 0 from rfl, beq_self_eq_true, bne_self_eq_false, awake08, Bool.and_true, Bool.true_and, Bool.and_false, Bool.false_and, Bool.or_true, Bool.true_or, Bool.or_false, Bool.false_or, Bool.not_true, Bool.not_false, Option.bind_some, Option.bind_none, andB, orB, orB2, List.getD_cons_zero, List.getD_cons_succ, toB_b, toI_i, toS_s, toL_l, cond_true, cond_false, List.length_map]
    · rw [decide_eq_false hz]
      have : decide (((n + m : Nat) : Int) > 0) = true := by simp; omega
      simp only [this, Bool.or_false, Bool.not_false, awake08, show ((1 : Int) != 0) = true from rfl, Bool.and_true, Bool.true_and, Bool.and_false, Bool.false_and, Bool.or_true, Bool.true_or, Bool.or_false, Bool.false_or, Bool.not_true, Bool.not_false, Option.bind_some, Option.bind_none, andB, orB, orB2, List.getD_cons_zero, List.getD_cons_succ, toB_b, toI_i, toS_s, toL_l, cond_true, cond_false, List.length_map]
theorem Sizes_loop2 {n m : Nat} (hn : n ≤ 15) (hm : m ≤ 15) {w : Int} (w0 : 0 ≤ w) (w1 : w < 65536) (c : I4) : ∀ j i : Nat, i + j = m →
    rW f_celluloidlaw08_StyleSizes [] at_celluloidlaw08_StyleSizes_L2 (S_celluloidlaw08_StyleSizes_L2 w n m i ((List.replicate n (plainFill c)).map Fill.e) ((List.replicate i (⟨w, c⟩ : Strk)).map Strk.e) c.1 c.2.1 c.2.2.1 c.2.2.2) = some ([.b true], [])
  | 0, i, h => by
    obtain rfl : i = m := h
    exact Sizes_end hn hm w0 w1 c
  | j + 1, i, h => by
    obtain ⟨h1, h2⟩ := step_i (i := i) (n := m) (by omega) (by omega)
    have ih := Sizes_loop2 hn hm w0 w1 c j (i + 1) (by omega)
    rw [w_celluloidlaw08_StyleSizes_L2, h1, cond_true, room1 _ _ (by simp; omega), cond_true, wrap64 (n := w) (by omega) (by omega), h2]
    rw [strk_row _ ⟨w, c⟩, rep_snoc]
    exact ih
theorem Sizes_loop {n m : Nat} (hn : n ≤ 15) (hm : m ≤ 15) {w : Int} (w0 : 0 ≤ w) (w1 : w < 65536) (c : I4) : ∀ j i : Nat, i + j = n →
    rW f_celluloidlaw08_StyleSizes [] at_celluloidlaw08_StyleSizes_L0 (S_celluloidlaw08_StyleSizes_L0 w n m i ((List.replicate i (plainFill c)).map Fill.e) [] c.1 c.2.1 c.2.2.1 c.2.2.2) = some ([.b true], [])
  | 0, i, h => by
    obtain rfl : i = n := h
    rw [w_celluloidlaw08_StyleSizes_L0, decide_eq_false (by omega), cond_false]
    exact Sizes_loop2 hn hm w0 w1 c m 0 (by omega)
  | j + 1, i, h => by
    obtain ⟨h1, h2⟩ := step_i (i := i) (n := n) (by omega) (by omega)
    have ih := Sizes_loop hn hm w0 w1 c j (i + 1) (by omega)
    have e := fill_row (List.replicate i (plainFill c)) (plainFill c)
    simp only [plainFill, List.map_nil] at e
    rw [w_celluloidlaw08_StyleSizes_L0, h1, cond_true, room1 _ _ (by simp; omega), cond_true, h2]
    unfold plainFill at *
    rw [e, rep_snoc]
    exact ih
theorem StyleSizes_c (f s : Int) (f0 : 0 ≤ f) (f1 : f < 256) (s0 : 0 ≤ s) (s1 : s < 256) (c : I4) (w : Int) (w0 : 0 ≤ w) (w1 : w < 65536) : cW f_celluloidlaw08_StyleSizes [.i f, .i s, .i c.1, .i c.2.1, .i c.2.2.1, .i c.2.2.2, .i w] [] = some ([.b true], []) := by
  have a1 : IntKind.wrap .i64 (Int.tmod f 16) = (((f % 16).toNat : Nat) : Int) := by rw [Int.tmod_eq_emod_of_nonneg f0, wrap64 (by omega) (by omega)]; omega
  have a2 : IntKind.wrap .i64 (Int.tmod s 16) = (((s % 16).toNat : Nat) : Int) := by rw [Int.tmod_eq_emod_of_nonneg s0, wrap64 (by omega) (by omega)]; omega
  rw [w_celluloidlaw08_StyleSizes, a1, a2]
  exact Sizes_loop (by omega) (by omega) w0 w1 c (f % 16).toNat 0 (by omega)
end Go.AI
