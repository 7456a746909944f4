/- Any lists are written as the document says, or refused, and taken back. -/
import Derived.Test.YtnbmjpdiibandaaP08i
import Derived.Test.YtnbmjpdiibandaaP08A
set_option linter.unusedVariables false
set_option linter.unusedSimpArgs false
set_option maxRecDepth 100000
namespace Go.AI
open Go Go.Proofs

theorem mem_shorts {l : List Fill} (h : ∀ f, f ∈ l → f.stops.length ≤ 20) : Shorts l := fun f hf => Nat.le_trans (h f hf) (by decide)
theorem listsS_len {l : List Fill} {m : List Strk} (h : listsB l m = true) : (listsS l m).length ≤ 8000 := by
  obtain ⟨h1, h2, h3, h4⟩ := listsB_r h
  have a := fillsS_len h3
  have b := strksS_len m
  simp only [listsS, List.length_append, b]
  show 1 + (_ + (1 + _)) ≤ _
  omega
theorem StylePuts_c (s : List UInt8) (l : List Fill) (m : List Strk) (hl : l.length ≤ 9223372036854775807) : cW f_celluloidlaw08_StylePuts [.s s, .l (l.map Fill.e), .l (m.map Strk.e)] [] = some ([.b true], []) := by
  rw [w_celluloidlaw08_StylePuts]
  simp only [small_c hl, Option.bind_some, Option.bind_none, andB, orB, orB2, List.getD_cons_zero, List.getD_cons_succ, toB_b, toI_i, toS_s, toL_l, cond_true, cond_false, List.length_map]
  cases h : (decide (((s.length : Nat) : Int) > 1024) || !smallB l m) with
  | true => simp only [awake08, Option.bind_some, Option.bind_none, andB, orB, orB2, List.getD_cons_zero, List.getD_cons_succ, toB_b, toI_i, toS_s, toL_l, cond_true, cond_false, List.length_map]
  | false =>
    simp only [Bool.or_eq_false_iff, decide_eq_false_iff_not, Bool.not_eq_false'] at h
    obtain ⟨hs, hb⟩ := h
    obtain ⟨b1, b2, b3⟩ := smallB_r hb
    have l1 : l.length ≤ 2 ^ 40 := Nat.le_trans (by omega : _ ≤ 30) (by decide)
    have l2 : m.length ≤ 2 ^ 40 := Nat.le_trans (by omega : _ ≤ 30) (by decide)
    have l3 := mem_shorts b1
    simp only [Put_c l1 l2 l3 (s := s) (by omega) 0, qRight_c l1 l2 l3, right_c l1 l2 l3, beq_self_eq_true, Bool.and_true, Bool.true_and, Bool.and_false, Bool.false_and, Bool.or_true, Bool.true_or, Bool.or_false, Bool.false_or, Bool.not_true, Bool.not_false, Option.bind_some, Option.bind_none, andB, orB, orB2, List.getD_cons_zero, List.getD_cons_succ, toB_b, toI_i, toS_s, toL_l, cond_true, cond_false, List.length_map]
    unfold putListsF
    cases hr : listsB l m with
    | false =>
      simp only [awake08, beq_self_eq_true, Bool.and_true, Bool.true_and, Bool.and_false, Bool.false_and, Bool.or_true, Bool.true_or, Bool.or_false, Bool.false_or, Bool.not_true, Bool.not_false, Option.bind_some, Option.bind_none, andB, orB, orB2, List.getD_cons_zero, List.getD_cons_succ, toB_b, toI_i, toS_s, toL_l, cond_true, cond_false, List.length_map]
    | true =>
      have hlen := listsS_len hr
      have eT := takeF_back hr s [120]
      have eb : s ++ (listsS l m ++ [120]) = s ++ listsS l m ++ [120] := (List.append_assoc _ _ _).symm
      rw [eb] at eT
      have hw : IntKind.wrap .i64 (8 * ((s.length : Nat) : Int)) = ((8 * s.length : Nat) : Int) := by rw [wrap64 (by omega) (by omega)]; omega
      have hw2 : IntKind.wrap .i64 (8 * (((s ++ listsS l m).length : Nat) : Int)) = ((8 * (s ++ listsS l m).length : Nat) : Int) := by
        simp only [List.length_append]
        rw [wrap64 (by omega) (by omega)]; omega
      have hk : decide ((s ++ listsS l m).length + 1 ≤ 1099511627776) = true := decide_eq_true (by simp; omega)
      have hT := Take_c (s := s ++ listsS l m ++ [120]) (Nat.le_trans (by simp; omega : _ ≤ 20000) (by decide)) ((8 * s.length : Nat) : Int)
      have eS := sameLists_c (l := l) (m := l) (s := m) (t := m) l1 l3 l2
      simp only [qPut_c hr (s := s) (by omega), beq_self_eq_true, bne_self_eq_false, hk, hw, hw2, hT, eT, encT, rdAt, eS, decide_true, awake08, Bool.and_true, Bool.true_and, Bool.and_false, Bool.false_and, Bool.or_true, Bool.true_or, Bool.or_false, Bool.false_or, Bool.not_true, Bool.not_false, Option.bind_some, Option.bind_none, andB, orB, orB2, List.getD_cons_zero, List.getD_cons_succ, toB_b, toI_i, toS_s, toL_l, cond_true, cond_false, List.length_map]
end Go.AI
