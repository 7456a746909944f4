/- What is taken of any bytes is right, and is written as bytes that are taken as the same. -/
import Derived.Test.YtnbmjpdiibandaaP08j
import Derived.Test.YtnbmjpdiibandaaP08Puts
set_option linter.unusedVariables false
set_option linter.unusedSimpArgs false
set_option maxRecDepth 100000
namespace Go.AI
open Go Go.Proofs

theorem StyleAgain_c (s : List UInt8) : cW f_celluloidlaw08_StyleAgain [.s s] [] = some ([.b true], []) := by
  rw [w_celluloidlaw08_StyleAgain]
  cases h : decide (((s.length : Nat) : Int) > 1024) with
  | true => simp only [awake08, Option.bind_some, Option.bind_none, andB, orB, orB2, List.getD_cons_zero, List.getD_cons_succ, toB_b, toI_i, toS_s, toL_l, cond_true, cond_false, List.length_map]
  | false =>
    simp only [decide_eq_false_iff_not] at h
    have hs : s.length ≤ 2 ^ 40 := Nat.le_trans (by omega : _ ≤ 1024) (by decide)
    obtain ⟨n1, n2, _⟩ := takeF_n s 0
    have hsh := takeF_shorts s 0
    simp only [Take_c hs, encT, Option.bind_some, Option.bind_none, andB, orB, orB2, List.getD_cons_zero, List.getD_cons_succ, toB_b, toI_i, toS_s, toL_l, cond_true, cond_false, List.length_map]
    by_cases he : (listsP (s, 0, 0)).2.2.2.2 = 0
    · have et : takeF s 0 = listsP (s, 0, 0) := by unfold takeF finT; rw [if_neg (by simp [he])]
      obtain ⟨v, hb⟩ := lists_val he
      rw [et] at n1 n2 hsh ⊢
      rw [show ((listsP (s, 0, 0)).2.2.2.2 != 0) = false by simp [he]]
      obtain ⟨_, p, q, hp, hq, hk⟩ := v
      have hp : (0 : Int) = ((p : Nat) : Int) := hp
      rw [hq]
      generalize hl : (listsP (s, 0, 0)).1 = l at *
      generalize hm : (listsP (s, 0, 0)).2.1 = m at *
      have l1 : l.length ≤ 2 ^ 40 := Nat.le_trans n1 (by decide)
      have l2 : m.length ≤ 2 ^ 40 := Nat.le_trans n2 (by decide)
      have hlen := listsS_len hb
      have eT := takeF_back hb [] []
      simp only [List.nil_append, List.append_nil, List.length_nil, Nat.mul_zero] at eT
      rw [show (((0 : Nat)) : Int) = 0 from rfl] at eT
      have hT := Take_c (s := listsS l m) (Nat.le_trans hlen (by decide)) 0
      have eS := sameLists_c (l := l) (m := l) (s := m) (t := m) l1 hsh l2
      have hP := Put_c l1 l2 hsh (s := []) (by simp) 0
      unfold putListsF at hP
      rw [hb, cond_true, List.nil_append] at hP
      have hw : IntKind.wrap .i64 (8 * (((listsS l m).length : Nat) : Int)) = ((8 * (listsS l m).length : Nat) : Int) := by rw [wrap64 (by omega) (by omega)]; omega
      have hle : decide (((8 * (listsS l m).length : Nat) : Int) ≤ ((q : Nat) : Int)) = true := decide_eq_true (by omega)
      simp only [hP, right_c l1 l2 hsh, hb, hT, eT, encT, rdAt, eS, hw, List.append_nil, List.nil_append, beq_self_eq_true, decide_true, awake08, hle, Bool.and_true, Bool.true_and, Bool.and_false, Bool.false_and, Bool.or_true, Bool.true_or, Bool.or_false, Bool.false_or, Bool.not_true, Bool.not_false, Option.bind_some, Option.bind_none, andB, orB, orB2, List.getD_cons_zero, List.getD_cons_succ, toB_b, toI_i, toS_s, toL_l, cond_true, cond_false, List.length_map]
    · have et : takeF s 0 = ([], [], ([], 0, (listsP (s, 0, 0)).2.2.2.2)) := by unfold takeF finT; rw [if_pos he]
      rw [et, show ((listsP (s, 0, 0)).2.2.2.2 != 0) = true by simp [he]]
      have hw : IntKind.wrap .i64 ((((0 : Nat)) : Int) + (((0 : Nat)) : Int)) = 0 := wrap64 (by omega) (by omega)
      simp only [List.length_nil, List.map_nil, hw, beq_self_eq_true, awake08, Bool.and_true, Bool.true_and, Bool.and_false, Bool.false_and, Bool.or_true, Bool.true_or, Bool.or_false, Bool.false_or, Bool.not_true, Bool.not_false, Option.bind_some, Option.bind_none, andB, orB, orB2, List.getD_cons_zero, List.getD_cons_succ, toB_b, toI_i, toS_s, toL_l, cond_true, cond_false, List.length_map]
end Go.AI
