/- Whatever stands at any reader is taken for lists as the document says, or refused. -/
import Derived.Test.YtnbmjpdiibandaaP08h
import Derived.Test.YtnbmjpdiibandaaP08A
set_option linter.unusedVariables false
set_option linter.unusedSimpArgs false
set_option maxRecDepth 100000
namespace Go.AI
open Go Go.Proofs

theorem stopsP_n : ∀ (n : Nat) (last : Int) (σ : Rs), (stopsP n last σ).1.length = n
  | 0, _, _ => rfl
  | n + 1, last, σ => by show (stopsP n _ _).1.length + 1 = n + 1; rw [stopsP_n n]
theorem fillP_n (σ : Rs) : (fillP σ).1.stops.length ≤ 15 := by
  unfold fillP
  dsimp only
  cases kindS (lit σ 1).1
  · cases kindP (lit σ 1).1
    · cases kindG (lit σ 1).1
      · exact Nat.zero_le _
      · show (stopsP _ _ _).1.length ≤ 15
        rw [stopsP_n]; omega
    · exact Nat.zero_le _
  · exact Nat.zero_le _
theorem fillsP_n : ∀ (n : Nat) (σ : Rs), (fillsP n σ).1.length = n ∧ ∀ f, f ∈ (fillsP n σ).1 → f.stops.length ≤ 15
  | 0, σ => ⟨rfl, fun f hf => by cases hf⟩
  | n + 1, σ => by
    obtain ⟨a, b⟩ := fillsP_n n (fillP σ).2
    refine ⟨by show (fillsP n _).1.length + 1 = n + 1; rw [a], fun f hf => ?_⟩
    rcases List.mem_cons.1 hf with rfl | hf
    · exact fillP_n σ
    · exact b f hf
theorem strksP_n : ∀ (n : Nat) (σ : Rs), (strksP n σ).1.length = n
  | 0, σ => rfl
  | n + 1, σ => by show (strksP n _).1.length + 1 = n + 1; rw [strksP_n n]
theorem takeF_n (s : List UInt8) (a : Int) : (takeF s a).1.length ≤ 15 ∧ (takeF s a).2.1.length ≤ 15 ∧ ∀ f, f ∈ (takeF s a).1 → f.stops.length ≤ 15 := by
  unfold takeF finT
  split
  · exact ⟨Nat.zero_le _, Nat.zero_le _, fun f hf => by cases hf⟩
  · unfold listsP
    dsimp only
    obtain ⟨m0, m1⟩ := many_bound (s, a, 0)
    obtain ⟨x, y⟩ := fillsP_n (manyP (s, a, 0)).1.toNat (manyP (s, a, 0)).2
    obtain ⟨k0, k1⟩ := many_bound (fillsP (manyP (s, a, 0)).1.toNat (manyP (s, a, 0)).2).2
    refine ⟨by rw [x]; omega, by rw [strksP_n]; omega, y⟩
theorem takeF_shorts (s : List UInt8) (a : Int) : Shorts (takeF s a).1 := fun f hf => Nat.le_trans ((takeF_n s a).2.2 f hf) (by decide)
theorem StyleTakes_c (s : List UInt8) (a : Int) : cW f_celluloidlaw08_StyleTakes [.s s, .i a] [] = some ([.b true], []) := by
  rw [w_celluloidlaw08_StyleTakes]
  cases h : decide (((s.length : Nat) : Int) > 1024) with
  | true => simp only [awake08, Option.bind_some, Option.bind_none, andB, orB, orB2, List.getD_cons_zero, List.getD_cons_succ, toB_b, toI_i, toS_s, toL_l, cond_true, cond_false, List.length_map]
  | false =>
    simp only [decide_eq_false_iff_not] at h
    have hs : s.length ≤ 2 ^ 40 := Nat.le_trans (by omega : _ ≤ 1024) (by decide)
    obtain ⟨n1, n2, _⟩ := takeF_n s a
    have e := sameLists_c (l := (takeF s a).1) (m := (takeF s a).1) (s := (takeF s a).2.1) (t := (takeF s a).2.1) (Nat.le_trans n1 (by decide)) (takeF_shorts s a) (Nat.le_trans n2 (by decide))
    simp only [Take_c hs, rTake_c hs, encT, e, awake08, beq_self_eq_true, decide_true, Bool.and_self, Option.bind_some, Option.bind_none, andB, orB, orB2, List.getD_cons_zero, List.getD_cons_succ, toB_b, toI_i, toS_s, toL_l, cond_true, cond_false, List.length_map]
end Go.AI
