/- Words for answers without depth: conditions, lists of encoded elements. -/
import Derived.Test.YtkclfiliefadlaaGreatU
import Derived.Test.YtkclfiliefadlaaGreatP02
set_option linter.unusedVariables false
set_option linter.unusedSimpArgs false
set_option maxRecDepth 100000
namespace Go.AI
open Go Go.Proofs

theorem toI_i (n : Int) : (PV.i n).toI = n := rfl
theorem toB_b (n : Bool) : (PV.b n).toB = n := rfl
theorem toS_s (n : List UInt8) : (PV.s n).toS = n := rfl
theorem toL_l (n : List (List PV)) : (PV.l n).toL = n := rfl
theorem andB (p x : Bool) : (bif p then some [PV.b x] else some [PV.b false]) = some [PV.b (p && x)] := by cases p <;> rfl
theorem orB (p x : Bool) : (bif p then some [PV.b true] else some [PV.b x]) = some [PV.b (p || x)] := by cases p <;> rfl
theorem orB2 (p x : Bool) : (bif p then some ([PV.b true], ([] : List BX)) else some ([PV.b x], [])) = some ([PV.b (p || x)], []) := by cases p <;> rfl

theorem zcf : (∀ (α β : Type) (a : α) (f : α → Option β), Option.bind (some a) f = f a) ∧ (∀ (α β : Type) (f : α → Option β), Option.bind none f = none) ∧ (∀ p x : Bool, (bif p then some [PV.b x] else some [PV.b false]) = some [PV.b (p && x)]) ∧ (∀ p x : Bool, (bif p then some [PV.b true] else some [PV.b x]) = some [PV.b (p || x)]) ∧ (∀ p x : Bool, (bif p then some ([PV.b true], ([] : List BX)) else some ([PV.b x], [])) = some ([PV.b (p || x)], [])) ∧ (∀ (α : Type) (a d : α) (l : List α), (a :: l).getD 0 d = a) ∧ (∀ (α : Type) (a d : α) (n : Nat) (l : List α), (a :: l).getD (n + 1) d = l.getD n d) ∧ (∀ b : Bool, (PV.b b).toB = b) ∧ (∀ n : Int, (PV.i n).toI = n) ∧ (∀ s : List UInt8, (PV.s s).toS = s) ∧ (∀ l : List (List PV), (PV.l l).toL = l) ∧ (∀ (α : Type) (a b : α), (bif true then a else b) = a) ∧ (∀ (α : Type) (a b : α), (bif false then a else b) = b) ∧ (∀ (α β : Type) (l : List α) (f : α → β), (l.map f).length = l.length) :=
  ⟨fun _ _ _ _ => rfl, fun _ _ _ => rfl, andB, orB, orB2, fun _ _ _ _ => rfl, fun _ _ _ _ _ => rfl, fun _ => rfl, fun _ => rfl, fun _ => rfl, fun _ => rfl, fun _ _ _ => rfl, fun _ _ _ => rfl, fun _ _ _ f => List.length_map f⟩
theorem zbc : (∀ b : Bool, (b && true) = b) ∧ (∀ b : Bool, (true && b) = b) ∧ (∀ b : Bool, (b && false) = false) ∧ (∀ b : Bool, (false && b) = false) ∧ (∀ b : Bool, (b || true) = true) ∧ (∀ b : Bool, (true || b) = true) ∧ (∀ b : Bool, (b || false) = b) ∧ (∀ b : Bool, (false || b) = b) ∧ ((!true) = false) ∧ ((!false) = true) :=
  ⟨Bool.and_true, fun _ => rfl, Bool.and_false, fun _ => rfl, Bool.or_true, fun _ => rfl, Bool.or_false, fun _ => rfl, rfl, rfl⟩
/-- one round over a list's elements -/
theorem el_stepM {α : Type} (e : α → List PV) {l pre rest : List α} {x : α} (h : l = pre ++ x :: rest) (hl : l.length ≤ 9223372036854775807) :
    decide (((pre.length : Nat) : Int) < ((l.length : Nat) : Int)) = true ∧ inB ((pre.length : Nat) : Int) l.length = true ∧ elemAt (l.map e) ((pre.length : Nat) : Int) = e x ∧
    IntKind.wrap .i64 (((pre.length : Nat) : Int) + 1) = (((pre ++ [x]).length : Nat) : Int) ∧ l = (pre ++ [x]) ++ rest := by
  subst h
  simp only [List.length_append, List.length_cons] at *
  refine ⟨by simp; omega, by unfold inB; simp; omega, ?_, ?_, by simp⟩
  · unfold elemAt; rw [Int.toNat_natCast]; simp [List.getD]
  · rw [wrap64 (by omega) (by omega)]; simp
theorem el_step {α : Type} (e : α → List PV) {l pre rest : List α} {x : α} (h : l = pre ++ x :: rest) (hl : l.length ≤ 2 ^ 40) :
    decide (((pre.length : Nat) : Int) < ((l.length : Nat) : Int)) = true ∧ inB ((pre.length : Nat) : Int) l.length = true ∧ elemAt (l.map e) ((pre.length : Nat) : Int) = e x ∧
    IntKind.wrap .i64 (((pre.length : Nat) : Int) + 1) = (((pre ++ [x]).length : Nat) : Int) ∧ l = (pre ++ [x]) ++ rest :=
  el_stepM e h (Nat.le_trans hl (by decide))
theorem el_end {α : Type} {l pre : List α} (h : l = pre ++ []) : decide (((pre.length : Nat) : Int) < ((l.length : Nat) : Int)) = false := by
  subst h; simp
theorem room1 {α : Type} {k c : Nat} (z x : α) (h : (k + 1001) * c ≤ 1099511627776) : decide (((k + (List.set [z] 0 x).length) + 1000) * c ≤ 1099511627776) = true :=
  decide_eq_true (by simpa [Nat.add_assoc] using h)
end Go.AI
