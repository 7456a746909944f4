/- Words for answers without depth: conditions, lists of encoded elements. -/
import Derived.Test.YtbaajplajjfgcaaGreatU
import Derived.Test.YtbaajplajjfgcaaGreatP02
set_option linter.unusedVariables false
set_option linter.unusedSimpArgs false
set_option maxRecDepth 100000
namespace Go.AI
open Go Go.Proofs

theorem toI_i (n : Int) : (PV.i n).toI = n := rfl
theorem toB_b (n : Bool) : (PV.b n).toB = n := rfl
theorem toS_s (n : List UInt8) : (PV.s n).toS = n := rfl
theorem toL_l (n : List (List PV)) : (PV.l n).toL = n := rfl
theorem andB (p x : Bool) : (bif p then some [PV.b x] else some [PV.b false]) = some [PV.b (p && x)] := by cases p <;> rfl
theorem orB (p x : Bool) : (bif p then some [PV.b true] else some [PV.b x]) = some [PV.b (p || x)] := by cases p <;> rfl
theorem orB2 (p x : Bool) : (bif p then some ([PV.b true], ([] : List BX)) else some ([PV.b x], [])) = some ([PV.b (p || x)], []) := by cases p <;> rfl

/-- one round over a list's elements -/
theorem el_stepM {α : Type} (e : α → List PV) {l pre rest : List α} {x : α} (h : l = pre ++ x :: rest) (hl : l.length ≤ 9223372036854775807) :
    decide (((pre.length : Nat) : Int) < ((l.length : Nat) : Int)) = true ∧ inB ((pre.length : Nat) : Int) l.length = true ∧ elemAt (l.map e) ((pre.length : Nat) : Int) = e x ∧
    IntKind.wrap .i64 (((pre.length : Nat) : Int) + 1) = (((pre ++ [x]).length : Nat) : Int) ∧ l = (pre ++ [x]) ++ rest := by
  subst h
  simp only [List.length_append, List.length_cons] at *
  refine ⟨by simp; omega, by unfold inB; simp; omega, ?_, ?_, by simp⟩
  · unfold elemAt; rw [Int.toNat_natCast]; simp [List.getD]
  · rw [wrap64 (by omega) (by omega)]; simp
theorem el_step {α : Type} (e : α → List PV) {l pre rest : List α} {x : α} (h : l = pre ++ x :: rest) (hl : l.length ≤ 2 ^ 40) :
    decide (((pre.length : Nat) : Int) < ((l.length : Nat) : Int)) = true ∧ inB ((pre.length : Nat) : Int) l.length = true ∧ elemAt (l.map e) ((pre.length : Nat) : Int) = e x ∧
    IntKind.wrap .i64 (((pre.length : Nat) : Int) + 1) = (((pre ++ [x]).length : Nat) : Int) ∧ l = (pre ++ [x]) ++ rest :=
  el_stepM e h (Nat.le_trans hl (by decide))
theorem el_end {α : Type} {l pre : List α} (h : l = pre ++ []) : decide (((pre.length : Nat) : Int) < ((l.length : Nat) : Int)) = false := by
  subst h; simp
end Go.AI
