/- The widths of any numbers are the greatest of what the document says. -/
import Derived.Test.YtldemgejcehhlaaP02d
set_option linter.unusedVariables false
set_option linter.unusedSimpArgs false
set_option maxRecDepth 100000
namespace Go.AI
open Go Go.Proofs

def plainL (es : List (List PV)) : Nat → Nat
  | 0 => 0
  | i + 1 => max (plainL es i) (blen (elI es i).toNat)
theorem plainL_le {es : List (List PV)} (he : ∀ i, i < es.length → I64 (elI es i)) : ∀ i, i ≤ es.length → plainL es i ≤ 64
  | 0, _ => by simp [plainL]
  | i + 1, h => by
    have := plainL_le he i (by omega)
    have hb := he i (by omega)
    have := blen64 (a := (elI es i).toNat) (by have := hb.2; omega)
    simp only [plainL]; omega
theorem plainWidth_loop {es : List (List PV)} (hes : es.length ≤ 9223372036854775806) (he : ∀ i, i < es.length → I64 (elI es i)) : ∀ j i, i + j = es.length →
    Ans (fun k => run k f_bits_PlainWidth [] at_bits_PlainWidth_L0 (S_bits_PlainWidth_L0 (plainL es i) es es.length i)) ([.i ((plainL es es.length : Nat) : Int)], [])
  | 0, i, h => by
    obtain rfl : i = es.length := h
    refine Ans.succ (fun k => u_bits_PlainWidth_L0 k ..) ?_
    exact .no (by simp) (.pure _)
  | j + 1, i, h => by
    refine Ans.succ (fun k => u_bits_PlainWidth_L0 k ..) ?_
    have hi := he i (by omega)
    have hp := plainL_le he i (by omega)
    have e2 : IntKind.wrap .i64 ((i : Int) + 1) = ((i + 1 : Nat) : Int) := by rw [wrap64 (by omega) (by omega)]; rfl
    have ev : ((es.getD i []).getD 0 .u).toI = elI es i := rfl
    rw [e2, elemAt_nat, ev]
    obtain ⟨v, hv⟩ : ∃ v, v = elI es i := ⟨_, rfl⟩
    rw [← hv] at hi ⊢
    have em : (bif decide ((0 : Int) > v) then (0 : Int) else v) = ((v.toNat : Nat) : Int) := by
      by_cases hc : (0 : Int) > v
      · rw [decide_eq_true hc, cond_true]; omega
      · rw [decide_eq_false hc, cond_false]; omega
    have hlt : v.toNat < 18446744073709551616 := by have := hi.2; omega
    rw [em, wrapU64 (by omega) (by omega)]
    refine .yes (by simp; omega) (.yes (by unfold inB; simp; omega) (.bind (len_ans v.toNat hlt) ?_))
    simp only [List.getD_cons_zero, PV.toI]
    have e : (bif decide (((blen v.toNat : Nat) : Int) > ((plainL es i : Nat) : Int)) then ((blen v.toNat : Nat) : Int) else ((plainL es i : Nat) : Int)) = ((plainL es (i + 1) : Nat) : Int) := by
      simp only [plainL, ← hv]
      by_cases hc : ((blen v.toNat : Nat) : Int) > ((plainL es i : Nat) : Int)
      · rw [decide_eq_true hc, cond_true]; omega
      · rw [decide_eq_false hc, cond_false]; omega
    rw [e]
    exact plainWidth_loop hes he j (i + 1) (by omega)
theorem plainWidth_ans {es : List (List PV)} (hes : es.length ≤ 9223372036854775806) (he : ∀ i, i < es.length → I64 (elI es i)) : Ans (fun k => call k f_bits_PlainWidth [.l es] []) ([.i ((plainL es es.length : Nat) : Int)], []) :=
  Ans.succ (fun k => u_bits_PlainWidth k es) (plainWidth_loop hes he es.length 0 (by omega))

theorem widthL_le {es : List (List PV)} (he : ∀ i, i < es.length → I64 (elI es i)) : ∀ i, i ≤ es.length → widthL es i ≤ 65
  | 0, _ => by simp [widthL]
  | i + 1, h => by
    have := widthL_le he i (by omega)
    have hb := he i (by omega)
    have : widthN (elI es i) ≤ 65 := by
      by_cases h0 : elI es i = 0
      · rw [h0, widthN_zero]; omega
      · rw [widthN_le h0 (by omega)]
        have := hb.1; have := hb.2
        have : ((2 ^ (65 - 1) : Nat) : Int) = 18446744073709551616 := rfl
        omega
    simp only [widthL]; omega
theorem widths_loop {es : List (List PV)} (hes : es.length ≤ 20) (he : ∀ i, i < es.length → I64 (elI es i)) : ∀ j i, i + j = es.length →
    Ans (fun k => run k f_celluloidlaw02_BitsWidths [] at_celluloidlaw02_BitsWidths_L0 (S_celluloidlaw02_BitsWidths_L0 es (widthL es i) (plainL es i) es es.length i)) ([.b true], [])
  | 0, i, h => by
    obtain rfl : i = es.length := h
    refine Ans.succ (fun k => u_celluloidlaw02_BitsWidths_L0 k ..) ?_
    refine .no (by simp) (.bind (x := [.b true]) (.bind (width_ans (by omega) he) (.yes (by simp [PV.toI]) (.bind (plainWidth_ans (by omega) he) (.yes (by simp [PV.toI]) (.bind awake02 (.pure _)))))) (.pure _))
  | j + 1, i, h => by
    refine Ans.succ (fun k => u_celluloidlaw02_BitsWidths_L0 k ..) ?_
    have hi := he i (by omega)
    have hw := widthL_le he i (by omega)
    have hp := plainL_le he i (by omega)
    have e2 : IntKind.wrap .i64 ((i : Int) + 1) = ((i + 1 : Nat) : Int) := by rw [wrap64 (by omega) (by omega)]; rfl
    have ev : ((es.getD i []).getD 0 .u).toI = elI es i := rfl
    rw [e2, elemAt_nat, ev]
    obtain ⟨v, hv⟩ : ∃ v, v = elI es i := ⟨_, rfl⟩
    have hwi := widthL_le he (i + 1) (by omega)
    simp only [widthL, ← hv] at hwi
    rw [← hv] at hi ⊢
    refine .yes (by simp; omega) (.yes (by unfold inB; simp; omega) (.bind (rwidth_ans hi) ?_))
    simp only [List.getD_cons_zero, PV.toI]
    have e : (bif decide (((widthN v : Nat) : Int) > ((widthL es i : Nat) : Int)) then ((widthN v : Nat) : Int) else ((widthL es i : Nat) : Int)) = ((widthL es (i + 1) : Nat) : Int) := by
      simp only [widthL, ← hv]
      by_cases hc : ((widthN v : Nat) : Int) > ((widthL es i : Nat) : Int)
      · rw [decide_eq_true hc, cond_true]; omega
      · rw [decide_eq_false hc, cond_false]; omega
    refine .ite (fun hn => .bind (rwidth_ans hi) ?_) (fun hn => ?_)
    · simp only [decide_eq_true_eq] at hn
      have hwv : widthN v = blen v.toNat + 1 := by unfold widthN; rw [if_neg (by omega), if_neg (by omega)]
      have e3 : IntKind.wrap .i64 (((widthN v : Nat) : Int) - 1) = ((blen v.toNat : Nat) : Int) := by rw [wrap64 (by omega) (by omega)]; omega
      simp only [List.getD_cons_zero, PV.toI]
      rw [e3, e]
      have e4 : (bif decide (((blen v.toNat : Nat) : Int) > ((plainL es i : Nat) : Int)) then ((blen v.toNat : Nat) : Int) else ((plainL es i : Nat) : Int)) = ((plainL es (i + 1) : Nat) : Int) := by
        simp only [plainL, ← hv]
        by_cases hc : ((blen v.toNat : Nat) : Int) > ((plainL es i : Nat) : Int)
        · rw [decide_eq_true hc, cond_true]; omega
        · rw [decide_eq_false hc, cond_false]; omega
      rw [e4]
      exact widths_loop hes he j (i + 1) (by omega)
    · simp only [decide_eq_false_iff_not] at hn
      rw [e]
      have e4 : plainL es (i + 1) = plainL es i := by
        simp only [plainL, ← hv]
        have : v.toNat = 0 := by omega
        rw [this]
        simp [blen]
      have := widths_loop hes he j (i + 1) (by omega)
      rw [e4] at this
      exact this
theorem BitsWidths_ans (es : List (List PV)) (he : ∀ i, i < es.length → I64 (elI es i)) : Ans (fun k => call k f_celluloidlaw02_BitsWidths [.l es] []) ([.b true], []) := by
  refine Ans.succ (fun k => u_celluloidlaw02_BitsWidths k es) ?_
  refine .ite (fun h => .bind awake02 (.pure _)) (fun h => ?_)
  have h : ¬ ((es.length : Int) > 20) := by simpa using h
  exact widths_loop (by omega) he es.length 0 (by omega)
end Go.AI
