/- How many bytes a rectangle, and a matrix, have. -/
import Derived.Test.YtdfhhanbapkegaaP07A
import Derived.Test.YtdfhhanbapkegaaP07b
set_option linter.unusedVariables false
set_option linter.unusedSimpArgs false
set_option maxRecDepth 100000
namespace Go.AI
open Go Go.Proofs

theorem width_l {l : List Int} (hf : ∀ v, v ∈ l → I64 v) (hll : l.length ≤ 100) : Ans (fun k => call k f_bits_Width [.l (ints l)] []) ([.i ((WL l : Nat) : Int)], []) := by
  have := width_ans (es := ints l) (by rw [ints_length]; omega) (ints_I64 hf)
  rw [ints_length] at this
  exact this
theorem FieldSizes_ans (l r t b x y : Int) (h1 : I64 l) (h2 : I64 r) (h3 : I64 t) (h4 : I64 b) (h5 : I64 x) (h6 : I64 y) : Ans (fun k => call k f_celluloidlaw07_FieldSizes [.i l, .i r, .i t, .i b, .i x, .i y] []) ([.b true], []) := by
  refine Ans.succ (fun k => u_celluloidlaw07_FieldSizes k l r t b x y) ?_
  refine .bind (putRect_ans (s := []) (by simp) 0 l r t b) (.bind (putMat_ans (s := []) (by simp) 0 65536 0 0 65536 x y) ?_)
  simp only [encW, List.getD_cons_zero, List.getD_cons_succ, PV.toI, PV.toS, PV.toB]
  have i4 : ∀ v, v ∈ [l, r, t, b] → I64 v := fun v hv => by
    simp only [List.mem_cons, List.not_mem_nil, or_false] at hv
    rcases hv with rfl | rfl | rfl | rfl <;> assumption
  have i2 : ∀ v, v ∈ [x, y] → I64 v := fun v hv => by
    simp only [List.mem_cons, List.not_mem_nil, or_false] at hv
    rcases hv with rfl | rfl <;> assumption
  refine .bind (x := [.b false]) ?_ (.no rfl (.bind (x := [.b true]) ?_ (.pure _)))
  · unfold putRectF
    by_cases hr : rectB l r t b = true
    · rw [if_pos hr]
      obtain ⟨a, _, c, _⟩ := nums_ok 5 [l, r, t, b] ([], 0) (ok_zero [])
      obtain ⟨e1, e2⟩ := a.len
      have hw := (rectB_fits hr).wl
      have e0 : wl (([], 0) : Wt) = 0 := rfl
      rw [e0] at c
      simp only [List.length_cons, List.length_nil] at c
      refine .yes rfl (.bind (width_l (l := [l, r, t, b]) i4 (by simp)) (.pure' ?_))
      simp only [List.getD_cons_zero, PV.toI]
      rw [wrap64 (n := 4 * ((WL [l, r, t, b] : Nat) : Int)) (by omega) (by omega), wrap64 (n := 5 + 4 * ((WL [l, r, t, b] : Nat) : Int)) (by omega) (by omega), wrap64 (n := 5 + 4 * ((WL [l, r, t, b] : Nat) : Int) + 7) (by omega) (by omega),
        show 5 + 4 * ((WL [l, r, t, b] : Nat) : Int) + 7 = ((5 + 4 * WL [l, r, t, b] + 7 : Nat) : Int) by omega, show (8 : Int) = ((8 : Nat) : Int) from rfl, tdivN, wrap64 (by omega) (by omega)]
      have : (rectW l r t b ([], 0)).1.length = (5 + 4 * WL [l, r, t, b] + 7) / 8 := by unfold rectW; omega
      rw [this]; simp
    · rw [if_neg hr]; exact .no (by decide) (.pure _)
  · unfold putMatF
    by_cases hm : matB 65536 0 0 65536 x y = true
    · rw [if_pos hm]
      have e : matW 65536 0 0 65536 x y ([], 0) = nums 5 [x, y] (flagW false (flagW false ([], 0))) := rfl
      obtain ⟨a1, _, c1, _⟩ := flagW_ok false ([], 0) (ok_zero [])
      obtain ⟨a2, _, c2, _⟩ := flagW_ok false _ a1
      obtain ⟨a, _, c, _⟩ := nums_ok 5 [x, y] _ a2
      obtain ⟨e1, e2⟩ := a.len
      have hw := (matB_fits hm).2.2.wl
      have e0 : wl (([], 0) : Wt) = 0 := rfl
      rw [e0] at c1
      simp only [List.length_cons, List.length_nil] at c
      rw [e]
      refine .no rfl (.bind (width_l (l := [x, y]) i2 (by simp)) ?_)
      simp only [List.getD_cons_zero, PV.toI]
      rw [wrap64 (n := 2 * ((WL [x, y] : Nat) : Int)) (by omega) (by omega), wrap64 (n := 7 + 2 * ((WL [x, y] : Nat) : Int)) (by omega) (by omega), wrap64 (n := 7 + 2 * ((WL [x, y] : Nat) : Int) + 7) (by omega) (by omega),
        show 7 + 2 * ((WL [x, y] : Nat) : Int) + 7 = ((7 + 2 * WL [x, y] + 7 : Nat) : Int) by omega, show (8 : Int) = ((8 : Nat) : Int) from rfl, tdivN, wrap64 (by omega) (by omega)]
      have : (nums 5 [x, y] (flagW false (flagW false ([], 0)))).1.length = (7 + 2 * WL [x, y] + 7) / 8 := by omega
      rw [this]
      exact .yes (by simp) (.bind awake07 (.pure _))
    · rw [if_neg hm]; exact .yes (by decide) (.bind awake07 (.pure _))
end Go.AI
