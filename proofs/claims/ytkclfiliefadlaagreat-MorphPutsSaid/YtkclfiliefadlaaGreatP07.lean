/- What the field layer writes: numbers with their width ahead; flags. -/
import Derived.Test.YtkclfiliefadlaaGreatP02
set_option linter.unusedVariables false
set_option linter.unusedSimpArgs false
set_option maxRecDepth 100000
namespace Go.AI
open Go Go.Proofs

def ints (l : List Int) : List (List PV) := l.map fun v => [.i v]
theorem ints_length (l : List Int) : (ints l).length = l.length := by simp [ints]
theorem elI_ints {l : List Int} {i : Nat} (h : i < l.length) : elI (ints l) i = l.getD i 0 := by
  simp [elI, ints, List.getD, h, PV.toI]
/-- the greatest width -/
def WL (l : List Int) : Nat := widthL (ints l) l.length
theorem widthL_ge (l : List Int) : ∀ n i, i < n → n ≤ l.length → widthN (l.getD i 0) ≤ widthL (ints l) n
  | 0, i, h, _ => absurd h (Nat.not_lt_zero _)
  | n + 1, i, h, hn => by
    simp only [widthL, elI_ints (show n < l.length by omega)]
    by_cases e : i = n
    · subst e; omega
    · have := widthL_ge l n i (by omega) (by omega); omega
theorem WL_ge {l : List Int} {v : Int} (h : v ∈ l) : widthN v ≤ WL l := by
  obtain ⟨i, hi, rfl⟩ := List.mem_iff_getElem.1 h
  have := widthL_ge l l.length i hi (Nat.le_refl _)
  rwa [show l.getD i 0 = l[i] by simp [List.getD, hi]] at this
theorem widthL_bound {l : List Int} {b : Nat} (h : ∀ v, v ∈ l → widthN v ≤ b) : ∀ n, n ≤ l.length → widthL (ints l) n ≤ b
  | 0, _ => by simp [widthL]
  | n + 1, hn => by
    have := widthL_bound h n (by omega)
    simp only [widthL, elI_ints (show n < l.length by omega)]
    have h2 := h (l.getD n 0) (by rw [show l.getD n 0 = l[n] by simp [List.getD, show n < l.length by omega]]; exact List.getElem_mem _)
    omega
theorem WL_bound {l : List Int} {b : Nat} (h : ∀ v, v ∈ l → widthN v ≤ b) : WL l ≤ b := widthL_bound h _ (Nat.le_refl _)
theorem widthN_abs {v : Int} {n : Nat} (hn : 0 < n) (h : -((2 ^ (n - 1) : Nat) : Int) ≤ v ∧ v < ((2 ^ (n - 1) : Nat) : Int)) : widthN v ≤ n := by
  by_cases h0 : v = 0
  · subst h0; rw [widthN_zero]; omega
  · exact (widthN_le h0 hn).2 h

/-- numbers, one behind the other -/
def numsW (n : Nat) : List Int → Wt → Wt
  | [], w => w
  | v :: l, w => numsW n l (putN (signU v n).toNat n w)
theorem numsW_ok (n : Nat) : ∀ (l : List Int) (w : Wt), WOk w → WOk (numsW n l w) ∧ WExt w (numsW n l w) ∧ wl (numsW n l w) = wl w + n * l.length ∧ (numsW n l w).1.length ≤ w.1.length + n * l.length
  | [], w, h => ⟨h, WExt.refl _, by simp [numsW], by simp [numsW]⟩
  | v :: l, w, h => by
    obtain ⟨a, b, c, d, e⟩ := putN_ext (signU v n).toNat n w h
    obtain ⟨a2, b2, c2, e2⟩ := numsW_ok n l _ a
    refine ⟨a2, b.trans b2, ?_, ?_⟩
    · simp only [numsW, List.length_cons, Nat.mul_succ]; rw [c2, c]; omega
    · simp only [numsW, List.length_cons, Nat.mul_succ]; omega

theorem ints_get {l : List Int} {i : Nat} (h : i < l.length) : elemAt (ints l) (i : Int) = [.i (l.getD i 0)] := by
  rw [elemAt_nat]; simp [ints, List.getD, h]
theorem ints_I64 {l : List Int} (h : ∀ v, v ∈ l → I64 v) : ∀ i, i < (ints l).length → I64 (elI (ints l) i) := fun i hi => by
  rw [ints_length] at hi
  rw [elI_ints hi]
  exact h _ (by rw [show l.getD i 0 = l[i] by simp [List.getD, hi]]; exact List.getElem_mem _)

abbrev wbox (w : Wt) : List BX := [(t_q41, [.s w.1, .i ((w.2 : Nat) : Int)])]
theorem wplain_ans {w : Wt} (hw : WOk w) (hl : w.1.length ≤ 500000000) {v n : Nat} (hn : n ≤ 31) (hv : v < 2 ^ n) : Ans (fun k => call k f_q114 [.u, .i (v : Int), .i (n : Int)] (wbox w)) ([], wbox (putN v n w)) := by
  have hp : 2 ^ n ≤ 2 ^ 31 := Nat.pow_le_pow_right (by decide) hn
  have hp : 2 ^ n ≤ 2147483648 := hp
  refine Ans.succ (fun k => u_q114 k v n w.1 w.2) (.bind (putPlain_ans hl w.2 v n (by omega)) ?_)
  rw [putPlain_ok hw hn hv]
  exact .pure _
theorem wflag_ans {w : Wt} (hw : WOk w) (hl : w.1.length ≤ 500000000) (b : Bool) : Ans (fun k => call k f_q104 [.u, .b b] (wbox w)) ([], wbox (putN b.toNat 1 w)) := by
  refine Ans.succ (fun k => u_q104 k b w.1 w.2) ?_
  cases b with
  | true => exact .yes rfl (.bind (wplain_ans hw hl (v := 1) (n := 1) (by omega) (by omega)) (.pure _))
  | false => exact .no rfl (.bind (wplain_ans hw hl (v := 0) (n := 1) (by omega) (by omega)) (.pure _))
theorem wdone_ans (w : Wt) : Ans (fun k => call k f_q90 [.u] (wbox w)) ([.s w.1, .i 0], wbox w) :=
  Ans.succ (fun k => u_q90 k w.1 w.2) (.bind (putAlign_ans w.1 w.2) (.pure _))

theorem wsigned_loop {l : List Int} (hI : ∀ v, v ∈ l → I64 v) {n : Nat} (hn : n ≤ 31) (hv : ∀ v, v ∈ l → widthN v ≤ n) (hll : l.length ≤ 100) : ∀ (rest pre : List Int) (w : Wt), l = pre ++ rest → WOk w → w.1.length + 31 * rest.length ≤ 500000000 →
    Ans (fun k => run k f_q22 [t_q41] at_q37 (S_q37 n (ints l) l.length pre.length w.1 w.2)) ([], wbox (numsW n rest w))
  | [], pre, w, hp, hw, hl => by
    refine Ans.succ (fun k => u_q37 k ..) ?_
    exact .no (by rw [hp]; simp) (.pure _)
  | v :: rest, pre, w, hp, hw, hl => by
    refine Ans.succ (fun k => u_q37 k ..) ?_
    have hlen : l.length = pre.length + rest.length + 1 := by rw [hp]; simp; omega
    have hm : v ∈ l := by rw [hp]; simp
    have hget : l.getD pre.length 0 = v := by rw [hp]; simp [List.getD]
    have e2 : IntKind.wrap .i64 ((pre.length : Int) + 1) = (((pre ++ [v]).length : Nat) : Int) := by rw [wrap64 (by omega) (by omega)]; simp
    obtain ⟨a, b, c, d, e⟩ := putN_ext (signU v n).toNat n w hw
    rw [List.length_cons] at hl
    rw [ints_get (by omega), hget, e2]
    refine .yes (by simp; omega) (.yes (by unfold inB; simp [ints_length]; omega) (.bind (putSigned_ans (by omega) w.2 v n (hI v hm)) ?_))
    rw [putSigned_ok hw hn (hv v hm)]
    exact wsigned_loop hI hn hv hll rest (pre ++ [v]) _ (by rw [hp]; simp) a (by omega)
theorem wsigned_ans {l : List Int} (hI : ∀ v, v ∈ l → I64 v) {h : Nat} (hn : WL l ≤ 31) (hh : h ≤ 31) (hw2 : WL l < 2 ^ h) (hll : l.length ≤ 100) {w : Wt} (hw : WOk w) (hl : w.1.length + 31 * l.length + 31 ≤ 500000000) :
    Ans (fun k => call k f_q22 [.u, .i (h : Int), .l (ints l)] (wbox w)) ([], wbox (numsW (WL l) l (putN (WL l) h w))) := by
  refine Ans.succ (fun k => u_q22 k h (ints l) w.1 w.2) ?_
  have hwid : Ans (fun k => call k f_q133 [.l (ints l)] []) ([.i ((WL l : Nat) : Int)], []) := by
    have := width_ans (es := ints l) (by rw [ints_length]; omega) (ints_I64 hI)
    rw [ints_length] at this
    exact this
  obtain ⟨a, b, c, d, e⟩ := putN_ext (WL l) h w hw
  refine .bind hwid (.bind (wplain_ans hw (by omega) hh hw2) ?_)
  rw [ints_length]
  exact wsigned_loop hI hn (fun v hv => WL_ge hv) hll l [] _ rfl a (by omega)

/-! ### the document's -/
theorem rwidthL_loop {l : List Int} (hI : ∀ v, v ∈ l → I64 v) (hll : l.length ≤ 100) : ∀ j i, i + j = l.length →
    Ans (fun k => run k f_q126 [] at_q66 (S_q66 (ints l) (widthL (ints l) i) i)) ([.i ((WL l : Nat) : Int)], [])
  | 0, i, h => by
    obtain rfl : i = l.length := h
    refine Ans.succ (fun k => u_q66 k ..) ?_
    exact .no (by simp [ints_length]) (.pure _)
  | j + 1, i, h => by
    refine Ans.succ (fun k => u_q66 k ..) ?_
    have hv : I64 (l.getD i 0) := hI _ (by rw [show l.getD i 0 = l[i]'(by omega) by simp [List.getD, show i < l.length by omega]]; exact List.getElem_mem _)
    have e2 : IntKind.wrap .i64 ((i : Int) + 1) = ((i + 1 : Nat) : Int) := by rw [wrap64 (by omega) (by omega)]; rfl
    have hi : inB (i : Int) (ints l).length = true := by unfold inB; simp [ints_length]; omega
    rw [ints_get (by omega), e2]
    simp only [List.getD_cons_zero, PV.toI]
    refine .yes (by simp [ints_length]; omega) (.yes hi (.bind (rwidth_ans hv) ?_))
    simp only [List.getD_cons_zero, PV.toI]
    refine .ite (fun hc => .yes hi (.bind (rwidth_ans hv) ?_)) (fun hc => ?_)
    · simp only [List.getD_cons_zero, PV.toI]
      have hc : ((widthN (l.getD i 0) : Nat) : Int) > ((widthL (ints l) i : Nat) : Int) := by simpa using hc
      have e : widthL (ints l) (i + 1) = widthN (l.getD i 0) := by simp only [widthL, elI_ints (show i < l.length by omega)]; omega
      rw [← e]
      exact rwidthL_loop hI hll j (i + 1) (by omega)
    · have hc : ¬ ((widthN (l.getD i 0) : Nat) : Int) > ((widthL (ints l) i : Nat) : Int) := by simpa using hc
      have e : widthL (ints l) (i + 1) = widthL (ints l) i := by simp only [widthL, elI_ints (show i < l.length by omega)]; omega
      have := rwidthL_loop hI hll j (i + 1) (by omega)
      rw [e] at this
      exact this
theorem rwidthL_ans {l : List Int} (hI : ∀ v, v ∈ l → I64 v) (hll : l.length ≤ 100) : Ans (fun k => call k f_q126 [.l (ints l)] []) ([.i ((WL l : Nat) : Int)], []) :=
  Ans.succ (fun k => u_q126 k (ints l)) (rwidthL_loop hI hll l.length 0 (by omega))
theorem rflag_ans {w : Wt} (hw : WOk w) (hl : w.1.length ≤ 500000000) (b : Bool) : Ans (fun k => call k f_q79 [.s w.1, .i ((w.2 : Nat) : Int), .b b] []) ([.s (putN b.toNat 1 w).1, .i (((putN b.toNat 1 w).2 : Nat) : Int)], []) := by
  refine Ans.succ (fun k => u_q79 k w.1 w.2 b) ?_
  cases b with
  | true =>
    refine .yes rfl (.bind (rputPlain_ans hl w.2 1 1 (by decide)) ?_)
    have := rputPlain_ok hw (v := 1) (n := 1) (by omega) (by omega)
    rw [show ((1 : Nat) : Int) = 1 from rfl] at this
    rw [this]
    exact .pure _
  | false =>
    refine .no rfl (.bind (rputPlain_ans hl w.2 0 1 (by decide)) ?_)
    have := rputPlain_ok hw (v := 0) (n := 1) (by omega) (by omega)
    rw [show ((1 : Nat) : Int) = 1 from rfl, show ((0 : Nat) : Int) = 0 from rfl] at this
    rw [this]
    exact .pure _
theorem rnums_loop {l : List Int} (hI : ∀ v, v ∈ l → I64 v) {n : Nat} (hn : n ≤ 31) (hv : ∀ v, v ∈ l → widthN v ≤ n) (hll : l.length ≤ 100) (o1 : List UInt8) (o2 : Int) : ∀ (rest pre : List Int) (w : Wt), l = pre ++ rest → WOk w → w.1.length + 31 * rest.length ≤ 500000000 →
    Ans (fun k => run k f_q9 [] at_q73 (S_q73 (ints l) n pre.length w.1 w.2 o1 o2)) ([.s (numsW n rest w).1, .i (((numsW n rest w).2 : Nat) : Int)], [])
  | [], pre, w, hp, hw, hl => by
    refine Ans.succ (fun k => u_q73 k ..) ?_
    exact .no (by rw [ints_length, hp]; simp) (.pure _)
  | v :: rest, pre, w, hp, hw, hl => by
    refine Ans.succ (fun k => u_q73 k ..) ?_
    have hlen : l.length = pre.length + rest.length + 1 := by rw [hp]; simp; omega
    have hm : v ∈ l := by rw [hp]; simp
    have hget : l.getD pre.length 0 = v := by rw [hp]; simp [List.getD]
    have e2 : IntKind.wrap .i64 ((pre.length : Int) + 1) = (((pre ++ [v]).length : Nat) : Int) := by rw [wrap64 (by omega) (by omega)]; simp
    obtain ⟨a, b, c, d, e⟩ := putN_ext (signU v n).toNat n w hw
    rw [List.length_cons] at hl
    rw [ints_get (by omega), hget, e2]
    refine .yes (by simp [ints_length]; omega) (.yes (by unfold inB; simp [ints_length]; omega) (.bind (rputSigned_ans (by omega) w.2 v n (hI v hm)) ?_))
    rw [rputSigned_ok hw hn (hv v hm)]
    exact rnums_loop hI hn hv hll o1 o2 rest (pre ++ [v]) _ (by rw [hp]; simp) a (by omega)
theorem rnums_ans {l : List Int} (hI : ∀ v, v ∈ l → I64 v) {h : Nat} (hn : WL l ≤ 31) (hh : h ≤ 31) (hw2 : WL l < 2 ^ h) (hll : l.length ≤ 100) {w : Wt} (hw : WOk w) (hl : w.1.length + 31 * l.length + 31 ≤ 500000000) :
    Ans (fun k => call k f_q9 [.s w.1, .i ((w.2 : Nat) : Int), .i (h : Int), .l (ints l)] []) ([.s (numsW (WL l) l (putN (WL l) h w)).1, .i (((numsW (WL l) l (putN (WL l) h w)).2 : Nat) : Int)], []) := by
  refine Ans.succ (fun k => u_q9 k w.1 w.2 h (ints l)) ?_
  obtain ⟨a, b, c, d, e⟩ := putN_ext (WL l) h w hw
  refine .bind (rwidthL_ans hI hll) (.bind (rputPlain_ans (by omega) w.2 (WL l) h (by have : 2 ^ h ≤ 2 ^ 31 := Nat.pow_le_pow_right (by decide) hh; have : 2 ^ h ≤ 2147483648 := this; omega)) ?_)
  rw [rputPlain_ok hw hh hw2]
  exact rnums_loop hI hn (fun v hv => WL_ge hv) hll [] 0 l [] _ rfl a (by omega)

/-! ### behind other bytes -/
theorem put1_pre (s t : List UInt8) {f b : Nat} (h : WOk (t, f)) : put1 (s ++ t) f b = (s ++ (put1 t f b).1, (put1 t f b).2) := by
  unfold put1
  by_cases h0 : f = 0
  · rw [if_pos h0, if_pos h0, List.append_assoc]
  · rw [if_neg h0, if_neg h0]
    have h3 : t ≠ [] := (h.2 h0).1
    have hl : 0 < t.length := List.length_pos_iff.2 h3
    have e : (s ++ t).length - 1 = s.length + (t.length - 1) := by rw [List.length_append]; omega
    have e2 : (s ++ t).getD ((s ++ t).length - 1) 0 = t.getD (t.length - 1) 0 := by
      simp only [List.getD]
      rw [e, List.getElem?_append_right (by omega), Nat.add_sub_cancel_left]
    rw [e2, e, List.set_append_right _ _ (by omega), Nat.add_sub_cancel_left]
theorem putN_pre (s : List UInt8) (v : Nat) : ∀ (n : Nat) (w : Wt), WOk w → putN v n (s ++ w.1, w.2) = (s ++ (putN v n w).1, (putN v n w).2)
  | 0, w, _ => rfl
  | n + 1, w, h => by
    simp only [putN]
    rw [put1_pre s w.1 h]
    exact putN_pre s v n _ (put1_ok h (Nat.mod_lt _ (by decide))).1
theorem numsW_pre (s : List UInt8) (n : Nat) : ∀ (l : List Int) (w : Wt), WOk w → numsW n l (s ++ w.1, w.2) = (s ++ (numsW n l w).1, (numsW n l w).2)
  | [], w, _ => rfl
  | v :: l, w, h => by
    simp only [numsW]
    rw [putN_pre s _ n w h]
    exact numsW_pre s n l _ (putN_ext _ n w h).1
end Go.AI
set_option linter.unusedVariables false
set_option linter.unusedSimpArgs false
set_option maxRecDepth 100000
namespace Go.AI
open Go Go.Proofs

theorem Ans.andB {m : Nat → Option Res} {c d : Bool} {y : Nat → Option (List PV)} (h : Ans m ([.b c], [])) (h2 : c = true → Ans y [.b d]) :
    Ans (fun k => (m k).bind fun r => bif (r.1.getD 0 .u).toB then y k else some [.b false]) [.b (c && d)] := by
  refine .bind h ?_
  simp only [List.getD_cons_zero, PV.toB]
  cases c with
  | true => exact .yes rfl (h2 rfl)
  | false => exact .no rfl (.pure _)

def inB2 (a b v : Int) : Bool := decide (a ≤ v) && decide (v ≤ b)
theorem within_loop {a b : Int} {l : List Int} (hll : l.length ≤ 100) : ∀ (rest pre : List Int), l = pre ++ rest →
    Ans (fun k => run k f_q164 [] at_q134 (S_q134 a b (ints l) l.length pre.length)) ([.b (rest.all (inB2 a b))], [])
  | [], pre, hp => by
    refine Ans.succ (fun k => u_q134 k ..) ?_
    exact .no (by rw [hp]; simp) (.pure _)
  | v :: rest, pre, hp => by
    refine Ans.succ (fun k => u_q134 k ..) ?_
    have hlen : l.length = pre.length + rest.length + 1 := by rw [hp]; simp; omega
    have hget : l.getD pre.length 0 = v := by rw [hp]; simp [List.getD]
    have e2 : IntKind.wrap .i64 ((pre.length : Int) + 1) = (((pre ++ [v]).length : Nat) : Int) := by rw [wrap64 (by omega) (by omega)]; simp
    have ih := within_loop (a := a) (b := b) hll rest (pre ++ [v]) (by rw [hp]; simp)
    rw [ints_get (by omega), hget, e2]
    simp only [List.getD_cons_zero, PV.toI]
    refine .yes (by simp; omega) (.yes (by unfold inB; simp [ints_length]; omega) (.bind (x := [.b (!inB2 a b v)]) ?_ ?_))
    · unfold inB2
      refine .ite (fun h => .pure' ?_) (fun h => .pure' ?_)
      · have : decide (a ≤ v) = false := by simp at h ⊢; omega
        rw [this]; rfl
      · have h1 : decide (a ≤ v) = true := by simp at h ⊢; omega
        have h2 : decide (v > b) = !decide (v ≤ b) := by
          by_cases c : v ≤ b
          · rw [decide_eq_true c, decide_eq_false (by omega)]; rfl
          · rw [decide_eq_false c, decide_eq_true (by omega)]; rfl
        rw [h1, h2]; rfl
    · simp only [List.getD_cons_zero, PV.toB]
      refine .ite (fun h => .pure' ?_) (fun h => ?_)
      · have : inB2 a b v = false := by simpa using h
        rw [List.all_cons, this]; rfl
      · have : inB2 a b v = true := by simpa using h
        rw [List.all_cons, this]; exact ih
theorem within_ans (a b : Int) {l : List Int} (hll : l.length ≤ 100) : Ans (fun k => call k f_q164 [.i a, .i b, .l (ints l)] []) ([.b (l.all (inB2 a b))], []) := by
  refine Ans.succ (fun k => u_q164 k a b (ints l)) ?_
  rw [ints_length]
  exact within_loop hll l [] rfl

def rectB (l r t b : Int) : Bool := [l, r, t, b].all (inB2 (-1048576) 1048576) && (decide (l ≤ r) && decide (t ≤ b))
def matB (a b c d x y : Int) : Bool := [a, b, c, d].all (inB2 (-4194304) 4194304) && [x, y].all (inB2 (-1048576) 1048576)
theorem rightRect_ans (l r t b : Int) : Ans (fun k => call k f_q179 [.i l, .i r, .i t, .i b] []) ([.b (rectB l r t b)], []) := by
  refine Ans.succ (fun k => u_q179 k l r t b) ?_
  refine .bind (x := [.b (rectB l r t b)]) (.andB (within_ans (-1048576) 1048576 (l := [l, r, t, b]) (by simp)) (fun _ => ?_)) (.pure _)
  exact .ite (fun h => .pure' (by rw [h]; rfl)) (fun h => .pure' (by rw [h]; rfl))
theorem rightMatrix_ans (a b c d x y : Int) : Ans (fun k => call k f_q123 [.i a, .i b, .i c, .i d, .i x, .i y] []) ([.b (matB a b c d x y)], []) := by
  refine Ans.succ (fun k => u_q123 k a b c d x y) ?_
  exact .bind (x := [.b (matB a b c d x y)]) (.andB (within_ans (-4194304) 4194304 (l := [a, b, c, d]) (by simp)) (fun _ => .bind (within_ans (-1048576) 1048576 (l := [x, y]) (by simp)) (.pure _))) (.pure _)

/-- numbers with their width ahead -/
def nums (h : Nat) (l : List Int) (w : Wt) : Wt := numsW (WL l) l (putN (WL l) h w)
theorem nums_ok (h : Nat) (l : List Int) (w : Wt) (hw : WOk w) : WOk (nums h l w) ∧ WExt w (nums h l w) ∧ wl (nums h l w) = wl w + h + WL l * l.length ∧ (nums h l w).1.length ≤ w.1.length + h + WL l * l.length := by
  obtain ⟨a, b, c, d, e⟩ := putN_ext (WL l) h w hw
  obtain ⟨a2, b2, c2, d2⟩ := numsW_ok (WL l) l _ a
  refine ⟨a2, b.trans b2, ?_, ?_⟩
  · unfold nums; rw [c2, c]
  · unfold nums; omega
theorem nums_pre (s : List UInt8) (h : Nat) (l : List Int) (w : Wt) (hw : WOk w) : nums h l (s ++ w.1, w.2) = (s ++ (nums h l w).1, (nums h l w).2) := by
  unfold nums
  rw [putN_pre s _ h w hw]
  exact numsW_pre s _ l _ (putN_ext _ h w hw).1
/-- numbers that fit -/
def Fits (l : List Int) : Prop := ∀ v, v ∈ l → -4194304 ≤ v ∧ v ≤ 4194304
theorem Fits.i64 {l : List Int} (h : Fits l) : ∀ v, v ∈ l → I64 v := fun v hv => by have := h v hv; unfold I64; omega
theorem Fits.wl {l : List Int} (h : Fits l) : WL l ≤ 24 := WL_bound fun v hv => by
  have := h v hv
  refine widthN_abs (by omega) ?_
  have e : ((2 ^ (24 - 1) : Nat) : Int) = 8388608 := rfl
  rw [e]; omega
theorem inB2_iff {a b v : Int} : inB2 a b v = true ↔ a ≤ v ∧ v ≤ b := by unfold inB2; simp
theorem rectB_fits {l r t b : Int} (h : rectB l r t b = true) : Fits [l, r, t, b] := by
  unfold rectB at h
  rw [Bool.and_eq_true, List.all_eq_true] at h
  intro v hv
  have := inB2_iff.1 (h.1 v hv)
  omega
theorem matB_fits {a b c d x y : Int} (h : matB a b c d x y = true) : Fits [a, d] ∧ Fits [b, c] ∧ Fits [x, y] := by
  unfold matB at h
  rw [Bool.and_eq_true, List.all_eq_true, List.all_eq_true] at h
  have g1 : ∀ v, v ∈ [a, b, c, d] → -4194304 ≤ v ∧ v ≤ 4194304 := fun v hv => inB2_iff.1 (h.1 v hv)
  have g2 : ∀ v, v ∈ [x, y] → -1048576 ≤ v ∧ v ≤ 1048576 := fun v hv => inB2_iff.1 (h.2 v hv)
  refine ⟨fun v hv => g1 v (by simp at hv ⊢; rcases hv with h | h <;> simp [h]), fun v hv => g1 v (by simp at hv ⊢; rcases hv with h | h <;> simp [h]), fun v hv => ?_⟩
  have := g2 v hv
  omega
theorem nums_ans {l : List Int} (hf : Fits l) {h : Nat} (hh : h = 5) (hll : l.length ≤ 8) {w : Wt} (hw : WOk w) (hl : w.1.length ≤ 490000000) :
    Ans (fun k => call k f_q22 [.u, .i (h : Int), .l (ints l)] (wbox w)) ([], wbox (nums h l w)) := by
  have h24 := hf.wl
  exact wsigned_ans hf.i64 (by omega) (by omega) (by rw [hh]; show WL l < 32; omega) (by omega) hw (by omega)

/-- a rectangle's bytes, ahead of its alignment -/
def rectW (l r t b : Int) (w : Wt) : Wt := nums 5 [l, r, t, b] w
def putRectF (s : List UInt8) (l r t b : Int) : List UInt8 × Int × Int := if rectB l r t b = true then ((rectW l r t b (s, 0)).1, 0, 0) else ([], 0, 1)
theorem putRect_ans {s : List UInt8} (hs : s.length ≤ 450000000) (f l r t b : Int) : Ans (fun k => call k f_q194 [.s s, .i f, .i l, .i r, .i t, .i b] []) (encW (putRectF s l r t b)) := by
  refine Ans.succ (fun k => u_q194 k s f l r t b) ?_
  refine .bind (rightRect_ans l r t b) ?_
  simp only [List.getD_cons_zero, PV.toB]
  unfold putRectF
  refine .ite (fun h => ?_) (fun h => ?_)
  · have h : rectB l r t b = false := by simpa using h
    rw [if_neg (by rw [h]; decide)]; exact .pure _
  · have h : rectB l r t b = true := by simpa using h
    rw [if_pos h]
    refine .bind (putAlign_ans s f) ?_
    simp only [List.getD_cons_zero, List.getD_cons_succ, PV.toI, PV.toS]
    refine .bind (nums_ans (rectB_fits h) rfl (by simp) (w := (s, 0)) (ok_zero s) (by show s.length ≤ 490000000; omega)) ?_
    exact .bind (wdone_ans (nums 5 [l, r, t, b] (s, 0))) (.pure _)

def flagW (b : Bool) (w : Wt) : Wt := putN b.toNat 1 w
theorem wflag' {w : Wt} (hw : WOk w) (hl : w.1.length ≤ 500000000) (b : Bool) : Ans (fun k => call k f_q104 [.u, .b b] (wbox w)) ([], wbox (flagW b w)) := wflag_ans hw hl b
theorem flagW_ok (b : Bool) (w : Wt) (hw : WOk w) : WOk (flagW b w) ∧ WExt w (flagW b w) ∧ wl (flagW b w) = wl w + 1 ∧ (flagW b w).1.length ≤ w.1.length + 1 := by
  obtain ⟨a, b, c, d, e⟩ := putN_ext b.toNat 1 w hw
  exact ⟨a, b, c, e⟩
def optW (c : Bool) (l : List Int) (w : Wt) : Wt := if c = true then nums 5 l w else w
theorem optW_ok (c : Bool) (l : List Int) (w : Wt) (hw : WOk w) : WOk (optW c l w) ∧ WExt w (optW c l w) ∧ wl (optW c l w) = wl w + (if c = true then 5 + WL l * l.length else 0) ∧ (optW c l w).1.length ≤ w.1.length + 5 + WL l * l.length := by
  unfold optW
  cases c with
  | true =>
    obtain ⟨a, b, c, d⟩ := nums_ok 5 l w hw
    exact ⟨a, b, by simp only [if_true]; omega, d⟩
  | false => exact ⟨hw, WExt.refl _, rfl, by simp only [Bool.false_eq_true, if_false]; omega⟩
/-- a matrix's bits -/
def matW (a b c d x y : Int) (w : Wt) : Wt :=
  nums 5 [x, y] (optW (b != 0 || c != 0) [b, c] (flagW (b != 0 || c != 0) (optW (a != 65536 || d != 65536) [a, d] (flagW (a != 65536 || d != 65536) w))))
theorem matW_ok (a b c d x y : Int) (w : Wt) (hw : WOk w) : WOk (matW a b c d x y w) ∧ WExt w (matW a b c d x y w) := by
  obtain ⟨a1, b1, _⟩ := flagW_ok (a != 65536 || d != 65536) w hw
  obtain ⟨a2, b2, _⟩ := optW_ok (a != 65536 || d != 65536) [a, d] _ a1
  obtain ⟨a3, b3, _⟩ := flagW_ok (b != 0 || c != 0) _ a2
  obtain ⟨a4, b4, _⟩ := optW_ok (b != 0 || c != 0) [b, c] _ a3
  obtain ⟨a5, b5, _⟩ := nums_ok 5 [x, y] _ a4
  exact ⟨a5, b1.trans (b2.trans (b3.trans (b4.trans b5)))⟩
def putMatF (s : List UInt8) (a b c d x y : Int) : List UInt8 × Int × Int := if matB a b c d x y = true then ((matW a b c d x y (s, 0)).1, 0, 0) else ([], 0, 1)
theorem putMat_ans {s : List UInt8} (hs : s.length ≤ 450000000) (f a b c d x y : Int) : Ans (fun k => call k f_q145 [.s s, .i f, .i a, .i b, .i c, .i d, .i x, .i y] []) (encW (putMatF s a b c d x y)) := by
  refine Ans.succ (fun k => u_q145 k s f a b c d x y) ?_
  refine .bind (rightMatrix_ans a b c d x y) ?_
  simp only [List.getD_cons_zero, PV.toB]
  unfold putMatF
  refine .ite (fun h => ?_) (fun h => ?_)
  · have h : matB a b c d x y = false := by simpa using h
    rw [if_neg (by rw [h]; decide)]; exact .pure _
  · have h : matB a b c d x y = true := by simpa using h
    rw [if_pos h]
    obtain ⟨f1, f2, f3⟩ := matB_fits h
    have w1 := f1.wl
    have w2 := f2.wl
    refine .bind (putAlign_ans s f) ?_
    simp only [List.getD_cons_zero, List.getD_cons_succ, PV.toI, PV.toS]
    obtain ⟨p, hp⟩ : ∃ p, p = (a != 65536 || d != 65536) := ⟨_, rfl⟩
    obtain ⟨q, hq⟩ : ∃ q, q = (b != 0 || c != 0) := ⟨_, rfl⟩
    refine .bind (x := [.b p, .b q]) ?_ ?_
    · rw [hp, hq]
      refine .ite (fun h1 => .ite (fun h2 => .pure' (by rw [h1, h2]; rfl)) (fun h2 => .pure' (by rw [h1, h2]; rfl))) (fun h1 => .ite (fun h2 => .pure' (by rw [h1, h2]; rfl)) (fun h2 => .pure' (by rw [h1, h2]; rfl)))
    · simp only [List.getD_cons_zero, List.getD_cons_succ, PV.toB]
      have hs0 : WOk ((s, 0) : Wt) := ok_zero s
      obtain ⟨o1, _, _, l1⟩ := flagW_ok p (s, 0) hs0
      obtain ⟨o2, _, _, l2⟩ := optW_ok p [a, d] _ o1
      obtain ⟨o3, _, _, l3⟩ := flagW_ok q _ o2
      obtain ⟨o4, _, _, l4⟩ := optW_ok q [b, c] _ o3
      have l1 : (flagW p (s, 0)).1.length ≤ s.length + 1 := l1
      simp only [List.length_cons, List.length_nil] at l2 l4
      have e : matW a b c d x y (s, 0) = nums 5 [x, y] (optW q [b, c] (flagW q (optW p [a, d] (flagW p (s, 0))))) := by rw [hp, hq]; rfl
      rw [e]
      refine .bind (wflag' hs0 (by show s.length ≤ 500000000; omega) p) (.ite (fun hp1 => ?_) (fun hp1 => ?_))
      · have eo : ∀ w, optW p [a, d] w = nums 5 [a, d] w := fun w => by unfold optW; rw [if_pos hp1]
        rw [eo] at o2 l2 o3 l3 o4 l4 ⊢
        refine .bind (nums_ans f1 rfl (by simp) o1 (by omega)) (.bind (wflag' o2 (by omega) q) (.ite (fun hq1 => ?_) (fun hq1 => ?_)))
        · have eq : ∀ w, optW q [b, c] w = nums 5 [b, c] w := fun w => by unfold optW; rw [if_pos hq1]
          rw [eq] at o4 l4 ⊢
          refine .bind (nums_ans f2 rfl (by simp) o3 (by omega)) (.bind (nums_ans f3 rfl (by simp) o4 (by omega)) ?_)
          exact .bind (wdone_ans _) (.pure _)
        · have eq : ∀ w, optW q [b, c] w = w := fun w => by unfold optW; rw [if_neg (by rw [hq1]; decide)]
          rw [eq] at o4 l4 ⊢
          refine .bind (nums_ans f3 rfl (by simp) o4 (by omega)) ?_
          exact .bind (wdone_ans _) (.pure _)
      · have eo : ∀ w, optW p [a, d] w = w := fun w => by unfold optW; rw [if_neg (by rw [hp1]; decide)]
        rw [eo] at o2 l2 o3 l3 o4 l4 ⊢
        refine .bind (wflag' o2 (by omega) q) (.ite (fun hq1 => ?_) (fun hq1 => ?_))
        · have eq : ∀ w, optW q [b, c] w = nums 5 [b, c] w := fun w => by unfold optW; rw [if_pos hq1]
          rw [eq] at o4 l4 ⊢
          refine .bind (nums_ans f2 rfl (by simp) o3 (by omega)) (.bind (nums_ans f3 rfl (by simp) o4 (by omega)) ?_)
          exact .bind (wdone_ans _) (.pure _)
        · have eq : ∀ w, optW q [b, c] w = w := fun w => by unfold optW; rw [if_neg (by rw [hq1]; decide)]
          rw [eq] at o4 l4 ⊢
          refine .bind (nums_ans f3 rfl (by simp) o4 (by omega)) ?_
          exact .bind (wdone_ans _) (.pure _)
end Go.AI
set_option linter.unusedVariables false
set_option linter.unusedSimpArgs false
set_option maxRecDepth 100000
namespace Go.AI
open Go Go.Proofs

/-- a reader's bytes, its place, its error -/
abbrev Rs := List UInt8 × Int × Int
def pl (σ : Rs) (n : Int) : Int × Rs := if σ.2.2 ≠ 0 then (0, σ) else plainF σ.1 σ.2.1 n
def sg (σ : Rs) (n : Int) : Int × Rs := if σ.2.2 ≠ 0 then (0, σ) else signedF σ.1 σ.2.1 n
def sgs (n : Int) : Nat → Rs → List Int × Rs
  | 0, σ => ([], σ)
  | m + 1, σ => ((sg σ n).1 :: (sgs n m (sg σ n).2).1, (sgs n m (sg σ n).2).2)
def LenOk (σ : Rs) : Prop := σ.1.length ≤ 2 ^ 40
theorem plainF_len {s : List UInt8} (h : s.length ≤ 2 ^ 40) (a n : Int) : (plainF s a n).2.1.length ≤ 2 ^ 40 := by
  rcases plainF_cases s a n with e | e | ⟨_, _, _, _, _, _, e⟩ <;> rw [e]
  · exact Nat.zero_le _
  · exact Nat.zero_le _
  · exact h
theorem pl_len {σ : Rs} (h : LenOk σ) (n : Int) : LenOk (pl σ n).2 := by
  unfold pl; split
  · exact h
  · exact plainF_len h _ _
theorem sg_len {σ : Rs} (h : LenOk σ) (n : Int) : LenOk (sg σ n).2 := by
  unfold sg; split
  · exact h
  · exact plainF_len h _ _
theorem sgs_len (n : Int) : ∀ (m : Nat) (σ : Rs), LenOk σ → LenOk (sgs n m σ).2
  | 0, _, h => h
  | m + 1, σ, h => sgs_len n m _ (sg_len h n)

abbrev rbox (σ : Rs) : List BX := [(t_q19, [.s σ.1, .i σ.2.1, .i σ.2.2])]
theorem rpl_ans {σ : Rs} (h : LenOk σ) (n : Int) : Ans (fun k => call k f_q29 [.u, .i n] (rbox σ)) ([.i (pl σ n).1], rbox (pl σ n).2) := by
  refine Ans.succ (fun k => u_q29 k n σ.1 σ.2.1 σ.2.2) ?_
  unfold pl
  refine .ite (fun e => ?_) (fun e => ?_)
  · rw [if_pos (by simpa using e)]; exact .pure _
  · rw [if_neg (by simpa using e)]
    exact .bind (plain_ans h _ n) (.pure _)
theorem rsg_ans {σ : Rs} (h : LenOk σ) (n : Int) : Ans (fun k => call k f_q11 [.u, .i n] (rbox σ)) ([.i (sg σ n).1], rbox (sg σ n).2) := by
  refine Ans.succ (fun k => u_q11 k n σ.1 σ.2.1 σ.2.2) ?_
  unfold sg
  refine .ite (fun e => ?_) (fun e => ?_)
  · rw [if_pos (by simpa using e)]; exact .pure _
  · rw [if_neg (by simpa using e)]
    exact .bind (signed_ans h _ n) (.pure _)
def doneF (σ : Rs) (ok : Bool) : Rs := if σ.2.2 ≠ 0 then ([], 0, σ.2.2) else if ok = false then ([], 0, 3) else (σ.1, alignF σ.1 σ.2.1, 0)
def encS (σ : Rs) : List PV := [.s σ.1, .i σ.2.1, .i σ.2.2]
theorem rdone_ans {σ : Rs} (h : LenOk σ) (ok : Bool) : Ans (fun k => call k f_q91 [.u, .b ok] (rbox σ)) (encS (doneF σ ok), rbox σ) := by
  refine Ans.succ (fun k => u_q91 k ok σ.1 σ.2.1 σ.2.2) ?_
  unfold doneF
  refine .ite (fun e => ?_) (fun e => ?_)
  · rw [if_pos (by simpa using e)]; exact .pure _
  · rw [if_neg (by simpa using e)]
    refine .ite (fun e2 => ?_) (fun e2 => ?_)
    · rw [if_pos (by simpa using e2)]; exact .pure _
    · rw [if_neg (by simpa using e2)]
      exact .bind (align_ans h _) (.pure _)
def beginP (s : List UInt8) (a : Int) : Rs := (s, alignF s a, if rightB s a = true then 0 else 1)
theorem begin_ans {s : List UInt8} (h : s.length ≤ 2 ^ 40) (a : Int) : Ans (fun k => call k f_q210 [.s s, .i a] []) ([.u], rbox (beginP s a)) := by
  refine Ans.succ (fun k => u_q210 k s a) (.bind (plain_ans h a 0) (.bind (align_ans h a) (.pure' ?_)))
  unfold beginP
  by_cases hr : rightB s a = true
  · have hr' := rightB_iff.1 hr
    have e : plainF s a 0 = (((fieldN s a.toNat 0 : Nat) : Int), s, a + 0, 0) := by
      unfold plainF
      rw [if_neg (ng hr (by decide) (by decide)), if_neg (by omega)]; rfl
    rw [e, if_pos hr]; rfl
  · have e : plainF s a 0 = (0, [], 0, 1) := by
      unfold plainF
      rw [if_pos (.inl (by simpa using hr))]
    rw [e, if_neg hr]; rfl

/-! ### the document's -/
def beginR (s : List UInt8) (a : Int) : Rs := if rightB s a = true then (s, alignF s a, 0) else ([], 0, 1)
theorem begin_len {s : List UInt8} (h : s.length ≤ 2 ^ 40) (a : Int) : LenOk (beginP s a) ∧ LenOk (beginR s a) := by
  refine ⟨h, ?_⟩
  unfold beginR; split
  · exact h
  · exact Nat.zero_le _

/-- numbers whose width stands ahead -/
def tk (h : Int) (m : Nat) (σ : Rs) : List Int × Rs := sgs (pl σ h).1 m (pl σ h).2
theorem tk_len (h : Int) (m : Nat) {σ : Rs} (hσ : LenOk σ) : LenOk (tk h m σ).2 := sgs_len _ _ _ (pl_len hσ h)
/-- a rectangle that is read -/
def takeRectF (σ : Rs) : (Int × Int × Int × Int) × Rs :=
  let q := tk 5 4 σ
  let d := doneF q.2 (rectB (q.1.getD 0 0) (q.1.getD 1 0) (q.1.getD 2 0) (q.1.getD 3 0))
  if d.2.2 ≠ 0 then ((0, 0, 0, 0), d) else ((q.1.getD 0 0, q.1.getD 1 0, q.1.getD 2 0, q.1.getD 3 0), d)
def encR (r : (Int × Int × Int × Int) × Rs) : Res := ([.i r.1.1, .i r.1.2.1, .i r.1.2.2.1, .i r.1.2.2.2] ++ encS r.2, [])
theorem takeRect_ans {s : List UInt8} (h : s.length ≤ 2 ^ 40) (a : Int) : Ans (fun k => call k f_q207 [.s s, .i a] []) (encR (takeRectF (beginP s a))) := by
  refine Ans.succ (fun k => u_q207 k s a) (.bind (begin_ans h a) ?_)
  have l0 := (begin_len h a).1
  generalize beginP s a = σ at l0 ⊢
  have l1 := pl_len l0 5
  have l2 := sg_len l1 (pl σ 5).1
  have l3 := sg_len l2 (pl σ 5).1
  have l4 := sg_len l3 (pl σ 5).1
  have l5 := sg_len l4 (pl σ 5).1
  refine .bind (rpl_ans l0 5) (.bind (rsg_ans l1 _) (.bind (rsg_ans l2 _) (.bind (rsg_ans l3 _) (.bind (rsg_ans l4 _) (.bind (rightRect_ans _ _ _ _) (.bind (rdone_ans l5 _) ?_))))))
  unfold takeRectF
  simp only [tk, sgs, encS, encR, List.getD_cons_zero, List.getD_cons_succ, PV.toI, PV.toS, PV.toB]
  refine .ite (fun e => ?_) (fun e => ?_)
  · rw [if_pos (by simpa using e)]; exact .pure _
  · have e : (doneF (sg (sg (sg (sg (pl σ 5).2 (pl σ 5).1).2 (pl σ 5).1).2 (pl σ 5).1).2 (pl σ 5).1).2 (rectB (sg (pl σ 5).2 (pl σ 5).1).1 (sg (sg (pl σ 5).2 (pl σ 5).1).2 (pl σ 5).1).1 (sg (sg (sg (pl σ 5).2 (pl σ 5).1).2 (pl σ 5).1).2 (pl σ 5).1).1 (sg (sg (sg (sg (pl σ 5).2 (pl σ 5).1).2 (pl σ 5).1).2 (pl σ 5).1).2 (pl σ 5).1).1)).2.2 = 0 := by simpa using e
    rw [if_neg (by rw [e]; decide)]
    refine .pure' ?_
    simp [e]
theorem qin_ans (n m : Int) (h0 : 0 ≤ m) (h1 : m ≤ 9223372036854775807) : Ans (fun k => call k f_q107 [.i n, .i m] []) ([.b (inB2 (-m) m n)], []) := by
  refine Ans.succ (fun k => u_q107 k n m) ?_
  rw [wrap64 (by omega) (by omega), show 0 - m = -m by omega]
  refine .bind (x := [.b (inB2 (-m) m n)]) ?_ (.pure _)
  unfold inB2
  refine .ite (fun h => .pure' ?_) (fun h => .pure' ?_)
  · have : decide (-m ≤ n) = true := by simpa using h
    rw [this]; rfl
  · have : decide (-m ≤ n) = false := by simpa using h
    rw [this]; rfl
theorem qRect_ans (l r t b : Int) : Ans (fun k => call k f_q182 [.i l, .i r, .i t, .i b] []) ([.b (rectB l r t b)], []) := by
  refine Ans.succ (fun k => u_q182 k l r t b) ?_
  have e : rectB l r t b = (inB2 (-1048576) 1048576 l && (inB2 (-1048576) 1048576 r && (inB2 (-1048576) 1048576 t && (inB2 (-1048576) 1048576 b && (decide (l ≤ r) && decide (t ≤ b)))))) := by
    simp [rectB, Bool.and_assoc]
  rw [e]
  refine .bind (.andB (qin_ans l 1048576 (by omega) (by omega)) fun _ => .andB (qin_ans r 1048576 (by omega) (by omega)) fun _ => .andB (qin_ans t 1048576 (by omega) (by omega)) fun _ => .andB (qin_ans b 1048576 (by omega) (by omega)) fun _ => ?_) (.pure _)
  exact .ite (fun h => .pure' (by rw [h]; rfl)) (fun h => .pure' (by rw [h]; rfl))
theorem sgs_length (n : Int) : ∀ (m : Nat) (σ : Rs), (sgs n m σ).1.length = m
  | 0, _ => rfl
  | m + 1, σ => by simp [sgs, sgs_length n m]
theorem tk_length (h : Int) (m : Nat) (σ : Rs) : (tk h m σ).1.length = m := sgs_length _ _ _
end Go.AI
set_option linter.unusedVariables false
set_option linter.unusedSimpArgs false
set_option maxRecDepth 100000
namespace Go.AI
open Go Go.Proofs

def opt2 (c : Int × Rs) (da db : Int) : (Int × Int) × Rs := if c.1 = 1 then (((tk 5 2 c.2).1.getD 0 0, (tk 5 2 c.2).1.getD 1 0), (tk 5 2 c.2).2) else ((da, db), c.2)
theorem opt2_len {c : Int × Rs} (h : LenOk c.2) (da db : Int) : LenOk (opt2 c da db).2 := by
  unfold opt2; split
  · exact tk_len 5 2 h
  · exact h
abbrev Mat := Int × Int × Int × Int × Int × Int
def finM (p q r : (Int × Int) × Rs) : Mat × Rs :=
  let d := doneF r.2 (matB p.1.1 q.1.1 q.1.2 p.1.2 r.1.1 r.1.2)
  if d.2.2 ≠ 0 then ((0, 0, 0, 0, 0, 0), d) else ((p.1.1, q.1.1, q.1.2, p.1.2, r.1.1, r.1.2), d)
def two (σ : Rs) : (Int × Int) × Rs := (((tk 5 2 σ).1.getD 0 0, (tk 5 2 σ).1.getD 1 0), (tk 5 2 σ).2)
/-- a matrix that is read -/
def takeMatF (σ : Rs) : Mat × Rs :=
  finM (opt2 (pl σ 1) 65536 65536) (opt2 (pl (opt2 (pl σ 1) 65536 65536).2 1) 0 0) (two (opt2 (pl (opt2 (pl σ 1) 65536 65536).2 1) 0 0).2)
def encM (r : Mat × Rs) : Res := ([.i r.1.1, .i r.1.2.1, .i r.1.2.2.1, .i r.1.2.2.2.1, .i r.1.2.2.2.2.1, .i r.1.2.2.2.2.2] ++ encS r.2, [])
theorem opt2_yes {c : Int × Rs} (h : (c.1 == 1) = true) (da db : Int) : opt2 c da db = two c.2 := by unfold opt2; rw [if_pos (by simpa using h)]; rfl
theorem opt2_no {c : Int × Rs} (h : (c.1 == 1) = false) (da db : Int) : opt2 c da db = ((da, db), c.2) := by unfold opt2; rw [if_neg (by simpa using h)]
theorem two_len {σ : Rs} (h : LenOk σ) : LenOk (two σ).2 := tk_len 5 2 h

/-- the last part: right or not -/
theorem fin_tree {σ : Rs} {p q r : (Int × Int) × Rs} {ok : Bool} (hok : ok = matB p.1.1 q.1.1 q.1.2 p.1.2 r.1.1 r.1.2) (a b c d x y : Int) (ha : a = p.1.1) (hb : b = q.1.1) (hc : c = q.1.2) (hd : d = p.1.2) (hx : x = r.1.1) (hy : y = r.1.2) :
    Ans (fun _ => bif (doneF r.2 ok).2.2 != 0 then some ([PV.i 0, .i 0, .i 0, .i 0, .i 0, .i 0, .s (doneF r.2 ok).1, .i (doneF r.2 ok).2.1, .i (doneF r.2 ok).2.2], ([] : List BX))
      else some ([.i a, .i b, .i c, .i d, .i x, .i y, .s (doneF r.2 ok).1, .i (doneF r.2 ok).2.1, .i 0], [])) (encM (finM p q r)) := by
  subst hok ha hb hc hd hx hy
  unfold finM
  refine .ite (fun e => ?_) (fun e => ?_)
  · rw [if_pos (by simpa using e)]; exact .pure _
  · have e : (doneF r.2 (matB p.1.1 q.1.1 q.1.2 p.1.2 r.1.1 r.1.2)).2.2 = 0 := by simpa using e
    rw [if_neg (by rw [e]; decide)]
    refine .pure' ?_
    simp [encM, encS, e]
theorem two_ans {σ : Rs} (h : LenOk σ) {γ : Type} {r : γ} {g : Nat → Res → Res → Res → Option γ}
    (h2 : Ans (fun k => g k ([.i (pl σ 5).1], rbox (pl σ 5).2) ([.i (two σ).1.1], rbox (sg (pl σ 5).2 (pl σ 5).1).2) ([.i (two σ).1.2], rbox (two σ).2)) r) :
    Ans (fun k => (call k f_q29 [.u, .i 5] (rbox σ)).bind fun x => (call k f_q11 [.u, .i ((x.1.getD 0 .u)).toI] [(t_q19, [.s ((((x.2.getD 0 (0, []))).2.getD 0 .u)).toS, .i ((((x.2.getD 0 (0, []))).2.getD 1 .u)).toI, .i ((((x.2.getD 0 (0, []))).2.getD 2 .u)).toI])]).bind fun y =>
      (call k f_q11 [.u, .i ((x.1.getD 0 .u)).toI] [(t_q19, [.s ((((y.2.getD 0 (0, []))).2.getD 0 .u)).toS, .i ((((y.2.getD 0 (0, []))).2.getD 1 .u)).toI, .i ((((y.2.getD 0 (0, []))).2.getD 2 .u)).toI])]).bind fun z => g k x y z) r :=
  .bind (rpl_ans h 5) (.bind (rsg_ans (pl_len h 5) _) (.bind (rsg_ans (sg_len (pl_len h 5) _) _) h2))
theorem takeMat_ans {s : List UInt8} (h : s.length ≤ 2 ^ 40) (a : Int) : Ans (fun k => call k f_q193 [.s s, .i a] []) (encM (takeMatF (beginP s a))) := by
  refine Ans.succ (fun k => u_q193 k s a) (.bind (begin_ans h a) (.bind (.succ (fun k => u_q215 k) (.pure _)) ?_))
  have l0 := (begin_len h a).1
  generalize beginP s a = σ at l0 ⊢
  unfold takeMatF
  have l1 := pl_len l0 1
  refine .bind (rpl_ans l0 1) (.ite (fun hp => ?_) (fun hp => ?_))
  · rw [opt2_yes hp]
    have l2 := two_len l1
    refine two_ans l1 ?_
    generalize two (pl σ 1).2 = p at l2 ⊢
    have l3 := pl_len l2 1
    refine .bind (rpl_ans l2 1) (.ite (fun hq => ?_) (fun hq => ?_))
    · rw [opt2_yes hq]
      have l4 := two_len l3
      refine two_ans l3 ?_
      generalize two (pl p.2 1).2 = q at l4 ⊢
      have l5 := two_len l4
      refine two_ans l4 ?_
      generalize two q.2 = r at l5 ⊢
      refine .bind (rightMatrix_ans _ _ _ _ _ _) (.bind (rdone_ans l5 _) ?_)
      exact fin_tree (σ := σ) rfl _ _ _ _ _ _ rfl rfl rfl rfl rfl rfl
    · rw [opt2_no hq]
      have l5 := two_len l3
      refine two_ans l3 ?_
      simp only
      generalize two (pl p.2 1).2 = r at l5 ⊢
      refine .bind (rightMatrix_ans _ _ _ _ _ _) (.bind (rdone_ans l5 _) ?_)
      exact fin_tree (σ := σ) (q := ((0, 0), (pl p.2 1).2)) rfl _ _ _ _ _ _ rfl rfl rfl rfl rfl rfl
  · rw [opt2_no hp]
    have l3 := pl_len l1 1
    refine .bind (rpl_ans l1 1) (.ite (fun hq => ?_) (fun hq => ?_))
    · simp only
      rw [opt2_yes hq]
      have l4 := two_len l3
      refine two_ans l3 ?_
      generalize two (pl (pl σ 1).2 1).2 = q at l4 ⊢
      have l5 := two_len l4
      refine two_ans l4 ?_
      generalize two q.2 = r at l5 ⊢
      refine .bind (rightMatrix_ans _ _ _ _ _ _) (.bind (rdone_ans l5 _) ?_)
      exact fin_tree (σ := σ) (p := ((65536, 65536), (pl σ 1).2)) rfl _ _ _ _ _ _ rfl rfl rfl rfl rfl rfl
    · simp only
      rw [opt2_no hq]
      have l5 := two_len l3
      refine two_ans l3 ?_
      simp only
      generalize two (pl (pl σ 1).2 1).2 = r at l5 ⊢
      refine .bind (rightMatrix_ans _ _ _ _ _ _) (.bind (rdone_ans l5 _) ?_)
      exact fin_tree (σ := σ) (p := ((65536, 65536), (pl σ 1).2)) (q := ((0, 0), (pl (pl σ 1).2 1).2)) rfl _ _ _ _ _ _ rfl rfl rfl rfl rfl rfl
end Go.AI
set_option linter.unusedVariables false
set_option linter.unusedSimpArgs false
set_option maxRecDepth 100000
namespace Go.AI
open Go Go.Proofs

abbrev I4 := Int × Int × Int × Int
def I4.l (x : I4) : List Int := [x.1, x.2.1, x.2.2.1, x.2.2.2]
def encI4 (x : I4) : List PV := [.i x.1, .i x.2.1, .i x.2.2.1, .i x.2.2.2]
/-- a colour that is read -/
def takeKF (s : List UInt8) (a : Int) : I4 × Rs :=
  let q := bytesF s a 4
  if q.2.2.2 ≠ 0 then ((0, 0, 0, 0), ([], 0, q.2.2.2)) else ((((q.1.getD 0 0).toNat : Nat), ((q.1.getD 1 0).toNat : Nat), ((q.1.getD 2 0).toNat : Nat), ((q.1.getD 3 0).toNat : Nat)), (q.2.1, q.2.2.1, 0))
def encK (r : I4 × Rs) : Res := (encI4 r.1 ++ encS r.2, [])
theorem bt64 (s : List UInt8) (i : Nat) : IntKind.wrap .i64 (bt s (i : Int)) = (((s.getD i 0).toNat : Nat) : Int) := by
  have : (s.getD i 0).toNat < 256 := UInt8.toNat_lt _
  unfold bt; rw [Int.toNat_natCast, wrap64 (by omega) (by omega)]
theorem takeK_ans {s : List UInt8} (h : s.length ≤ 2 ^ 40) (a : Int) : Ans (fun k => call k f_q200 [.s s, .i a] []) (encK (takeKF s a)) := by
  refine Ans.succ (fun k => u_q200 k s a) (.bind (bytes_ans h a 4 (by decide)) ?_)
  unfold takeKF
  rcases bytesF_cases s a 4 with e | e | ⟨a', n', _, hn, _, hl, e⟩
  · rw [e]; exact .yes rfl (.pure _)
  · rw [e]; exact .yes rfl (.pure _)
  · rw [e]
    have hn : n' = 4 := by omega
    subst hn
    have e4 : ((s.drop ((a' + 7) / 8)).take 4).length = 4 := by rw [List.length_take, List.length_drop]; omega
    simp only [encB, List.getD_cons_zero, List.getD_cons_succ, PV.toI, PV.toS, e4]
    refine .no rfl (.yes rfl (.yes rfl (.yes rfl (.yes rfl (.pure' ?_)))))
    have b0 := bt64 ((s.drop ((a' + 7) / 8)).take 4) 0
    have b1 := bt64 ((s.drop ((a' + 7) / 8)).take 4) 1
    have b2 := bt64 ((s.drop ((a' + 7) / 8)).take 4) 2
    have b3 := bt64 ((s.drop ((a' + 7) / 8)).take 4) 3
    rw [show ((0 : Nat) : Int) = 0 from rfl] at b0
    rw [show ((1 : Nat) : Int) = 1 from rfl] at b1
    rw [show ((2 : Nat) : Int) = 2 from rfl] at b2
    rw [show ((3 : Nat) : Int) = 3 from rfl] at b3
    rw [b0, b1, b2, b3]; rfl
end Go.AI
set_option linter.unusedVariables false
set_option linter.unusedSimpArgs false
set_option maxRecDepth 100000
namespace Go.AI
open Go Go.Proofs

theorem qMatrix_ans (a b c d x y : Int) : Ans (fun k => call k f_q144 [.i a, .i b, .i c, .i d, .i x, .i y] []) ([.b (matB a b c d x y)], []) := by
  refine Ans.succ (fun k => u_q144 k a b c d x y) ?_
  have e : matB a b c d x y = (inB2 (-4194304) 4194304 a && (inB2 (-4194304) 4194304 b && (inB2 (-4194304) 4194304 c && (inB2 (-4194304) 4194304 d && (inB2 (-1048576) 1048576 x && inB2 (-1048576) 1048576 y))))) := by
    simp [matB, Bool.and_assoc]
  rw [e]
  refine .bind (.andB (qin_ans a 4194304 (by omega) (by omega)) fun _ => .andB (qin_ans b 4194304 (by omega) (by omega)) fun _ => .andB (qin_ans c 4194304 (by omega) (by omega)) fun _ => .andB (qin_ans d 4194304 (by omega) (by omega)) fun _ => .andB (qin_ans x 1048576 (by omega) (by omega)) fun _ => .bind (qin_ans y 1048576 (by omega) (by omega)) (.pure _)) (.pure _)

end Go.AI
set_option linter.unusedVariables false
set_option linter.unusedSimpArgs false
set_option maxRecDepth 100000
namespace Go.AI
open Go Go.Proofs

end Go.AI
set_option linter.unusedVariables false
set_option linter.unusedSimpArgs false
set_option maxRecDepth 100000
namespace Go.AI
open Go Go.Proofs

def rgbaB (c : I4) : Bool := c.l.all (inB2 0 255)
def rgbaS (c : I4) : List UInt8 := [UInt8.ofNat c.1.toNat, UInt8.ofNat c.2.1.toNat, UInt8.ofNat c.2.2.1.toNat, UInt8.ofNat c.2.2.2.toNat]
theorem rightK_ans (c : I4) : Ans (fun k => call k f_q166 [.i c.1, .i c.2.1, .i c.2.2.1, .i c.2.2.2] []) ([.b (rgbaB c)], []) := by
  refine Ans.succ (fun k => u_q166 k ..) ?_
  exact .bind (within_ans 0 255 (l := c.l) (by simp [I4.l])) (.pure _)
theorem rgba_range {c : I4} (h : rgbaB c = true) : (0 ≤ c.1 ∧ c.1 ≤ 255) ∧ (0 ≤ c.2.1 ∧ c.2.1 ≤ 255) ∧ (0 ≤ c.2.2.1 ∧ c.2.2.1 ≤ 255) ∧ (0 ≤ c.2.2.2 ∧ c.2.2.2 ≤ 255) := by
  unfold rgbaB at h
  rw [List.all_eq_true] at h
  exact ⟨inB2_iff.1 (h _ (by simp [I4.l])), inB2_iff.1 (h _ (by simp [I4.l])), inB2_iff.1 (h _ (by simp [I4.l])), inB2_iff.1 (h _ (by simp [I4.l]))⟩
theorem rgba_bytes {c : I4} (h : rgbaB c = true) : toBytes (List.set (List.set (List.set (List.set [[PV.i 0], [PV.i 0], [PV.i 0], [PV.i 0]] 0 [PV.i (IntKind.wrap .u8 c.1)]) 1 [PV.i (IntKind.wrap .u8 c.2.1)]) 2 [PV.i (IntKind.wrap .u8 c.2.2.1)]) 3 [PV.i (IntKind.wrap .u8 c.2.2.2)]) = rgbaS c := by
  obtain ⟨h1, h2, h3, h4⟩ := rgba_range h
  rw [wrapU8' h1.1 (by omega), wrapU8' h2.1 (by omega), wrapU8' h3.1 (by omega), wrapU8' h4.1 (by omega)]
  rfl
def putKF (s : List UInt8) (c : I4) : List UInt8 × Int × Int := if rgbaB c = true then (s ++ rgbaS c, 0, 0) else ([], 0, 1)
theorem putK_ans {s : List UInt8} (hs : s.length ≤ 450000000) (f : Int) (c : I4) : Ans (fun k => call k f_q135 [.s s, .i f, .i c.1, .i c.2.1, .i c.2.2.1, .i c.2.2.2] []) (encW (putKF s c)) := by
  refine Ans.succ (fun k => u_q135 k ..) (.bind (rightK_ans c) ?_)
  simp only [List.getD_cons_zero, PV.toB]
  unfold putKF
  refine .ite (fun h => ?_) (fun h => ?_)
  · have h : rgbaB c = false := by simpa using h
    rw [if_neg (by rw [h]; decide)]; exact .pure _
  · have h : rgbaB c = true := by simpa using h
    rw [if_pos h, rgba_bytes h]
    exact .bind (putBytes_ans (by simp [rgbaS]; omega) f) (.pure _)
end Go.AI
set_option linter.unusedVariables false
set_option linter.unusedSimpArgs false
set_option maxRecDepth 100000
namespace Go.AI
open Go Go.Proofs

/-- a writer of so many bytes at most -/
def WB (n : Nat) (w : Wt) : Prop := WOk w ∧ w.1.length ≤ n
theorem WB.zero : WB 0 (([], 0) : Wt) := ⟨ok_zero [], Nat.le_refl _⟩
theorem qflag_step {n : Nat} {w : Wt} (hw : WB n w) (hn : n ≤ 5000) {b : Bool} {γ : Type} {r : γ} {g : Nat → Res → Option γ}
    (h2 : WB (n + 1) (flagW b w) → Ans (fun k => g k ([.s (flagW b w).1, .i (((flagW b w).2 : Nat) : Int)], [])) r) :
    Ans (fun k => (call k f_q79 [.s w.1, .i ((w.2 : Nat) : Int), .b b] []).bind fun x => g k x) r := by
  obtain ⟨a, _, _, d⟩ := flagW_ok b w hw.1
  have := hw.2
  exact .bind (rflag_ans hw.1 (by omega) b) (h2 ⟨a, by omega⟩)
theorem qnums_step {n : Nat} {w : Wt} (hw : WB n w) (hn : n ≤ 5000) {l : List Int} (hf : Fits l) {h : Nat} (hh : h ≤ 31) (hwl : WL l < 2 ^ h) (hll : l.length ≤ 8) {γ : Type} {r : γ} {g : Nat → Res → Option γ}
    (h2 : WB (n + 300) (nums h l w) → Ans (fun k => g k ([.s (nums h l w).1, .i (((nums h l w).2 : Nat) : Int)], [])) r) :
    Ans (fun k => (call k f_q9 [.s w.1, .i ((w.2 : Nat) : Int), .i (h : Int), .l (ints l)] []).bind fun x => g k x) r := by
  obtain ⟨a, _, _, d⟩ := nums_ok h l w hw.1
  have := hw.2
  have h24 := hf.wl
  have : WL l * l.length ≤ 24 * 8 := Nat.mul_le_mul h24 hll
  exact .bind (rnums_ans hf.i64 (by omega) hh hwl (by omega) hw.1 (by omega)) (h2 ⟨a, by omega⟩)
theorem qnums5 {n : Nat} {w : Wt} (hw : WB n w) (hn : n ≤ 5000) {l : List Int} (hf : Fits l) (hll : l.length ≤ 8) {γ : Type} {r : γ} {g : Nat → Res → Option γ}
    (h2 : WB (n + 300) (nums 5 l w) → Ans (fun k => g k ([.s (nums 5 l w).1, .i (((nums 5 l w).2 : Nat) : Int)], [])) r) :
    Ans (fun k => (call k f_q9 [.s w.1, .i ((w.2 : Nat) : Int), .i 5, .l (ints l)] []).bind fun x => g k x) r :=
  qnums_step hw hn hf (h := 5) (by omega) (by have := hf.wl; show WL l < 32; omega) hll h2
theorem nums_behind (s : List UInt8) {h : Nat} {l : List Int} {w : Wt} (hw : WOk w) : s ++ (nums h l w).1 = (nums h l (s ++ w.1, w.2)).1 := by rw [nums_pre s h l w hw]
theorem flag_behind (s : List UInt8) {b : Bool} {w : Wt} (hw : WOk w) : flagW b (s ++ w.1, w.2) = (s ++ (flagW b w).1, (flagW b w).2) := putN_pre s _ _ w hw
theorem opt_behind (s : List UInt8) {c : Bool} {l : List Int} {w : Wt} (hw : WOk w) : optW c l (s ++ w.1, w.2) = (s ++ (optW c l w).1, (optW c l w).2) := by
  unfold optW; split
  · exact nums_pre s 5 l w hw
  · rfl
theorem qPutRect_ans {s : List UInt8} (hs : s.length ≤ 450000000) {l r t b : Int} (h : rectB l r t b = true) : Ans (fun k => call k f_q156 [.s s, .i l, .i r, .i t, .i b] []) ([.s (putRectF s l r t b).1], []) := by
  refine Ans.succ (fun k => u_q156 k s l r t b) ?_
  have e : (putRectF s l r t b).1 = s ++ (nums 5 [l, r, t, b] ([], 0)).1 := by
    unfold putRectF rectW
    rw [if_pos h, nums_behind s (ok_zero []), List.append_nil]
  rw [e]
  refine qnums5 (w := ([], 0)) WB.zero (by omega) (rectB_fits h) (by simp) fun hw => ?_
  exact .yes (by have := hw.2; simp [PV.toS] at this ⊢; omega) (.pure _)
theorem mat_behind (s : List UInt8) (a b c d x y : Int) : (matW a b c d x y (s, 0)).1 = s ++ (matW a b c d x y ([], 0)).1 := by
  unfold matW
  generalize (a != 65536 || d != 65536) = p
  generalize (b != 0 || c != 0) = q
  have o0 : WOk (([], 0) : Wt) := ok_zero []
  have o1 := (flagW_ok p ([], 0) o0).1
  have o2 := (optW_ok p [a, d] _ o1).1
  have o3 := (flagW_ok q _ o2).1
  have o4 := (optW_ok q [b, c] _ o3).1
  rw [nums_behind s o4, ← opt_behind s o3, ← flag_behind s o2, ← opt_behind s o1, ← flag_behind s o0, List.append_nil]
theorem qPutMat_ans {s : List UInt8} (hs : s.length ≤ 450000000) {a b c d x y : Int} (h : matB a b c d x y = true) : Ans (fun k => call k f_q56 [.s s, .i a, .i b, .i c, .i d, .i x, .i y] []) ([.s (putMatF s a b c d x y).1], []) := by
  refine Ans.succ (fun k => u_q56 k ..) ?_
  have e : (putMatF s a b c d x y).1 = s ++ (matW a b c d x y ([], 0)).1 := by
    unfold putMatF; rw [if_pos h, mat_behind]
  rw [e]
  obtain ⟨f1, f2, f3⟩ := matB_fits h
  unfold matW
  generalize (a != 65536) = b1
  generalize (d != 65536) = b2
  generalize (b != 0) = b3
  generalize (c != 0) = b4
  cases b1 <;> cases b2 <;> cases b3 <;> cases b4
  all_goals
    first | refine .yes rfl ?_ | refine .no rfl ?_
    refine qflag_step (w := ([], 0)) WB.zero (by omega) fun hw => ?_
    first | refine .bind (.yes rfl (.pure _)) (.yes rfl (qnums5 hw (by omega) f1 (by simp) fun hw => ?_)) | refine .bind (.no rfl (.pure _)) (.yes rfl (qnums5 hw (by omega) f1 (by simp) fun hw => ?_)) | refine .bind (.no rfl (.pure _)) (.no rfl ?_)
    all_goals
      first | refine .yes rfl ?_ | refine .no rfl ?_
      refine qflag_step hw (by omega) fun hw => ?_
      first | refine .bind (.yes rfl (.pure _)) (.yes rfl (qnums5 hw (by omega) f2 (by simp) fun hw => ?_)) | refine .bind (.no rfl (.pure _)) (.yes rfl (qnums5 hw (by omega) f2 (by simp) fun hw => ?_)) | refine .bind (.no rfl (.pure _)) (.no rfl ?_)
      all_goals
        refine qnums5 hw (by omega) f3 (by simp) fun hw => ?_
        exact .yes (by have := hw.2; simp [PV.toS] at this ⊢; omega) (.pure _)

theorem qPutK_ans {s : List UInt8} (hs : s.length ≤ 450000000) {c : I4} (h : rgbaB c = true) : Ans (fun k => call k f_q72 [.s s, .i c.1, .i c.2.1, .i c.2.2.1, .i c.2.2.2] []) ([.s (putKF s c).1], []) := by
  refine Ans.succ (fun k => u_q72 k ..) ?_
  have e : (putKF s c).1 = s ++ rgbaS c := by unfold putKF; rw [if_pos h]
  rw [e, rgba_bytes h]
  exact .yes (by simp [rgbaS]; omega) (.pure _)
theorem qRGBA_loop {l : List Int} (hll : l.length ≤ 100) : ∀ (rest pre : List Int), l = pre ++ rest →
    Ans (fun k => run k f_q101 [] at_q92 (S_q92 (ints l) l.length pre.length)) ([.b (rest.all (inB2 0 255))], [])
  | [], pre, hp => by
    refine Ans.succ (fun k => u_q92 k ..) ?_
    exact .no (by rw [hp]; simp) (.pure _)
  | v :: rest, pre, hp => by
    refine Ans.succ (fun k => u_q92 k ..) ?_
    have hlen : l.length = pre.length + rest.length + 1 := by rw [hp]; simp; omega
    have hget : l.getD pre.length 0 = v := by rw [hp]; simp [List.getD]
    have e2 : IntKind.wrap .i64 ((pre.length : Int) + 1) = (((pre ++ [v]).length : Nat) : Int) := by rw [wrap64 (by omega) (by omega)]; simp
    have ih := qRGBA_loop hll rest (pre ++ [v]) (by rw [hp]; simp)
    rw [ints_get (by omega), hget, e2]
    simp only [List.getD_cons_zero, PV.toI]
    refine .yes (by simp; omega) (.yes (by unfold inB; simp [ints_length]; omega) (.bind (x := [.b (!inB2 0 255 v)]) ?_ ?_))
    · unfold inB2
      refine .ite (fun h => .pure' ?_) (fun h => .pure' ?_)
      · have : decide (0 ≤ v) = false := by simp at h ⊢; omega
        rw [this]; rfl
      · have h1 : decide (0 ≤ v) = true := by simp at h ⊢; omega
        have h2 : decide (v > 255) = !decide (v ≤ 255) := by
          by_cases c : v ≤ 255
          · rw [decide_eq_true c, decide_eq_false (by omega)]; rfl
          · rw [decide_eq_false c, decide_eq_true (by omega)]; rfl
        rw [h1, h2]; rfl
    · simp only [List.getD_cons_zero, PV.toB]
      refine .ite (fun h => .pure' ?_) (fun h => ?_)
      · have : inB2 0 255 v = false := by simpa using h
        rw [List.all_cons, this]; rfl
      · have : inB2 0 255 v = true := by simpa using h
        rw [List.all_cons, this]; exact ih
theorem qRGBA_ans (c : I4) : Ans (fun k => call k f_q101 [.i c.1, .i c.2.1, .i c.2.2.1, .i c.2.2.2] []) ([.b (rgbaB c)], []) :=
  Ans.succ (fun k => u_q101 k ..) (qRGBA_loop (l := c.l) (by simp [I4.l]) c.l [] rfl)

end Go.AI
set_option linter.unusedVariables false
set_option linter.unusedSimpArgs false
set_option maxRecDepth 100000
namespace Go.AI
open Go Go.Proofs

/-- the reader at a writer's end -/
def rat (W w : Wt) : Rs := (W.1, ((wl w : Nat) : Int), 0)
theorem pl_back {w W : Wt} (hw : WOk w) {v n : Nat} (hn : n ≤ 31) (hv : v < 2 ^ n) (he : WExt (putN v n w) W) : pl (rat W w) n = ((v : Int), rat W (putN v n w)) := by
  unfold pl rat
  rw [if_neg (by simp)]
  exact plain_back hw hn hv he
theorem sg_back {w W : Wt} (hw : WOk w) {v : Int} {n : Nat} (hn : n ≤ 31) (hv : widthN v ≤ n) (he : WExt (putN (signU v n).toNat n w) W) : sg (rat W w) n = (v, rat W (putN (signU v n).toNat n w)) := by
  unfold sg rat
  rw [if_neg (by simp)]
  exact signed_back hw hn hv he
theorem sgs_back {W : Wt} {n : Nat} (hn : n ≤ 31) : ∀ (l : List Int) (w : Wt), WOk w → (∀ v, v ∈ l → widthN v ≤ n) → WExt (numsW n l w) W → sgs n l.length (rat W w) = (l, rat W (numsW n l w))
  | [], w, _, _, _ => rfl
  | v :: l, w, hw, hv, he => by
    obtain ⟨a, b, _⟩ := putN_ext (signU v n).toNat n w hw
    have hx := (numsW_ok n l _ a).2.1
    have h1 := sg_back hw hn (hv v (by simp)) (hx.trans he)
    simp only [List.length_cons, sgs, h1]
    rw [sgs_back hn l _ a (fun u hu => hv u (by simp [hu])) he]
    rfl
theorem tk_back {w W : Wt} (hw : WOk w) {h : Nat} (hh : h ≤ 31) {l : List Int} (h31 : WL l ≤ 31) (hwl : WL l < 2 ^ h) (he : WExt (nums h l w) W) : tk h l.length (rat W w) = (l, rat W (nums h l w)) := by
  obtain ⟨a, b, _⟩ := putN_ext (WL l) h w hw
  have hx := (numsW_ok (WL l) l _ a).2.1
  unfold tk
  rw [pl_back hw hh hwl (hx.trans he)]
  exact sgs_back h31 l _ a (fun v hv => WL_ge hv) he
theorem tk5_back {w W : Wt} (hw : WOk w) {l : List Int} (hf : Fits l) (he : WExt (nums 5 l w) W) : tk 5 l.length (rat W w) = (l, rat W (nums 5 l w)) :=
  tk_back hw (h := 5) (by omega) (by have := hf.wl; omega) (by have := hf.wl; show _ < 32; omega) he
theorem done_back {w W : Wt} (hw : WOk w) (he : WExt w W) : doneF (rat W w) true = (W.1, ((8 * w.1.length : Nat) : Int), 0) := by
  unfold doneF rat
  rw [if_neg (by simp), if_neg (by simp)]
  simp only
  rw [align_wl hw he.1]
theorem begin_back {W : Wt} {s : List UInt8} (he : WExt (s, 0) W) : beginP W.1 ((8 * s.length : Nat) : Int) = rat W (s, 0) := by
  have e : wl ((s, 0) : Wt) = 8 * s.length := by simp [wl]
  have h1 := he.1
  rw [e] at h1
  have hr : rightB W.1 ((8 * s.length : Nat) : Int) = true := right_wl (W := W) h1
  unfold beginP rat
  rw [if_pos hr, e]
  congr 2
  unfold alignF
  rw [if_pos hr]; omega
theorem flag_back {w W : Wt} (hw : WOk w) {b : Bool} (he : WExt (flagW b w) W) : pl (rat W w) 1 = ((b.toNat : Int), rat W (flagW b w)) :=
  pl_back hw (n := 1) (by omega) (by cases b <;> decide) he

theorem rect_back {w W : Wt} (hw : WOk w) {l r t b : Int} (h : rectB l r t b = true) (he : WExt (rectW l r t b w) W) : takeRectF (rat W w) = ((l, r, t, b), (W.1, ((8 * (rectW l r t b w).1.length : Nat) : Int), 0)) := by
  have ht := tk5_back hw (rectB_fits h) he
  simp only [List.length_cons, List.length_nil] at ht
  have hd := done_back (nums_ok 5 [l, r, t, b] w hw).1 he
  unfold takeRectF
  rw [ht]
  simp only [List.getD_cons_zero, List.getD_cons_succ]
  rw [h, hd, if_neg (by simp)]
  rfl
theorem opt_back {w W : Wt} (hw : WOk w) {c : Bool} {a b da db : Int} (hf : Fits [a, b]) (hd : c = false → a = da ∧ b = db) (he : WExt (optW c [a, b] w) W) : opt2 ((c.toNat : Int), rat W w) da db = ((a, b), rat W (optW c [a, b] w)) := by
  unfold opt2 optW at *
  cases c with
  | true =>
    rw [if_pos rfl] at he ⊢
    rw [if_pos (show (((true.toNat : Nat) : Int), rat W w).1 = 1 from rfl)]
    have ht := tk5_back hw hf he
    simp only [List.length_cons, List.length_nil] at ht
    rw [ht]; rfl
  | false =>
    obtain ⟨rfl, rfl⟩ := hd rfl
    rfl
theorem or_ne {a b da db : Int} (h : (a != da || b != db) = false) : a = da ∧ b = db := by
  rw [Bool.or_eq_false_iff] at h
  exact ⟨by simpa using h.1, by simpa using h.2⟩
theorem mat_back {w W : Wt} (hw : WOk w) {a b c d x y : Int} (h : matB a b c d x y = true) (he : WExt (matW a b c d x y w) W) : takeMatF (rat W w) = ((a, b, c, d, x, y), (W.1, ((8 * (matW a b c d x y w).1.length : Nat) : Int), 0)) := by
  obtain ⟨f1, f2, f3⟩ := matB_fits h
  have hd := done_back (matW_ok a b c d x y w hw).1 he
  unfold matW at he hd ⊢
  obtain ⟨p, hp⟩ : ∃ p, p = (a != 65536 || d != 65536) := ⟨_, rfl⟩
  obtain ⟨q, hq⟩ : ∃ q, q = (b != 0 || c != 0) := ⟨_, rfl⟩
  rw [← hp, ← hq] at he hd ⊢
  obtain ⟨o1, e1, _⟩ := flagW_ok p w hw
  obtain ⟨o2, e2, _⟩ := optW_ok p [a, d] _ o1
  obtain ⟨o3, e3, _⟩ := flagW_ok q _ o2
  obtain ⟨o4, e4, _⟩ := optW_ok q [b, c] _ o3
  obtain ⟨o5, e5, _⟩ := nums_ok 5 [x, y] _ o4
  have k4 := e5.trans he
  have k3 := e4.trans k4
  have k2 := e3.trans k3
  have k1 := e2.trans k2
  have r1 := flag_back hw k1
  have r2 := opt_back (da := 65536) (db := 65536) o1 f1 (fun hc => or_ne (by rw [← hp]; exact hc)) k2
  have r3 := flag_back o2 k3
  have r4 := opt_back (da := 0) (db := 0) o3 f2 (fun hc => or_ne (by rw [← hq]; exact hc)) k4
  have r5 := tk5_back o4 f3 he
  simp only [List.length_cons, List.length_nil] at r5
  unfold takeMatF
  rw [r1, r2]
  simp only
  rw [r3, r4]
  simp only
  unfold two
  rw [r5]
  unfold finM
  simp only [List.getD_cons_zero, List.getD_cons_succ]
  rw [h, hd, if_neg (by simp)]

theorem k_back {s t : List UInt8} {c : I4} (h : rgbaB c = true) : takeKF (s ++ rgbaS c ++ t) ((8 * s.length : Nat) : Int) = (c, (s ++ rgbaS c ++ t, ((8 * (s ++ rgbaS c).length : Nat) : Int), 0)) := by
  obtain ⟨h1, h2, h3, h4⟩ := rgba_range h
  have hl : (rgbaS c).length = 4 := rfl
  have e : bytesF (s ++ rgbaS c ++ t) ((8 * s.length : Nat) : Int) 4 = (rgbaS c, s ++ rgbaS c ++ t, ((8 * (s ++ rgbaS c).length : Nat) : Int), 0) := by
    unfold bytesF
    have hr : rightB (s ++ rgbaS c ++ t) ((8 * s.length : Nat) : Int) = true := rightB_iff.2 ⟨by omega, by simp; omega⟩
    rw [if_neg (ng2 hr (by omega)), if_neg (by simp [hl]; omega)]
    have e1 : ((((8 * s.length : Nat) : Int) + 7) / 8).toNat = s.length := by omega
    rw [e1, List.append_assoc, List.drop_left]
    refine Prod.ext ?_ (Prod.ext rfl (Prod.ext ?_ rfl))
    · show (rgbaS c ++ t).take 4 = rgbaS c
      rw [List.take_left' hl]
    · simp [hl]; omega
  unfold takeKF
  rw [e]
  simp only
  rw [if_neg (by simp)]
  have k : ∀ v : Int, 0 ≤ v → v ≤ 255 → ((((UInt8.ofNat v.toNat).toNat : Nat)) : Int) = v := fun v a b => by
    rw [byte_nat _ (by omega)]; omega
  refine Prod.ext (Prod.ext ?_ (Prod.ext ?_ (Prod.ext ?_ ?_))) rfl
  · exact k _ h1.1 h1.2
  · exact k _ h2.1 h2.2
  · exact k _ h3.1 h3.2
  · exact k _ h4.1 h4.2
end Go.AI
set_option linter.unusedVariables false
set_option linter.unusedSimpArgs false
set_option maxRecDepth 100000
namespace Go.AI
open Go Go.Proofs

end Go.AI
set_option linter.unusedVariables false
set_option linter.unusedSimpArgs false
set_option maxRecDepth 100000
namespace Go.AI
open Go Go.Proofs

theorem pl_err {σ : Rs} (h : σ.2.2 ≠ 0) (n : Int) : pl σ n = (0, σ) := by unfold pl; rw [if_pos h]
theorem sg_err {σ : Rs} (h : σ.2.2 ≠ 0) (n : Int) : sg σ n = (0, σ) := by unfold sg; rw [if_pos h]
theorem done_err {σ : Rs} (h : σ.2.2 ≠ 0) (b : Bool) : doneF σ b = ([], 0, σ.2.2) := by unfold doneF; rw [if_pos h]
theorem tk_err {σ : Rs} (h : σ.2.2 ≠ 0) (n : Int) : ∀ m, tk n m σ = (List.replicate m 0, σ) := by
  intro m
  unfold tk
  rw [pl_err h]
  induction m with
  | zero => rfl
  | succ m ih => simp only [sgs, sg_err h] at ih ⊢; rw [ih]; rfl
theorem mat_err {σ : Rs} (h : σ.2.2 ≠ 0) : takeMatF σ = ((0, 0, 0, 0, 0, 0), ([], 0, σ.2.2)) := by
  unfold takeMatF
  have o : ∀ da db, opt2 (pl σ 1) da db = ((da, db), σ) := fun da db => by unfold opt2; rw [pl_err h]; rfl
  rw [o]
  simp only
  rw [o]
  simp only
  unfold finM two
  rw [tk_err h]
  simp only [done_err h]
  rw [if_pos h]
theorem beginP_err {s : List UInt8} {a : Int} (h : ¬ rightB s a = true) : (beginP s a).2.2 = 1 := by unfold beginP; rw [if_neg h]
end Go.AI
set_option linter.unusedVariables false
set_option linter.unusedSimpArgs false
set_option maxRecDepth 100000
namespace Go.AI
open Go Go.Proofs

theorem pl_val {σ : Rs} {n : Int} (h : (pl σ n).2.2.2 = 0) : σ.2.2 = 0 ∧ 0 ≤ σ.2.1 ∧ ∃ N v : Nat, n = N ∧ N ≤ 31 ∧ v < 2 ^ N ∧ σ.2.1 + N ≤ 8 * (σ.1.length : Int) ∧ pl σ n = ((v : Int), (σ.1, σ.2.1 + N, 0)) := by
  by_cases he : σ.2.2 = 0
  · have e : pl σ n = plainF σ.1 σ.2.1 n := by unfold pl; rw [if_neg (by rw [he]; decide)]
    rw [e] at h ⊢
    rcases plainF_cases σ.1 σ.2.1 n with q | q | ⟨a, N, h1, h2, h3, h4, q⟩
    · rw [q] at h; simp at h
    · rw [q] at h; simp at h
    · refine ⟨he, by omega, N, fieldN σ.1 a N, h2, h3, fieldN_lt _ _ _, by omega, ?_⟩
      rw [q, h1]; rfl
  · have e : pl σ n = (0, σ) := by unfold pl; rw [if_pos he]
    rw [e] at h; exact absurd h he
theorem sg_val {σ : Rs} {n : Int} (h : (sg σ n).2.2.2 = 0) : σ.2.2 = 0 ∧ 0 ≤ σ.2.1 ∧ ∃ N : Nat, n = N ∧ N ≤ 31 ∧ widthN (sg σ n).1 ≤ N ∧ σ.2.1 + N ≤ 8 * (σ.1.length : Int) ∧ (sg σ n).2 = (σ.1, σ.2.1 + N, 0) := by
  by_cases he : σ.2.2 = 0
  · have e : sg σ n = signedF σ.1 σ.2.1 n := by unfold sg; rw [if_neg (by rw [he]; decide)]
    rw [e] at h ⊢
    rcases plainF_cases σ.1 σ.2.1 n with q | q | ⟨a, N, h1, h2, h3, h4, q⟩
    · unfold signedF at h; rw [q] at h; simp at h
    · unfold signedF at h; rw [q] at h; simp at h
    · refine ⟨he, by omega, N, h2, h3, ?_, by omega, ?_⟩
      · unfold signedF
        rw [q, h2]
        simp only [true_and, Int.toNat_natCast]
        have hlt := fieldN_lt σ.1 a N
        generalize fieldN σ.1 a N = u at hlt ⊢
        cases N with
        | zero =>
          have : u = 0 := by simp at hlt; omega
          subst this
          simp [widthN_zero]
        | succ N =>
          refine widthN_abs (by omega) ?_
          rw [Nat.add_sub_cancel]
          have hp : (2 : Int) ^ (N + 1) = 2 * ((2 ^ N : Nat) : Int) := by rw [Int.pow_succ]; simp; omega
          have hq : (2 : Nat) ^ (N + 1) = 2 * 2 ^ N := by rw [Nat.pow_succ]; omega
          rw [hp]
          rw [hq] at hlt
          generalize 2 ^ N = p at hlt ⊢
          split <;> omega
      · unfold signedF
        rw [q, h1]; rfl
  · have e : sg σ n = (0, σ) := by unfold sg; rw [if_pos he]
    rw [e] at h; exact absurd h he
theorem sgs_val {n : Int} : ∀ (m : Nat) (σ : Rs), (sgs n m σ).2.2.2 = 0 → σ.2.2 = 0 ∧ (sgs n m σ).2 = (σ.1, σ.2.1 + n * m, 0) ∧ (∀ v, v ∈ (sgs n m σ).1 → (widthN v : Int) ≤ n) ∧ (0 < m → 0 ≤ n ∧ n ≤ 31 ∧ σ.2.1 + n * m ≤ 8 * (σ.1.length : Int))
  | 0, σ, h => by
    refine ⟨h, ?_, (fun v hv => nomatch hv), (fun h => absurd h (by decide))⟩
    have h : σ.2.2 = 0 := h
    show σ = _
    refine Prod.ext rfl (Prod.ext ?_ h)
    show σ.2.1 = σ.2.1 + n * 0
    omega
  | m + 1, σ, h => by
    simp only [sgs] at h ⊢
    obtain ⟨a, b, c, d⟩ := sgs_val m (sg σ n).2 h
    obtain ⟨e, _, N, g1, g2, g3, g4, g5⟩ := sg_val a
    rw [g5] at b d
    simp only at b d
    have hmul : n * ((m + 1 : Nat) : Int) = n + n * m := by rw [Int.natCast_succ, Int.mul_add, Int.mul_one, Int.add_comm]
    refine ⟨e, ?_, ?_, ?_⟩
    · rw [g5, b, hmul]
      refine Prod.ext rfl (Prod.ext ?_ rfl)
      show σ.2.1 + N + n * m = σ.2.1 + (n + n * m)
      omega
    · intro v hv
      rcases List.mem_cons.1 hv with rfl | hv
      · omega
      · exact c v hv
    · intro _
      refine ⟨by omega, by omega, ?_⟩
      cases m with
      | zero => simp at hmul ⊢; omega
      | succ m => have := (d (by omega)).2.2; omega
theorem tk_val {h : Int} {m : Nat} (hm : 0 < m) {σ : Rs} (he : (tk h m σ).2.2.2 = 0) : σ.2.2 = 0 ∧ 0 ≤ σ.2.1 ∧ ∃ H W : Nat, h = H ∧ WL (tk h m σ).1 ≤ W ∧ W ≤ 31 ∧ (tk h m σ).2 = (σ.1, σ.2.1 + H + W * m, 0) ∧ σ.2.1 + H + W * m ≤ 8 * (σ.1.length : Int) := by
  unfold tk at he ⊢
  obtain ⟨a, b, c, d⟩ := sgs_val m _ he
  obtain ⟨e, e0, N, v, g1, g2, g3, g4, g5⟩ := pl_val a
  rw [g5] at b c d
  obtain ⟨d1, d2, d3⟩ := d hm
  refine ⟨e, e0, N, v, g1, WL_bound fun u hu => ?_, by simp only at d2; omega, ?_, d3⟩
  · have := c u (by rw [g5] at hu; exact hu)
    simp only at this; omega
  · rw [g5]; exact b
theorem done_val {σ : Rs} {ok : Bool} (h : (doneF σ ok).2.2 = 0) : σ.2.2 = 0 ∧ ok = true ∧ doneF σ ok = (σ.1, alignF σ.1 σ.2.1, 0) := by
  unfold doneF at h ⊢
  by_cases he : σ.2.2 = 0
  · rw [if_neg (by rw [he]; decide)] at h ⊢
    cases ok with
    | true => exact ⟨he, rfl, rfl⟩
    | false => rw [if_pos rfl] at h; simp at h
  · rw [if_pos he] at h; exact absurd h he
theorem list2 {l : List Int} (h : l.length = 2) : l = [l.getD 0 0, l.getD 1 0] := by
  match l, h with
  | [a, b], _ => rfl
theorem opt_val {ρ : Rs} {da db : Int} (h : (opt2 (pl ρ 1) da db).2.2.2 = 0) {w : Wt} (hw : WOk w) :
    ρ.2.2 = 0 ∧ (opt2 (pl ρ 1) da db).2.1 = ρ.1 ∧ wl (optW ((opt2 (pl ρ 1) da db).1.1 != da || (opt2 (pl ρ 1) da db).1.2 != db) [(opt2 (pl ρ 1) da db).1.1, (opt2 (pl ρ 1) da db).1.2] w) + ρ.2.1 + 1 ≤ wl w + (opt2 (pl ρ 1) da db).2.2.1 := by
  by_cases hc : (pl ρ 1).1 = 1
  · have e : opt2 (pl ρ 1) da db = two (pl ρ 1).2 := by unfold opt2; rw [if_pos hc]; rfl
    rw [e] at h ⊢
    have h' : (tk 5 2 (pl ρ 1).2).2.2.2 = 0 := h
    obtain ⟨f1, f2, H, W, g1, g2, g3, g4, g5⟩ := tk_val (by decide) h'
    obtain ⟨k1, k2, N, v, k3, k4, k5, k6, k7⟩ := pl_val f1
    have e1 : (two (pl ρ 1).2).1.1 = (tk 5 2 (pl ρ 1).2).1.getD 0 0 := rfl
    have e2 : (two (pl ρ 1).2).1.2 = (tk 5 2 (pl ρ 1).2).1.getD 1 0 := rfl
    have e3 : (two (pl ρ 1).2).2 = (tk 5 2 (pl ρ 1).2).2 := rfl
    have hl := list2 (tk_length 5 2 (pl ρ 1).2)
    rw [e1, e2, e3, ← hl]
    refine ⟨k1, by rw [g4, k7], ?_⟩
    have ho := (optW_ok ((tk 5 2 (pl ρ 1).2).1.getD 0 0 != da || (tk 5 2 (pl ρ 1).2).1.getD 1 0 != db) (tk 5 2 (pl ρ 1).2).1 w hw).2.2.1
    rw [tk_length] at ho
    have hm : WL (tk 5 2 (pl ρ 1).2).1 * 2 ≤ W * 2 := Nat.mul_le_mul_right _ g2
    have hr : (pl ρ 1).2.2.1 = ρ.2.1 + N := by rw [k7]
    rw [ho, g4]
    simp only
    split <;> omega
  · have e : opt2 (pl ρ 1) da db = ((da, db), (pl ρ 1).2) := by unfold opt2; rw [if_neg hc]
    rw [e] at h ⊢
    obtain ⟨k1, k2, N, v, k3, k4, k5, k6, k7⟩ := pl_val h
    refine ⟨k1, by rw [k7], ?_⟩
    have hr : (pl ρ 1).2.2.1 = ρ.2.1 + N := by rw [k7]
    have hb : (da != da || db != db) = false := by simp
    simp only
    rw [hb, hr]
    unfold optW
    rw [if_neg (by decide)]
    omega
theorem mat_val {σ : Rs} (h : (takeMatF σ).2.2.2 = 0) : ∃ a b c d x y P : Int, (takeMatF σ).1 = (a, b, c, d, x, y) ∧ matB a b c d x y = true ∧ ((wl (matW a b c d x y ([], 0)) : Nat) : Int) + σ.2.1 ≤ P ∧ P ≤ 8 * (σ.1.length : Int) ∧ (takeMatF σ).2 = (σ.1, alignF σ.1 P, 0) := by
  unfold takeMatF at h ⊢
  obtain ⟨p, hp⟩ : ∃ p, p = opt2 (pl σ 1) 65536 65536 := ⟨_, rfl⟩
  have vp := fun (h : (opt2 (pl σ 1) 65536 65536).2.2.2 = 0) {w : Wt} (hw : WOk w) => opt_val h hw
  rw [← hp] at h vp ⊢
  obtain ⟨q, hq⟩ : ∃ q, q = opt2 (pl p.2 1) 0 0 := ⟨_, rfl⟩
  have vq := fun (h : (opt2 (pl p.2 1) 0 0).2.2.2 = 0) {w : Wt} (hw : WOk w) => opt_val h hw
  rw [← hq] at h vq ⊢
  unfold finM at h ⊢
  have hl := list2 (tk_length 5 2 q.2)
  have t1 : (two q.2).1.1 = (tk 5 2 q.2).1.getD 0 0 := rfl
  have t2 : (two q.2).1.2 = (tk 5 2 q.2).1.getD 1 0 := rfl
  have t3 : (two q.2).2 = (tk 5 2 q.2).2 := rfl
  rw [← t1, ← t2] at hl
  simp only at h ⊢
  have e : ((doneF (two q.2).2 (matB p.1.1 q.1.1 q.1.2 p.1.2 (two q.2).1.1 (two q.2).1.2))).2.2 = 0 := by
    split at h <;> exact h
  rw [if_neg (by rw [e]; decide)] at h ⊢
  obtain ⟨e1, e2, e3⟩ := done_val e
  rw [t3] at e1
  obtain ⟨f1, f2, H, W, g1, g2, g3, g4, g5⟩ := tk_val (by decide) e1
  have o0 : WOk (([], 0) : Wt) := ok_zero []
  obtain ⟨o1, _, w1, _⟩ := flagW_ok (p.1.1 != 65536 || p.1.2 != 65536) _ o0
  obtain ⟨o2, _⟩ := optW_ok (p.1.1 != 65536 || p.1.2 != 65536) [p.1.1, p.1.2] _ o1
  obtain ⟨o3, _, w3, _⟩ := flagW_ok (q.1.1 != 0 || q.1.2 != 0) _ o2
  obtain ⟨o4, _⟩ := optW_ok (q.1.1 != 0 || q.1.2 != 0) [q.1.1, q.1.2] _ o3
  obtain ⟨q1, q2, q3⟩ := vq f1 o3
  obtain ⟨p1, p2, p3⟩ := vp q1 o1
  refine ⟨_, _, _, _, _, _, (tk 5 2 q.2).2.2.1, rfl, e2, ?_, ?_, ?_⟩
  · have w5 := (nums_ok 5 [(two q.2).1.1, (two q.2).1.2] _ o4).2.2.1
    rw [← hl, tk_length] at w5
    have hm : WL (tk 5 2 q.2).1 * 2 ≤ W * 2 := Nat.mul_le_mul_right _ g2
    unfold matW
    rw [← hl, w5, g4]
    simp only
    have e0 : wl (([], 0) : Wt) = 0 := rfl
    rw [e0] at w1
    omega
  · rw [g4]
    rw [q2, p2] at g5
    exact g5
  · rw [e3, t3, g4]
    simp only
    rw [q2, p2]
end Go.AI
set_option linter.unusedVariables false
set_option linter.unusedSimpArgs false
set_option maxRecDepth 100000
namespace Go.AI
open Go Go.Proofs

end Go.AI
