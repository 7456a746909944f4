/- What the field layer writes: numbers with their width ahead; flags. -/
import Derived.Test.YtnbmjpdiibandaaP02j
set_option linter.unusedVariables false
set_option linter.unusedSimpArgs false
set_option maxRecDepth 100000
namespace Go.AI
open Go Go.Proofs

def ints (l : List Int) : List (List PV) := l.map fun v => [.i v]
theorem ints_length (l : List Int) : (ints l).length = l.length := by simp [ints]
theorem elI_ints {l : List Int} {i : Nat} (h : i < l.length) : elI (ints l) i = l.getD i 0 := by
  simp [elI, ints, List.getD, h, PV.toI]
/-- the greatest width -/
def WL (l : List Int) : Nat := widthL (ints l) l.length
theorem widthL_ge (l : List Int) : ∀ n i, i < n → n ≤ l.length → widthN (l.getD i 0) ≤ widthL (ints l) n
  | 0, i, h, _ => absurd h (Nat.not_lt_zero _)
  | n + 1, i, h, hn => by
    simp only [widthL, elI_ints (show n < l.length by omega)]
    by_cases e : i = n
    · subst e; omega
    · have := widthL_ge l n i (by omega) (by omega); omega
theorem WL_ge {l : List Int} {v : Int} (h : v ∈ l) : widthN v ≤ WL l := by
  obtain ⟨i, hi, rfl⟩ := List.mem_iff_getElem.1 h
  have := widthL_ge l l.length i hi (Nat.le_refl _)
  rwa [show l.getD i 0 = l[i] by simp [List.getD, hi]] at this
theorem widthL_bound {l : List Int} {b : Nat} (h : ∀ v, v ∈ l → widthN v ≤ b) : ∀ n, n ≤ l.length → widthL (ints l) n ≤ b
  | 0, _ => by simp [widthL]
  | n + 1, hn => by
    have := widthL_bound h n (by omega)
    simp only [widthL, elI_ints (show n < l.length by omega)]
    have h2 := h (l.getD n 0) (by rw [show l.getD n 0 = l[n] by simp [List.getD, show n < l.length by omega]]; exact List.getElem_mem _)
    omega
theorem WL_bound {l : List Int} {b : Nat} (h : ∀ v, v ∈ l → widthN v ≤ b) : WL l ≤ b := widthL_bound h _ (Nat.le_refl _)
theorem widthN_abs {v : Int} {n : Nat} (hn : 0 < n) (h : -((2 ^ (n - 1) : Nat) : Int) ≤ v ∧ v < ((2 ^ (n - 1) : Nat) : Int)) : widthN v ≤ n := by
  by_cases h0 : v = 0
  · subst h0; rw [widthN_zero]; omega
  · exact (widthN_le h0 hn).2 h

/-- numbers, one behind the other -/
def numsW (n : Nat) : List Int → Wt → Wt
  | [], w => w
  | v :: l, w => numsW n l (putN (signU v n).toNat n w)
theorem numsW_ok (n : Nat) : ∀ (l : List Int) (w : Wt), WOk w → WOk (numsW n l w) ∧ WExt w (numsW n l w) ∧ wl (numsW n l w) = wl w + n * l.length ∧ (numsW n l w).1.length ≤ w.1.length + n * l.length
  | [], w, h => ⟨h, WExt.refl _, by simp [numsW], by simp [numsW]⟩
  | v :: l, w, h => by
    obtain ⟨a, b, c, d, e⟩ := putN_ext (signU v n).toNat n w h
    obtain ⟨a2, b2, c2, e2⟩ := numsW_ok n l _ a
    refine ⟨a2, b.trans b2, ?_, ?_⟩
    · simp only [numsW, List.length_cons, Nat.mul_succ]; rw [c2, c]; omega
    · simp only [numsW, List.length_cons, Nat.mul_succ]; omega

theorem ints_get {l : List Int} {i : Nat} (h : i < l.length) : elemAt (ints l) (i : Int) = [.i (l.getD i 0)] := by
  rw [elemAt_nat]; simp [ints, List.getD, h]
theorem ints_I64 {l : List Int} (h : ∀ v, v ∈ l → I64 v) : ∀ i, i < (ints l).length → I64 (elI (ints l) i) := fun i hi => by
  rw [ints_length] at hi
  rw [elI_ints hi]
  exact h _ (by rw [show l.getD i 0 = l[i] by simp [List.getD, hi]]; exact List.getElem_mem _)

abbrev wbox (w : Wt) : List BX := [(t_field_writer, [.s w.1, .i ((w.2 : Nat) : Int)])]
theorem wplain_ans {w : Wt} (hw : WOk w) (hl : w.1.length ≤ 500000000) {v n : Nat} (hn : n ≤ 31) (hv : v < 2 ^ n) : Ans (fun k => call k f___celluloid_field_writer__plain [.u, .i (v : Int), .i (n : Int)] (wbox w)) ([], wbox (putN v n w)) := by
  have hp : 2 ^ n ≤ 2 ^ 31 := Nat.pow_le_pow_right (by decide) hn
  have hp : 2 ^ n ≤ 2147483648 := hp
  refine Ans.succ (fun k => u___celluloid_field_writer__plain k v n w.1 w.2) (.bind (putPlain_ans hl w.2 v n (by omega)) ?_)
  rw [putPlain_ok hw hn hv]
  exact .pure _
theorem wflag_ans {w : Wt} (hw : WOk w) (hl : w.1.length ≤ 500000000) (b : Bool) : Ans (fun k => call k f___celluloid_field_writer__flag [.u, .b b] (wbox w)) ([], wbox (putN b.toNat 1 w)) := by
  refine Ans.succ (fun k => u___celluloid_field_writer__flag k b w.1 w.2) ?_
  cases b with
  | true => exact .yes rfl (.bind (wplain_ans hw hl (v := 1) (n := 1) (by omega) (by omega)) (.pure _))
  | false => exact .no rfl (.bind (wplain_ans hw hl (v := 0) (n := 1) (by omega) (by omega)) (.pure _))
theorem wdone_ans (w : Wt) : Ans (fun k => call k f___celluloid_field_writer__done [.u] (wbox w)) ([.s w.1, .i 0], wbox w) :=
  Ans.succ (fun k => u___celluloid_field_writer__done k w.1 w.2) (.bind (putAlign_ans w.1 w.2) (.pure _))

theorem wsigned_loop {l : List Int} (hI : ∀ v, v ∈ l → I64 v) {n : Nat} (hn : n ≤ 31) (hv : ∀ v, v ∈ l → widthN v ≤ n) (hll : l.length ≤ 100) : ∀ (rest pre : List Int) (w : Wt), l = pre ++ rest → WOk w → w.1.length + 31 * rest.length ≤ 500000000 →
    Ans (fun k => run k f___celluloid_field_writer__signed [t_field_writer] at___celluloid_field_writer__signed_L0 (S___celluloid_field_writer__signed_L0 n (ints l) l.length pre.length w.1 w.2)) ([], wbox (numsW n rest w))
  | [], pre, w, hp, hw, hl => by
    refine Ans.succ (fun k => u___celluloid_field_writer__signed_L0 k ..) ?_
    exact .no (by rw [hp]; simp) (.pure _)
  | v :: rest, pre, w, hp, hw, hl => by
    refine Ans.succ (fun k => u___celluloid_field_writer__signed_L0 k ..) ?_
    have hlen : l.length = pre.length + rest.length + 1 := by rw [hp]; simp; omega
    have hm : v ∈ l := by rw [hp]; simp
    have hget : l.getD pre.length 0 = v := by rw [hp]; simp [List.getD]
    have e2 : IntKind.wrap .i64 ((pre.length : Int) + 1) = (((pre ++ [v]).length : Nat) : Int) := by rw [wrap64 (by omega) (by omega)]; simp
    obtain ⟨a, b, c, d, e⟩ := putN_ext (signU v n).toNat n w hw
    rw [List.length_cons] at hl
    rw [ints_get (by omega), hget, e2]
    refine .yes (by simp; omega) (.yes (by unfold inB; simp [ints_length]; omega) (.bind (putSigned_ans (by omega) w.2 v n (hI v hm)) ?_))
    rw [putSigned_ok hw hn (hv v hm)]
    exact wsigned_loop hI hn hv hll rest (pre ++ [v]) _ (by rw [hp]; simp) a (by omega)
theorem wsigned_ans {l : List Int} (hI : ∀ v, v ∈ l → I64 v) {h : Nat} (hn : WL l ≤ 31) (hh : h ≤ 31) (hw2 : WL l < 2 ^ h) (hll : l.length ≤ 100) {w : Wt} (hw : WOk w) (hl : w.1.length + 31 * l.length + 31 ≤ 500000000) :
    Ans (fun k => call k f___celluloid_field_writer__signed [.u, .i (h : Int), .l (ints l)] (wbox w)) ([], wbox (numsW (WL l) l (putN (WL l) h w))) := by
  refine Ans.succ (fun k => u___celluloid_field_writer__signed k h (ints l) w.1 w.2) ?_
  have hwid : Ans (fun k => call k f_bits_Width [.l (ints l)] []) ([.i ((WL l : Nat) : Int)], []) := by
    have := width_ans (es := ints l) (by rw [ints_length]; omega) (ints_I64 hI)
    rw [ints_length] at this
    exact this
  obtain ⟨a, b, c, d, e⟩ := putN_ext (WL l) h w hw
  refine .bind hwid (.bind (wplain_ans hw (by omega) hh hw2) ?_)
  rw [ints_length]
  exact wsigned_loop hI hn (fun v hv => WL_ge hv) hll l [] _ rfl a (by omega)

/-! ### the document's -/
theorem rwidthL_loop {l : List Int} (hI : ∀ v, v ∈ l → I64 v) (hll : l.length ≤ 100) : ∀ j i, i + j = l.length →
    Ans (fun k => run k f_celluloidref07_width [] at_celluloidref07_width_L0 (S_celluloidref07_width_L0 (ints l) (widthL (ints l) i) i)) ([.i ((WL l : Nat) : Int)], [])
  | 0, i, h => by
    obtain rfl : i = l.length := h
    refine Ans.succ (fun k => u_celluloidref07_width_L0 k ..) ?_
    exact .no (by simp [ints_length]) (.pure _)
  | j + 1, i, h => by
    refine Ans.succ (fun k => u_celluloidref07_width_L0 k ..) ?_
    have hv : I64 (l.getD i 0) := hI _ (by rw [show l.getD i 0 = l[i]'(by omega) by simp [List.getD, show i < l.length by omega]]; exact List.getElem_mem _)
    have e2 : IntKind.wrap .i64 ((i : Int) + 1) = ((i + 1 : Nat) : Int) := by rw [wrap64 (by omega) (by omega)]; rfl
    have hi : inB (i : Int) (ints l).length = true := by unfold inB; simp [ints_length]; omega
    rw [ints_get (by omega), e2]
    simp only [List.getD_cons_zero, PV.toI]
    refine .yes (by simp [ints_length]; omega) (.yes hi (.bind (rwidth_ans hv) ?_))
    simp only [List.getD_cons_zero, PV.toI]
    refine .ite (fun hc => .yes hi (.bind (rwidth_ans hv) ?_)) (fun hc => ?_)
    · simp only [List.getD_cons_zero, PV.toI]
      have hc : ((widthN (l.getD i 0) : Nat) : Int) > ((widthL (ints l) i : Nat) : Int) := by simpa using hc
      have e : widthL (ints l) (i + 1) = widthN (l.getD i 0) := by simp only [widthL, elI_ints (show i < l.length by omega)]; omega
      rw [← e]
      exact rwidthL_loop hI hll j (i + 1) (by omega)
    · have hc : ¬ ((widthN (l.getD i 0) : Nat) : Int) > ((widthL (ints l) i : Nat) : Int) := by simpa using hc
      have e : widthL (ints l) (i + 1) = widthL (ints l) i := by simp only [widthL, elI_ints (show i < l.length by omega)]; omega
      have := rwidthL_loop hI hll j (i + 1) (by omega)
      rw [e] at this
      exact this
theorem rwidthL_ans {l : List Int} (hI : ∀ v, v ∈ l → I64 v) (hll : l.length ≤ 100) : Ans (fun k => call k f_celluloidref07_width [.l (ints l)] []) ([.i ((WL l : Nat) : Int)], []) :=
  Ans.succ (fun k => u_celluloidref07_width k (ints l)) (rwidthL_loop hI hll l.length 0 (by omega))
theorem rflag_ans {w : Wt} (hw : WOk w) (hl : w.1.length ≤ 500000000) (b : Bool) : Ans (fun k => call k f_celluloidref07_flag [.s w.1, .i ((w.2 : Nat) : Int), .b b] []) ([.s (putN b.toNat 1 w).1, .i (((putN b.toNat 1 w).2 : Nat) : Int)], []) := by
  refine Ans.succ (fun k => u_celluloidref07_flag k w.1 w.2 b) ?_
  cases b with
  | true =>
    refine .yes rfl (.bind (rputPlain_ans hl w.2 1 1 (by decide)) ?_)
    have := rputPlain_ok hw (v := 1) (n := 1) (by omega) (by omega)
    rw [show ((1 : Nat) : Int) = 1 from rfl] at this
    rw [this]
    exact .pure _
  | false =>
    refine .no rfl (.bind (rputPlain_ans hl w.2 0 1 (by decide)) ?_)
    have := rputPlain_ok hw (v := 0) (n := 1) (by omega) (by omega)
    rw [show ((1 : Nat) : Int) = 1 from rfl, show ((0 : Nat) : Int) = 0 from rfl] at this
    rw [this]
    exact .pure _
theorem rnums_loop {l : List Int} (hI : ∀ v, v ∈ l → I64 v) {n : Nat} (hn : n ≤ 31) (hv : ∀ v, v ∈ l → widthN v ≤ n) (hll : l.length ≤ 100) (o1 : List UInt8) (o2 : Int) : ∀ (rest pre : List Int) (w : Wt), l = pre ++ rest → WOk w → w.1.length + 31 * rest.length ≤ 500000000 →
    Ans (fun k => run k f_celluloidref07_numbers [] at_celluloidref07_numbers_L0 (S_celluloidref07_numbers_L0 (ints l) n pre.length w.1 w.2 o1 o2)) ([.s (numsW n rest w).1, .i (((numsW n rest w).2 : Nat) : Int)], [])
  | [], pre, w, hp, hw, hl => by
    refine Ans.succ (fun k => u_celluloidref07_numbers_L0 k ..) ?_
    exact .no (by rw [ints_length, hp]; simp) (.pure _)
  | v :: rest, pre, w, hp, hw, hl => by
    refine Ans.succ (fun k => u_celluloidref07_numbers_L0 k ..) ?_
    have hlen : l.length = pre.length + rest.length + 1 := by rw [hp]; simp; omega
    have hm : v ∈ l := by rw [hp]; simp
    have hget : l.getD pre.length 0 = v := by rw [hp]; simp [List.getD]
    have e2 : IntKind.wrap .i64 ((pre.length : Int) + 1) = (((pre ++ [v]).length : Nat) : Int) := by rw [wrap64 (by omega) (by omega)]; simp
    obtain ⟨a, b, c, d, e⟩ := putN_ext (signU v n).toNat n w hw
    rw [List.length_cons] at hl
    rw [ints_get (by omega), hget, e2]
    refine .yes (by simp [ints_length]; omega) (.yes (by unfold inB; simp [ints_length]; omega) (.bind (rputSigned_ans (by omega) w.2 v n (hI v hm)) ?_))
    rw [rputSigned_ok hw hn (hv v hm)]
    exact rnums_loop hI hn hv hll o1 o2 rest (pre ++ [v]) _ (by rw [hp]; simp) a (by omega)
theorem rnums_ans {l : List Int} (hI : ∀ v, v ∈ l → I64 v) {h : Nat} (hn : WL l ≤ 31) (hh : h ≤ 31) (hw2 : WL l < 2 ^ h) (hll : l.length ≤ 100) {w : Wt} (hw : WOk w) (hl : w.1.length + 31 * l.length + 31 ≤ 500000000) :
    Ans (fun k => call k f_celluloidref07_numbers [.s w.1, .i ((w.2 : Nat) : Int), .i (h : Int), .l (ints l)] []) ([.s (numsW (WL l) l (putN (WL l) h w)).1, .i (((numsW (WL l) l (putN (WL l) h w)).2 : Nat) : Int)], []) := by
  refine Ans.succ (fun k => u_celluloidref07_numbers k w.1 w.2 h (ints l)) ?_
  obtain ⟨a, b, c, d, e⟩ := putN_ext (WL l) h w hw
  refine .bind (rwidthL_ans hI hll) (.bind (rputPlain_ans (by omega) w.2 (WL l) h (by have : 2 ^ h ≤ 2 ^ 31 := Nat.pow_le_pow_right (by decide) hh; have : 2 ^ h ≤ 2147483648 := this; omega)) ?_)
  rw [rputPlain_ok hw hh hw2]
  exact rnums_loop hI hn (fun v hv => WL_ge hv) hll [] 0 l [] _ rfl a (by omega)

/-! ### behind other bytes -/
theorem put1_pre (s t : List UInt8) {f b : Nat} (h : WOk (t, f)) : put1 (s ++ t) f b = (s ++ (put1 t f b).1, (put1 t f b).2) := by
  unfold put1
  by_cases h0 : f = 0
  · rw [if_pos h0, if_pos h0, List.append_assoc]
  · rw [if_neg h0, if_neg h0]
    have h3 : t ≠ [] := (h.2 h0).1
    have hl : 0 < t.length := List.length_pos_iff.2 h3
    have e : (s ++ t).length - 1 = s.length + (t.length - 1) := by rw [List.length_append]; omega
    have e2 : (s ++ t).getD ((s ++ t).length - 1) 0 = t.getD (t.length - 1) 0 := by
      simp only [List.getD]
      rw [e, List.getElem?_append_right (by omega), Nat.add_sub_cancel_left]
    rw [e2, e, List.set_append_right _ _ (by omega), Nat.add_sub_cancel_left]
theorem putN_pre (s : List UInt8) (v : Nat) : ∀ (n : Nat) (w : Wt), WOk w → putN v n (s ++ w.1, w.2) = (s ++ (putN v n w).1, (putN v n w).2)
  | 0, w, _ => rfl
  | n + 1, w, h => by
    simp only [putN]
    rw [put1_pre s w.1 h]
    exact putN_pre s v n _ (put1_ok h (Nat.mod_lt _ (by decide))).1
theorem numsW_pre (s : List UInt8) (n : Nat) : ∀ (l : List Int) (w : Wt), WOk w → numsW n l (s ++ w.1, w.2) = (s ++ (numsW n l w).1, (numsW n l w).2)
  | [], w, _ => rfl
  | v :: l, w, h => by
    simp only [numsW]
    rw [putN_pre s _ n w h]
    exact numsW_pre s n l _ (putN_ext _ n w h).1
end Go.AI
