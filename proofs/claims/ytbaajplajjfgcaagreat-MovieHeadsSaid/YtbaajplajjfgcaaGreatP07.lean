/- What the field layer writes: numbers with their width ahead; flags. -/
import Derived.Test.YtbaajplajjfgcaaGreatP02
set_option linter.unusedVariables false
set_option linter.unusedSimpArgs false
set_option maxRecDepth 100000
namespace Go.AI
open Go Go.Proofs

def ints (l : List Int) : List (List PV) := l.map fun v => [.i v]
theorem ints_length (l : List Int) : (ints l).length = l.length := by simp [ints]
theorem elI_ints {l : List Int} {i : Nat} (h : i < l.length) : elI (ints l) i = l.getD i 0 := by
  simp [elI, ints, List.getD, h, PV.toI]
/-- the greatest width -/
def WL (l : List Int) : Nat := widthL (ints l) l.length
theorem widthL_ge (l : List Int) : ∀ n i, i < n → n ≤ l.length → widthN (l.getD i 0) ≤ widthL (ints l) n
  | 0, i, h, _ => absurd h (Nat.not_lt_zero _)
  | n + 1, i, h, hn => by
    simp only [widthL, elI_ints (show n < l.length by omega)]
    by_cases e : i = n
    · subst e; omega
    · have := widthL_ge l n i (by omega) (by omega); omega
theorem WL_ge {l : List Int} {v : Int} (h : v ∈ l) : widthN v ≤ WL l := by
  obtain ⟨i, hi, rfl⟩ := List.mem_iff_getElem.1 h
  have := widthL_ge l l.length i hi (Nat.le_refl _)
  rwa [show l.getD i 0 = l[i] by simp [List.getD, hi]] at this
theorem widthL_bound {l : List Int} {b : Nat} (h : ∀ v, v ∈ l → widthN v ≤ b) : ∀ n, n ≤ l.length → widthL (ints l) n ≤ b
  | 0, _ => by simp [widthL]
  | n + 1, hn => by
    have := widthL_bound h n (by omega)
    simp only [widthL, elI_ints (show n < l.length by omega)]
    have h2 := h (l.getD n 0) (by rw [show l.getD n 0 = l[n] by simp [List.getD, show n < l.length by omega]]; exact List.getElem_mem _)
    omega
theorem WL_bound {l : List Int} {b : Nat} (h : ∀ v, v ∈ l → widthN v ≤ b) : WL l ≤ b := widthL_bound h _ (Nat.le_refl _)
theorem widthN_abs {v : Int} {n : Nat} (hn : 0 < n) (h : -((2 ^ (n - 1) : Nat) : Int) ≤ v ∧ v < ((2 ^ (n - 1) : Nat) : Int)) : widthN v ≤ n := by
  by_cases h0 : v = 0
  · subst h0; rw [widthN_zero]; omega
  · exact (widthN_le h0 hn).2 h

/-- numbers, one behind the other -/
def numsW (n : Nat) : List Int → Wt → Wt
  | [], w => w
  | v :: l, w => numsW n l (putN (signU v n).toNat n w)
theorem numsW_ok (n : Nat) : ∀ (l : List Int) (w : Wt), WOk w → WOk (numsW n l w) ∧ WExt w (numsW n l w) ∧ wl (numsW n l w) = wl w + n * l.length ∧ (numsW n l w).1.length ≤ w.1.length + n * l.length
  | [], w, h => ⟨h, WExt.refl _, by simp [numsW], by simp [numsW]⟩
  | v :: l, w, h => by
    obtain ⟨a, b, c, d, e⟩ := putN_ext (signU v n).toNat n w h
    obtain ⟨a2, b2, c2, e2⟩ := numsW_ok n l _ a
    refine ⟨a2, b.trans b2, ?_, ?_⟩
    · simp only [numsW, List.length_cons, Nat.mul_succ]; rw [c2, c]; omega
    · simp only [numsW, List.length_cons, Nat.mul_succ]; omega

theorem ints_get {l : List Int} {i : Nat} (h : i < l.length) : elemAt (ints l) (i : Int) = [.i (l.getD i 0)] := by
  rw [elemAt_nat]; simp [ints, List.getD, h]
theorem ints_I64 {l : List Int} (h : ∀ v, v ∈ l → I64 v) : ∀ i, i < (ints l).length → I64 (elI (ints l) i) := fun i hi => by
  rw [ints_length] at hi
  rw [elI_ints hi]
  exact h _ (by rw [show l.getD i 0 = l[i] by simp [List.getD, hi]]; exact List.getElem_mem _)

abbrev wbox (w : Wt) : List BX := [(t_field_writer, [.s w.1, .i ((w.2 : Nat) : Int)])]
theorem wplain_ans {w : Wt} (hw : WOk w) (hl : w.1.length ≤ 500000000) {v n : Nat} (hn : n ≤ 31) (hv : v < 2 ^ n) : Ans (fun k => call k f___celluloid_field_writer__plain [.u, .i (v : Int), .i (n : Int)] (wbox w)) ([], wbox (putN v n w)) := by
  have hp : 2 ^ n ≤ 2 ^ 31 := Nat.pow_le_pow_right (by decide) hn
  have hp : 2 ^ n ≤ 2147483648 := hp
  refine Ans.succ (fun k => u___celluloid_field_writer__plain k v n w.1 w.2) (.bind (putPlain_ans hl w.2 v n (by omega)) ?_)
  rw [putPlain_ok hw hn hv]
  exact .pure _
theorem wflag_ans {w : Wt} (hw : WOk w) (hl : w.1.length ≤ 500000000) (b : Bool) : Ans (fun k => call k f___celluloid_field_writer__flag [.u, .b b] (wbox w)) ([], wbox (putN b.toNat 1 w)) := by
  refine Ans.succ (fun k => u___celluloid_field_writer__flag k b w.1 w.2) ?_
  cases b with
  | true => exact .yes rfl (.bind (wplain_ans hw hl (v := 1) (n := 1) (by omega) (by omega)) (.pure _))
  | false => exact .no rfl (.bind (wplain_ans hw hl (v := 0) (n := 1) (by omega) (by omega)) (.pure _))
theorem wdone_ans (w : Wt) : Ans (fun k => call k f___celluloid_field_writer__done [.u] (wbox w)) ([.s w.1, .i 0], wbox w) :=
  Ans.succ (fun k => u___celluloid_field_writer__done k w.1 w.2) (.bind (putAlign_ans w.1 w.2) (.pure _))

theorem wsigned_loop {l : List Int} (hI : ∀ v, v ∈ l → I64 v) {n : Nat} (hn : n ≤ 31) (hv : ∀ v, v ∈ l → widthN v ≤ n) (hll : l.length ≤ 100) : ∀ (rest pre : List Int) (w : Wt), l = pre ++ rest → WOk w → w.1.length + 31 * rest.length ≤ 500000000 →
    Ans (fun k => run k f___celluloid_field_writer__signed [t_field_writer] at___celluloid_field_writer__signed_L0 (S___celluloid_field_writer__signed_L0 n (ints l) l.length pre.length w.1 w.2)) ([], wbox (numsW n rest w))
  | [], pre, w, hp, hw, hl => by
    refine Ans.succ (fun k => u___celluloid_field_writer__signed_L0 k ..) ?_
    exact .no (by rw [hp]; simp) (.pure _)
  | v :: rest, pre, w, hp, hw, hl => by
    refine Ans.succ (fun k => u___celluloid_field_writer__signed_L0 k ..) ?_
    have hlen : l.length = pre.length + rest.length + 1 := by rw [hp]; simp; omega
    have hm : v ∈ l := by rw [hp]; simp
    have hget : l.getD pre.length 0 = v := by rw [hp]; simp [List.getD]
    have e2 : IntKind.wrap .i64 ((pre.length : Int) + 1) = (((pre ++ [v]).length : Nat) : Int) := by rw [wrap64 (by omega) (by omega)]; simp
    obtain ⟨a, b, c, d, e⟩ := putN_ext (signU v n).toNat n w hw
    rw [List.length_cons] at hl
    rw [ints_get (by omega), hget, e2]
    refine .yes (by simp; omega) (.yes (by unfold inB; simp [ints_length]; omega) (.bind (putSigned_ans (by omega) w.2 v n (hI v hm)) ?_))
    rw [putSigned_ok hw hn (hv v hm)]
    exact wsigned_loop hI hn hv hll rest (pre ++ [v]) _ (by rw [hp]; simp) a (by omega)
theorem wsigned_ans {l : List Int} (hI : ∀ v, v ∈ l → I64 v) {h : Nat} (hn : WL l ≤ 31) (hh : h ≤ 31) (hw2 : WL l < 2 ^ h) (hll : l.length ≤ 100) {w : Wt} (hw : WOk w) (hl : w.1.length + 31 * l.length + 31 ≤ 500000000) :
    Ans (fun k => call k f___celluloid_field_writer__signed [.u, .i (h : Int), .l (ints l)] (wbox w)) ([], wbox (numsW (WL l) l (putN (WL l) h w))) := by
  refine Ans.succ (fun k => u___celluloid_field_writer__signed k h (ints l) w.1 w.2) ?_
  have hwid : Ans (fun k => call k f_bits_Width [.l (ints l)] []) ([.i ((WL l : Nat) : Int)], []) := by
    have := width_ans (es := ints l) (by rw [ints_length]; omega) (ints_I64 hI)
    rw [ints_length] at this
    exact this
  obtain ⟨a, b, c, d, e⟩ := putN_ext (WL l) h w hw
  refine .bind hwid (.bind (wplain_ans hw (by omega) hh hw2) ?_)
  rw [ints_length]
  exact wsigned_loop hI hn (fun v hv => WL_ge hv) hll l [] _ rfl a (by omega)

/-! ### the document's -/
/-! ### behind other bytes -/
theorem put1_pre (s t : List UInt8) {f b : Nat} (h : WOk (t, f)) : put1 (s ++ t) f b = (s ++ (put1 t f b).1, (put1 t f b).2) := by
  unfold put1
  by_cases h0 : f = 0
  · rw [if_pos h0, if_pos h0, List.append_assoc]
  · rw [if_neg h0, if_neg h0]
    have h3 : t ≠ [] := (h.2 h0).1
    have hl : 0 < t.length := List.length_pos_iff.2 h3
    have e : (s ++ t).length - 1 = s.length + (t.length - 1) := by rw [List.length_append]; omega
    have e2 : (s ++ t).getD ((s ++ t).length - 1) 0 = t.getD (t.length - 1) 0 := by
      simp only [List.getD]
      rw [e, List.getElem?_append_right (by omega), Nat.add_sub_cancel_left]
    rw [e2, e, List.set_append_right _ _ (by omega), Nat.add_sub_cancel_left]
theorem putN_pre (s : List UInt8) (v : Nat) : ∀ (n : Nat) (w : Wt), WOk w → putN v n (s ++ w.1, w.2) = (s ++ (putN v n w).1, (putN v n w).2)
  | 0, w, _ => rfl
  | n + 1, w, h => by
    simp only [putN]
    rw [put1_pre s w.1 h]
    exact putN_pre s v n _ (put1_ok h (Nat.mod_lt _ (by decide))).1
theorem numsW_pre (s : List UInt8) (n : Nat) : ∀ (l : List Int) (w : Wt), WOk w → numsW n l (s ++ w.1, w.2) = (s ++ (numsW n l w).1, (numsW n l w).2)
  | [], w, _ => rfl
  | v :: l, w, h => by
    simp only [numsW]
    rw [putN_pre s _ n w h]
    exact numsW_pre s n l _ (putN_ext _ n w h).1
end Go.AI
set_option linter.unusedVariables false
set_option linter.unusedSimpArgs false
set_option maxRecDepth 100000
namespace Go.AI
open Go Go.Proofs

theorem Ans.andB {m : Nat → Option Res} {c d : Bool} {y : Nat → Option (List PV)} (h : Ans m ([.b c], [])) (h2 : c = true → Ans y [.b d]) :
    Ans (fun k => (m k).bind fun r => bif (r.1.getD 0 .u).toB then y k else some [.b false]) [.b (c && d)] := by
  refine .bind h ?_
  simp only [List.getD_cons_zero, PV.toB]
  cases c with
  | true => exact .yes rfl (h2 rfl)
  | false => exact .no rfl (.pure _)

def inB2 (a b v : Int) : Bool := decide (a ≤ v) && decide (v ≤ b)
theorem within_loop {a b : Int} {l : List Int} (hll : l.length ≤ 100) : ∀ (rest pre : List Int), l = pre ++ rest →
    Ans (fun k => run k f_field_within [] at_field_within_L0 (S_field_within_L0 a b (ints l) l.length pre.length)) ([.b (rest.all (inB2 a b))], [])
  | [], pre, hp => by
    refine Ans.succ (fun k => u_field_within_L0 k ..) ?_
    exact .no (by rw [hp]; simp) (.pure _)
  | v :: rest, pre, hp => by
    refine Ans.succ (fun k => u_field_within_L0 k ..) ?_
    have hlen : l.length = pre.length + rest.length + 1 := by rw [hp]; simp; omega
    have hget : l.getD pre.length 0 = v := by rw [hp]; simp [List.getD]
    have e2 : IntKind.wrap .i64 ((pre.length : Int) + 1) = (((pre ++ [v]).length : Nat) : Int) := by rw [wrap64 (by omega) (by omega)]; simp
    have ih := within_loop (a := a) (b := b) hll rest (pre ++ [v]) (by rw [hp]; simp)
    rw [ints_get (by omega), hget, e2]
    simp only [List.getD_cons_zero, PV.toI]
    refine .yes (by simp; omega) (.yes (by unfold inB; simp [ints_length]; omega) (.bind (x := [.b (!inB2 a b v)]) ?_ ?_))
    · unfold inB2
      refine .ite (fun h => .pure' ?_) (fun h => .pure' ?_)
      · have : decide (a ≤ v) = false := by simp at h ⊢; omega
        rw [this]; rfl
      · have h1 : decide (a ≤ v) = true := by simp at h ⊢; omega
        have h2 : decide (v > b) = !decide (v ≤ b) := by
          by_cases c : v ≤ b
          · rw [decide_eq_true c, decide_eq_false (by omega)]; rfl
          · rw [decide_eq_false c, decide_eq_true (by omega)]; rfl
        rw [h1, h2]; rfl
    · simp only [List.getD_cons_zero, PV.toB]
      refine .ite (fun h => .pure' ?_) (fun h => ?_)
      · have : inB2 a b v = false := by simpa using h
        rw [List.all_cons, this]; rfl
      · have : inB2 a b v = true := by simpa using h
        rw [List.all_cons, this]; exact ih
theorem within_ans (a b : Int) {l : List Int} (hll : l.length ≤ 100) : Ans (fun k => call k f_field_within [.i a, .i b, .l (ints l)] []) ([.b (l.all (inB2 a b))], []) := by
  refine Ans.succ (fun k => u_field_within k a b (ints l)) ?_
  rw [ints_length]
  exact within_loop hll l [] rfl

def rectB (l r t b : Int) : Bool := [l, r, t, b].all (inB2 (-1048576) 1048576) && (decide (l ≤ r) && decide (t ≤ b))
def matB (a b c d x y : Int) : Bool := [a, b, c, d].all (inB2 (-4194304) 4194304) && [x, y].all (inB2 (-1048576) 1048576)
theorem rightRect_ans (l r t b : Int) : Ans (fun k => call k f_field_RightRect [.i l, .i r, .i t, .i b] []) ([.b (rectB l r t b)], []) := by
  refine Ans.succ (fun k => u_field_RightRect k l r t b) ?_
  refine .bind (x := [.b (rectB l r t b)]) (.andB (within_ans (-1048576) 1048576 (l := [l, r, t, b]) (by simp)) (fun _ => ?_)) (.pure _)
  exact .ite (fun h => .pure' (by rw [h]; rfl)) (fun h => .pure' (by rw [h]; rfl))
theorem rightMatrix_ans (a b c d x y : Int) : Ans (fun k => call k f_field_RightMatrix [.i a, .i b, .i c, .i d, .i x, .i y] []) ([.b (matB a b c d x y)], []) := by
  refine Ans.succ (fun k => u_field_RightMatrix k a b c d x y) ?_
  exact .bind (x := [.b (matB a b c d x y)]) (.andB (within_ans (-4194304) 4194304 (l := [a, b, c, d]) (by simp)) (fun _ => .bind (within_ans (-1048576) 1048576 (l := [x, y]) (by simp)) (.pure _))) (.pure _)

/-- numbers with their width ahead -/
def nums (h : Nat) (l : List Int) (w : Wt) : Wt := numsW (WL l) l (putN (WL l) h w)
theorem nums_ok (h : Nat) (l : List Int) (w : Wt) (hw : WOk w) : WOk (nums h l w) ∧ WExt w (nums h l w) ∧ wl (nums h l w) = wl w + h + WL l * l.length ∧ (nums h l w).1.length ≤ w.1.length + h + WL l * l.length := by
  obtain ⟨a, b, c, d, e⟩ := putN_ext (WL l) h w hw
  obtain ⟨a2, b2, c2, d2⟩ := numsW_ok (WL l) l _ a
  refine ⟨a2, b.trans b2, ?_, ?_⟩
  · unfold nums; rw [c2, c]
  · unfold nums; omega
theorem nums_pre (s : List UInt8) (h : Nat) (l : List Int) (w : Wt) (hw : WOk w) : nums h l (s ++ w.1, w.2) = (s ++ (nums h l w).1, (nums h l w).2) := by
  unfold nums
  rw [putN_pre s _ h w hw]
  exact numsW_pre s _ l _ (putN_ext _ h w hw).1
/-- numbers that fit -/
def Fits (l : List Int) : Prop := ∀ v, v ∈ l → -4194304 ≤ v ∧ v ≤ 4194304
theorem Fits.i64 {l : List Int} (h : Fits l) : ∀ v, v ∈ l → I64 v := fun v hv => by have := h v hv; unfold I64; omega
theorem Fits.wl {l : List Int} (h : Fits l) : WL l ≤ 24 := WL_bound fun v hv => by
  have := h v hv
  refine widthN_abs (by omega) ?_
  have e : ((2 ^ (24 - 1) : Nat) : Int) = 8388608 := rfl
  rw [e]; omega
theorem inB2_iff {a b v : Int} : inB2 a b v = true ↔ a ≤ v ∧ v ≤ b := by unfold inB2; simp
theorem rectB_fits {l r t b : Int} (h : rectB l r t b = true) : Fits [l, r, t, b] := by
  unfold rectB at h
  rw [Bool.and_eq_true, List.all_eq_true] at h
  intro v hv
  have := inB2_iff.1 (h.1 v hv)
  omega
theorem matB_fits {a b c d x y : Int} (h : matB a b c d x y = true) : Fits [a, d] ∧ Fits [b, c] ∧ Fits [x, y] := by
  unfold matB at h
  rw [Bool.and_eq_true, List.all_eq_true, List.all_eq_true] at h
  have g1 : ∀ v, v ∈ [a, b, c, d] → -4194304 ≤ v ∧ v ≤ 4194304 := fun v hv => inB2_iff.1 (h.1 v hv)
  have g2 : ∀ v, v ∈ [x, y] → -1048576 ≤ v ∧ v ≤ 1048576 := fun v hv => inB2_iff.1 (h.2 v hv)
  refine ⟨fun v hv => g1 v (by simp at hv ⊢; rcases hv with h | h <;> simp [h]), fun v hv => g1 v (by simp at hv ⊢; rcases hv with h | h <;> simp [h]), fun v hv => ?_⟩
  have := g2 v hv
  omega
theorem nums_ans {l : List Int} (hf : Fits l) {h : Nat} (hh : h = 5) (hll : l.length ≤ 8) {w : Wt} (hw : WOk w) (hl : w.1.length ≤ 490000000) :
    Ans (fun k => call k f___celluloid_field_writer__signed [.u, .i (h : Int), .l (ints l)] (wbox w)) ([], wbox (nums h l w)) := by
  have h24 := hf.wl
  exact wsigned_ans hf.i64 (by omega) (by omega) (by rw [hh]; show WL l < 32; omega) (by omega) hw (by omega)

/-- a rectangle's bytes, ahead of its alignment -/
def rectW (l r t b : Int) (w : Wt) : Wt := nums 5 [l, r, t, b] w
def putRectF (s : List UInt8) (l r t b : Int) : List UInt8 × Int × Int := if rectB l r t b = true then ((rectW l r t b (s, 0)).1, 0, 0) else ([], 0, 1)
theorem putRect_ans {s : List UInt8} (hs : s.length ≤ 450000000) (f l r t b : Int) : Ans (fun k => call k f_field_PutRect [.s s, .i f, .i l, .i r, .i t, .i b] []) (encW (putRectF s l r t b)) := by
  refine Ans.succ (fun k => u_field_PutRect k s f l r t b) ?_
  refine .bind (rightRect_ans l r t b) ?_
  simp only [List.getD_cons_zero, PV.toB]
  unfold putRectF
  refine .ite (fun h => ?_) (fun h => ?_)
  · have h : rectB l r t b = false := by simpa using h
    rw [if_neg (by rw [h]; decide)]; exact .pure _
  · have h : rectB l r t b = true := by simpa using h
    rw [if_pos h]
    refine .bind (putAlign_ans s f) ?_
    simp only [List.getD_cons_zero, List.getD_cons_succ, PV.toI, PV.toS]
    refine .bind (nums_ans (rectB_fits h) rfl (by simp) (w := (s, 0)) (ok_zero s) (by show s.length ≤ 490000000; omega)) ?_
    exact .bind (wdone_ans (nums 5 [l, r, t, b] (s, 0))) (.pure _)

def flagW (b : Bool) (w : Wt) : Wt := putN b.toNat 1 w
theorem wflag' {w : Wt} (hw : WOk w) (hl : w.1.length ≤ 500000000) (b : Bool) : Ans (fun k => call k f___celluloid_field_writer__flag [.u, .b b] (wbox w)) ([], wbox (flagW b w)) := wflag_ans hw hl b
theorem flagW_ok (b : Bool) (w : Wt) (hw : WOk w) : WOk (flagW b w) ∧ WExt w (flagW b w) ∧ wl (flagW b w) = wl w + 1 ∧ (flagW b w).1.length ≤ w.1.length + 1 := by
  obtain ⟨a, b, c, d, e⟩ := putN_ext b.toNat 1 w hw
  exact ⟨a, b, c, e⟩
def optW (c : Bool) (l : List Int) (w : Wt) : Wt := if c = true then nums 5 l w else w
theorem optW_ok (c : Bool) (l : List Int) (w : Wt) (hw : WOk w) : WOk (optW c l w) ∧ WExt w (optW c l w) ∧ wl (optW c l w) = wl w + (if c = true then 5 + WL l * l.length else 0) ∧ (optW c l w).1.length ≤ w.1.length + 5 + WL l * l.length := by
  unfold optW
  cases c with
  | true =>
    obtain ⟨a, b, c, d⟩ := nums_ok 5 l w hw
    exact ⟨a, b, by simp only [if_true]; omega, d⟩
  | false => exact ⟨hw, WExt.refl _, rfl, by simp only [Bool.false_eq_true, if_false]; omega⟩
/-- a matrix's bits -/
def matW (a b c d x y : Int) (w : Wt) : Wt :=
  nums 5 [x, y] (optW (b != 0 || c != 0) [b, c] (flagW (b != 0 || c != 0) (optW (a != 65536 || d != 65536) [a, d] (flagW (a != 65536 || d != 65536) w))))
def putMatF (s : List UInt8) (a b c d x y : Int) : List UInt8 × Int × Int := if matB a b c d x y = true then ((matW a b c d x y (s, 0)).1, 0, 0) else ([], 0, 1)
theorem putMat_ans {s : List UInt8} (hs : s.length ≤ 450000000) (f a b c d x y : Int) : Ans (fun k => call k f_field_PutMatrix [.s s, .i f, .i a, .i b, .i c, .i d, .i x, .i y] []) (encW (putMatF s a b c d x y)) := by
  refine Ans.succ (fun k => u_field_PutMatrix k s f a b c d x y) ?_
  refine .bind (rightMatrix_ans a b c d x y) ?_
  simp only [List.getD_cons_zero, PV.toB]
  unfold putMatF
  refine .ite (fun h => ?_) (fun h => ?_)
  · have h : matB a b c d x y = false := by simpa using h
    rw [if_neg (by rw [h]; decide)]; exact .pure _
  · have h : matB a b c d x y = true := by simpa using h
    rw [if_pos h]
    obtain ⟨f1, f2, f3⟩ := matB_fits h
    have w1 := f1.wl
    have w2 := f2.wl
    refine .bind (putAlign_ans s f) ?_
    simp only [List.getD_cons_zero, List.getD_cons_succ, PV.toI, PV.toS]
    obtain ⟨p, hp⟩ : ∃ p, p = (a != 65536 || d != 65536) := ⟨_, rfl⟩
    obtain ⟨q, hq⟩ : ∃ q, q = (b != 0 || c != 0) := ⟨_, rfl⟩
    refine .bind (x := [.b p, .b q]) ?_ ?_
    · rw [hp, hq]
      refine .ite (fun h1 => .ite (fun h2 => .pure' (by rw [h1, h2]; rfl)) (fun h2 => .pure' (by rw [h1, h2]; rfl))) (fun h1 => .ite (fun h2 => .pure' (by rw [h1, h2]; rfl)) (fun h2 => .pure' (by rw [h1, h2]; rfl)))
    · simp only [List.getD_cons_zero, List.getD_cons_succ, PV.toB]
      have hs0 : WOk ((s, 0) : Wt) := ok_zero s
      obtain ⟨o1, _, _, l1⟩ := flagW_ok p (s, 0) hs0
      obtain ⟨o2, _, _, l2⟩ := optW_ok p [a, d] _ o1
      obtain ⟨o3, _, _, l3⟩ := flagW_ok q _ o2
      obtain ⟨o4, _, _, l4⟩ := optW_ok q [b, c] _ o3
      have l1 : (flagW p (s, 0)).1.length ≤ s.length + 1 := l1
      simp only [List.length_cons, List.length_nil] at l2 l4
      have e : matW a b c d x y (s, 0) = nums 5 [x, y] (optW q [b, c] (flagW q (optW p [a, d] (flagW p (s, 0))))) := by rw [hp, hq]; rfl
      rw [e]
      refine .bind (wflag' hs0 (by show s.length ≤ 500000000; omega) p) (.ite (fun hp1 => ?_) (fun hp1 => ?_))
      · have eo : ∀ w, optW p [a, d] w = nums 5 [a, d] w := fun w => by unfold optW; rw [if_pos hp1]
        rw [eo] at o2 l2 o3 l3 o4 l4 ⊢
        refine .bind (nums_ans f1 rfl (by simp) o1 (by omega)) (.bind (wflag' o2 (by omega) q) (.ite (fun hq1 => ?_) (fun hq1 => ?_)))
        · have eq : ∀ w, optW q [b, c] w = nums 5 [b, c] w := fun w => by unfold optW; rw [if_pos hq1]
          rw [eq] at o4 l4 ⊢
          refine .bind (nums_ans f2 rfl (by simp) o3 (by omega)) (.bind (nums_ans f3 rfl (by simp) o4 (by omega)) ?_)
          exact .bind (wdone_ans _) (.pure _)
        · have eq : ∀ w, optW q [b, c] w = w := fun w => by unfold optW; rw [if_neg (by rw [hq1]; decide)]
          rw [eq] at o4 l4 ⊢
          refine .bind (nums_ans f3 rfl (by simp) o4 (by omega)) ?_
          exact .bind (wdone_ans _) (.pure _)
      · have eo : ∀ w, optW p [a, d] w = w := fun w => by unfold optW; rw [if_neg (by rw [hp1]; decide)]
        rw [eo] at o2 l2 o3 l3 o4 l4 ⊢
        refine .bind (wflag' o2 (by omega) q) (.ite (fun hq1 => ?_) (fun hq1 => ?_))
        · have eq : ∀ w, optW q [b, c] w = nums 5 [b, c] w := fun w => by unfold optW; rw [if_pos hq1]
          rw [eq] at o4 l4 ⊢
          refine .bind (nums_ans f2 rfl (by simp) o3 (by omega)) (.bind (nums_ans f3 rfl (by simp) o4 (by omega)) ?_)
          exact .bind (wdone_ans _) (.pure _)
        · have eq : ∀ w, optW q [b, c] w = w := fun w => by unfold optW; rw [if_neg (by rw [hq1]; decide)]
          rw [eq] at o4 l4 ⊢
          refine .bind (nums_ans f3 rfl (by simp) o4 (by omega)) ?_
          exact .bind (wdone_ans _) (.pure _)
end Go.AI
set_option linter.unusedVariables false
set_option linter.unusedSimpArgs false
set_option maxRecDepth 100000
namespace Go.AI
open Go Go.Proofs

/-- a reader's bytes, its place, its error -/
abbrev Rs := List UInt8 × Int × Int
def pl (σ : Rs) (n : Int) : Int × Rs := if σ.2.2 ≠ 0 then (0, σ) else plainF σ.1 σ.2.1 n
def sg (σ : Rs) (n : Int) : Int × Rs := if σ.2.2 ≠ 0 then (0, σ) else signedF σ.1 σ.2.1 n
def sgs (n : Int) : Nat → Rs → List Int × Rs
  | 0, σ => ([], σ)
  | m + 1, σ => ((sg σ n).1 :: (sgs n m (sg σ n).2).1, (sgs n m (sg σ n).2).2)
def LenOk (σ : Rs) : Prop := σ.1.length ≤ 2 ^ 40
def doneF (σ : Rs) (ok : Bool) : Rs := if σ.2.2 ≠ 0 then ([], 0, σ.2.2) else if ok = false then ([], 0, 3) else (σ.1, alignF σ.1 σ.2.1, 0)
def beginP (s : List UInt8) (a : Int) : Rs := (s, alignF s a, if rightB s a = true then 0 else 1)
/-! ### the document's -/
/-- numbers whose width stands ahead -/
def tk (h : Int) (m : Nat) (σ : Rs) : List Int × Rs := sgs (pl σ h).1 m (pl σ h).2
end Go.AI
set_option linter.unusedVariables false
set_option linter.unusedSimpArgs false
set_option maxRecDepth 100000
namespace Go.AI
open Go Go.Proofs

def opt2 (c : Int × Rs) (da db : Int) : (Int × Int) × Rs := if c.1 = 1 then (((tk 5 2 c.2).1.getD 0 0, (tk 5 2 c.2).1.getD 1 0), (tk 5 2 c.2).2) else ((da, db), c.2)
abbrev Mat := Int × Int × Int × Int × Int × Int
def finM (p q r : (Int × Int) × Rs) : Mat × Rs :=
  let d := doneF r.2 (matB p.1.1 q.1.1 q.1.2 p.1.2 r.1.1 r.1.2)
  if d.2.2 ≠ 0 then ((0, 0, 0, 0, 0, 0), d) else ((p.1.1, q.1.1, q.1.2, p.1.2, r.1.1, r.1.2), d)
def two (σ : Rs) : (Int × Int) × Rs := (((tk 5 2 σ).1.getD 0 0, (tk 5 2 σ).1.getD 1 0), (tk 5 2 σ).2)
/-- a matrix that is read -/
def takeMatF (σ : Rs) : Mat × Rs :=
  finM (opt2 (pl σ 1) 65536 65536) (opt2 (pl (opt2 (pl σ 1) 65536 65536).2 1) 0 0) (two (opt2 (pl (opt2 (pl σ 1) 65536 65536).2 1) 0 0).2)
end Go.AI
set_option linter.unusedVariables false
set_option linter.unusedSimpArgs false
set_option maxRecDepth 100000
namespace Go.AI
open Go Go.Proofs

def cxB (m a : List Int) : Bool := m.all (inB2 (-512) 512) && a.all (inB2 (-255) 255)
abbrev I4 := Int × Int × Int × Int
def I4.l (x : I4) : List Int := [x.1, x.2.1, x.2.2.1, x.2.2.2]
theorem rightCx_ans (m a : I4) : Ans (fun k => call k f_field_RightCx [.i m.1, .i m.2.1, .i m.2.2.1, .i m.2.2.2, .i a.1, .i a.2.1, .i a.2.2.1, .i a.2.2.2] []) ([.b (cxB m.l a.l)], []) := by
  refine Ans.succ (fun k => u_field_RightCx k ..) ?_
  refine .bind (within_ans (-512) 512 (l := m.l) (by simp [I4.l])) ?_
  simp only [List.getD_cons_zero, PV.toB]
  refine .ite (fun h => .bind (within_ans (-255) 255 (l := a.l) (by simp [I4.l])) (.pure' ?_)) (fun h => .pure' ?_)
  · unfold cxB; rw [h]; rfl
  · unfold cxB; rw [h]; rfl

/-- four numbers, if they are there -/
def four (c : Bool) (n : Int) (d : I4) (σ : Rs) : I4 × Rs :=
  if c = true then (((sg σ n).1, (sg (sg σ n).2 n).1, (sg (sg (sg σ n).2 n).2 n).1, (sg (sg (sg (sg σ n).2 n).2 n).2 n).1), (sg (sg (sg (sg σ n).2 n).2 n).2 n).2) else (d, σ)
/-- a colour that is read -/
def takeKF (s : List UInt8) (a : Int) : I4 × Rs :=
  let q := bytesF s a 4
  if q.2.2.2 ≠ 0 then ((0, 0, 0, 0), ([], 0, q.2.2.2)) else ((((q.1.getD 0 0).toNat : Nat), ((q.1.getD 1 0).toNat : Nat), ((q.1.getD 2 0).toNat : Nat), ((q.1.getD 3 0).toNat : Nat)), (q.2.1, q.2.2.1, 0))
end Go.AI
set_option linter.unusedVariables false
set_option linter.unusedSimpArgs false
set_option maxRecDepth 100000
namespace Go.AI
open Go Go.Proofs

end Go.AI
set_option linter.unusedVariables false
set_option linter.unusedSimpArgs false
set_option maxRecDepth 100000
namespace Go.AI
open Go Go.Proofs

end Go.AI
set_option linter.unusedVariables false
set_option linter.unusedSimpArgs false
set_option maxRecDepth 100000
namespace Go.AI
open Go Go.Proofs

def zeroI (a : I4) : Bool := a.1 == 0 && (a.2.1 == 0 && (a.2.2.1 == 0 && a.2.2.2 == 0))
def fullI (m : I4) : Bool := m.1 == 256 && (m.2.1 == 256 && (m.2.2.1 == 256 && m.2.2.2 == 256))
def cxL (m a : I4) : List Int := (if fullI m = true then [] else m.l) ++ (if zeroI a = true then [] else a.l)
/-- a change of colour, in bits -/
def cxW (m a : I4) (w : Wt) : Wt := nums 4 (cxL m a) (flagW (!fullI m) (flagW (!zeroI a) w))
def putCxF (s : List UInt8) (m a : I4) : List UInt8 × Int × Int := if cxB m.l a.l = true then ((cxW m a (s, 0)).1, 0, 0) else ([], 0, 1)
theorem cx_fits {m a : I4} (h : cxB m.l a.l = true) : ∀ v, v ∈ cxL m a → -512 ≤ v ∧ v ≤ 512 := by
  unfold cxB at h
  rw [Bool.and_eq_true, List.all_eq_true, List.all_eq_true] at h
  intro v hv
  unfold cxL at hv
  rcases List.mem_append.1 hv with hv | hv
  · split at hv
    · cases hv
    · exact inB2_iff.1 (h.1 v hv)
  · split at hv
    · cases hv
    · have := inB2_iff.1 (h.2 v hv); omega
theorem cx_wl {m a : I4} (h : cxB m.l a.l = true) : WL (cxL m a) ≤ 11 := WL_bound fun v hv => by
  have := cx_fits h v hv
  refine widthN_abs (by omega) ?_
  have e : ((2 ^ (11 - 1) : Nat) : Int) = 1024 := rfl
  rw [e]; omega
theorem cxL_len (m a : I4) : (cxL m a).length ≤ 8 := by
  unfold cxL I4.l
  split <;> split <;> simp
theorem cxNums_ans {m a : I4} (h : cxB m.l a.l = true) {w : Wt} (hw : WOk w) (hl : w.1.length ≤ 490000000) :
    Ans (fun k => call k f___celluloid_field_writer__signed [.u, .i 4, .l (ints (cxL m a))] (wbox w)) ([], wbox (nums 4 (cxL m a) w)) := by
  have h11 := cx_wl h
  have hlen := cxL_len m a
  exact wsigned_ans (fun v hv => by have := cx_fits h v hv; unfold I64; omega) (by omega) (h := 4) (by omega) (by show WL (cxL m a) < 16; omega) (by omega) hw (by omega)
theorem putCx_ans {s : List UInt8} (hs : s.length ≤ 450000000) (f : Int) (m a : I4) : Ans (fun k => call k f_field_PutCx [.s s, .i f, .i m.1, .i m.2.1, .i m.2.2.1, .i m.2.2.2, .i a.1, .i a.2.1, .i a.2.2.1, .i a.2.2.2] []) (encW (putCxF s m a)) := by
  refine Ans.succ (fun k => u_field_PutCx k ..) ?_
  refine .bind (rightCx_ans m a) ?_
  simp only [List.getD_cons_zero, PV.toB]
  unfold putCxF
  refine .ite (fun h => ?_) (fun h => ?_)
  · have h : cxB m.l a.l = false := by simpa using h
    rw [if_neg (by rw [h]; decide)]; exact .pure _
  · have h : cxB m.l a.l = true := by simpa using h
    rw [if_pos h]
    refine .bind (putAlign_ans s f) (.bind (.succ (fun k => u_field_Plain k) (.pure _)) (.bind (.succ (fun k => u_field_Plain k) (.pure _)) ?_))
    simp only [List.getD_cons_zero, List.getD_cons_succ, PV.toI, PV.toS]
    have hs0 : WOk ((s, 0) : Wt) := ok_zero s
    obtain ⟨q, hq⟩ : ∃ q, q = (!zeroI a) := ⟨_, rfl⟩
    obtain ⟨p, hp⟩ : ∃ p, p = (!fullI m) := ⟨_, rfl⟩
    have hn : ∀ w : Wt, WOk w → w.1.length ≤ 490000000 → Ans (fun k => call k f___celluloid_field_writer__signed [.u, .i 4, .l (ints (cxL m a))] (wbox w)) ([], wbox (nums 4 (cxL m a) w)) := fun w hw hl => cxNums_ans h hw hl
    have e : cxL m a = (if p = true then m.l else []) ++ (if q = true then a.l else []) := by
      unfold cxL; rw [hp, hq]; cases fullI m <;> cases zeroI a <;> rfl
    have eW : cxW m a (s, 0) = nums 4 (cxL m a) (flagW p (flagW q (s, 0))) := by unfold cxW; rw [hp, hq]
    rw [eW, e]
    rw [e] at hn
    unfold zeroI at hq
    unfold fullI at hp
    rw [← hp, ← hq]
    clear e eW hp hq
    obtain ⟨o1, _, _, l1⟩ := flagW_ok q (s, 0) hs0
    obtain ⟨o2, _, _, l2⟩ := flagW_ok p _ o1
    have l1 : (flagW q (s, 0)).1.length ≤ s.length + 1 := l1
    have hn := hn _ o2 (by omega)
    have hf1 := wflag' hs0 (by show s.length ≤ 500000000; omega) q
    have hf2 := wflag' o1 (by omega) p
    clear o1 o2 l1 l2 hs0
    generalize flagW q (s, 0) = w1 at hf1 hf2 hn ⊢
    generalize flagW p w1 = w2 at hf2 hn ⊢
    have hd := wdone_ans (nums 4 ((if p = true then m.l else []) ++ (if q = true then a.l else [])) w2)
    generalize nums 4 ((if p = true then m.l else []) ++ (if q = true then a.l else [])) w2 = w3 at hn hd ⊢
    cases p with
    | true =>
      refine .yes rfl ?_
      rw [if_pos rfl] at hn
      cases q with
      | true =>
        rw [if_pos rfl] at hn
        exact .yes rfl (.bind hf1 (.bind hf2 (.bind hn (.bind hd (.pure _)))))
      | false =>
        rw [if_neg (by decide)] at hn
        exact .no rfl (.bind hf1 (.bind hf2 (.bind hn (.bind hd (.pure _)))))
    | false =>
      refine .no rfl ?_
      rw [if_neg (by decide)] at hn
      cases q with
      | true =>
        rw [if_pos rfl] at hn
        exact .yes rfl (.bind hf1 (.bind hf2 (.bind hn (.bind hd (.pure _)))))
      | false =>
        rw [if_neg (by decide)] at hn
        exact .no rfl (.bind hf1 (.bind hf2 (.bind hn (.bind hd (.pure _)))))

def rgbaB (c : I4) : Bool := c.l.all (inB2 0 255)
def rgbaS (c : I4) : List UInt8 := [UInt8.ofNat c.1.toNat, UInt8.ofNat c.2.1.toNat, UInt8.ofNat c.2.2.1.toNat, UInt8.ofNat c.2.2.2.toNat]
theorem rightK_ans (c : I4) : Ans (fun k => call k f_field_RightRGBA [.i c.1, .i c.2.1, .i c.2.2.1, .i c.2.2.2] []) ([.b (rgbaB c)], []) := by
  refine Ans.succ (fun k => u_field_RightRGBA k ..) ?_
  exact .bind (within_ans 0 255 (l := c.l) (by simp [I4.l])) (.pure _)
theorem rgba_range {c : I4} (h : rgbaB c = true) : (0 ≤ c.1 ∧ c.1 ≤ 255) ∧ (0 ≤ c.2.1 ∧ c.2.1 ≤ 255) ∧ (0 ≤ c.2.2.1 ∧ c.2.2.1 ≤ 255) ∧ (0 ≤ c.2.2.2 ∧ c.2.2.2 ≤ 255) := by
  unfold rgbaB at h
  rw [List.all_eq_true] at h
  exact ⟨inB2_iff.1 (h _ (by simp [I4.l])), inB2_iff.1 (h _ (by simp [I4.l])), inB2_iff.1 (h _ (by simp [I4.l])), inB2_iff.1 (h _ (by simp [I4.l]))⟩
theorem rgba_bytes {c : I4} (h : rgbaB c = true) : toBytes (List.set (List.set (List.set (List.set [[PV.i 0], [PV.i 0], [PV.i 0], [PV.i 0]] 0 [PV.i (IntKind.wrap .u8 c.1)]) 1 [PV.i (IntKind.wrap .u8 c.2.1)]) 2 [PV.i (IntKind.wrap .u8 c.2.2.1)]) 3 [PV.i (IntKind.wrap .u8 c.2.2.2)]) = rgbaS c := by
  obtain ⟨h1, h2, h3, h4⟩ := rgba_range h
  rw [wrapU8' h1.1 (by omega), wrapU8' h2.1 (by omega), wrapU8' h3.1 (by omega), wrapU8' h4.1 (by omega)]
  rfl
def putKF (s : List UInt8) (c : I4) : List UInt8 × Int × Int := if rgbaB c = true then (s ++ rgbaS c, 0, 0) else ([], 0, 1)
theorem putK_ans {s : List UInt8} (hs : s.length ≤ 450000000) (f : Int) (c : I4) : Ans (fun k => call k f_field_PutRGBA [.s s, .i f, .i c.1, .i c.2.1, .i c.2.2.1, .i c.2.2.2] []) (encW (putKF s c)) := by
  refine Ans.succ (fun k => u_field_PutRGBA k ..) (.bind (rightK_ans c) ?_)
  simp only [List.getD_cons_zero, PV.toB]
  unfold putKF
  refine .ite (fun h => ?_) (fun h => ?_)
  · have h : rgbaB c = false := by simpa using h
    rw [if_neg (by rw [h]; decide)]; exact .pure _
  · have h : rgbaB c = true := by simpa using h
    rw [if_pos h, rgba_bytes h]
    exact .bind (putBytes_ans (by simp [rgbaS]; omega) f) (.pure _)
end Go.AI
set_option linter.unusedVariables false
set_option linter.unusedSimpArgs false
set_option maxRecDepth 100000
namespace Go.AI
open Go Go.Proofs

/-- a writer of so many bytes at most -/
def WB (n : Nat) (w : Wt) : Prop := WOk w ∧ w.1.length ≤ n
theorem WB.zero : WB 0 (([], 0) : Wt) := ⟨ok_zero [], Nat.le_refl _⟩
theorem nums_behind (s : List UInt8) {h : Nat} {l : List Int} {w : Wt} (hw : WOk w) : s ++ (nums h l w).1 = (nums h l (s ++ w.1, w.2)).1 := by rw [nums_pre s h l w hw]
theorem flag_behind (s : List UInt8) {b : Bool} {w : Wt} (hw : WOk w) : flagW b (s ++ w.1, w.2) = (s ++ (flagW b w).1, (flagW b w).2) := putN_pre s _ _ w hw
theorem opt_behind (s : List UInt8) {c : Bool} {l : List Int} {w : Wt} (hw : WOk w) : optW c l (s ++ w.1, w.2) = (s ++ (optW c l w).1, (optW c l w).2) := by
  unfold optW; split
  · exact nums_pre s 5 l w hw
  · rfl
theorem mat_behind (s : List UInt8) (a b c d x y : Int) : (matW a b c d x y (s, 0)).1 = s ++ (matW a b c d x y ([], 0)).1 := by
  unfold matW
  generalize (a != 65536 || d != 65536) = p
  generalize (b != 0 || c != 0) = q
  have o0 : WOk (([], 0) : Wt) := ok_zero []
  have o1 := (flagW_ok p ([], 0) o0).1
  have o2 := (optW_ok p [a, d] _ o1).1
  have o3 := (flagW_ok q _ o2).1
  have o4 := (optW_ok q [b, c] _ o3).1
  rw [nums_behind s o4, ← opt_behind s o3, ← flag_behind s o2, ← opt_behind s o1, ← flag_behind s o0, List.append_nil]
end Go.AI
set_option linter.unusedVariables false
set_option linter.unusedSimpArgs false
set_option maxRecDepth 100000
namespace Go.AI
open Go Go.Proofs

end Go.AI
set_option linter.unusedVariables false
set_option linter.unusedSimpArgs false
set_option maxRecDepth 100000
namespace Go.AI
open Go Go.Proofs

end Go.AI
set_option linter.unusedVariables false
set_option linter.unusedSimpArgs false
set_option maxRecDepth 100000
namespace Go.AI
open Go Go.Proofs

end Go.AI
set_option linter.unusedVariables false
set_option linter.unusedSimpArgs false
set_option maxRecDepth 100000
namespace Go.AI
open Go Go.Proofs

end Go.AI
set_option linter.unusedVariables false
set_option linter.unusedSimpArgs false
set_option maxRecDepth 100000
namespace Go.AI
open Go Go.Proofs

end Go.AI
