/- Rectangles and matrices: are they right, and how they are written. -/
import Derived.Test.YtnbmjpdiibandaaP07a
set_option linter.unusedVariables false
set_option linter.unusedSimpArgs false
set_option maxRecDepth 100000
namespace Go.AI
open Go Go.Proofs

theorem Ans.andB {m : Nat → Option Res} {c d : Bool} {y : Nat → Option (List PV)} (h : Ans m ([.b c], [])) (h2 : c = true → Ans y [.b d]) :
    Ans (fun k => (m k).bind fun r => bif (r.1.getD 0 .u).toB then y k else some [.b false]) [.b (c && d)] := by
  refine .bind h ?_
  simp only [List.getD_cons_zero, PV.toB]
  cases c with
  | true => exact .yes rfl (h2 rfl)
  | false => exact .no rfl (.pure _)

def inB2 (a b v : Int) : Bool := decide (a ≤ v) && decide (v ≤ b)
theorem within_loop {a b : Int} {l : List Int} (hll : l.length ≤ 100) : ∀ (rest pre : List Int), l = pre ++ rest →
    Ans (fun k => run k f_field_within [] at_field_within_L0 (S_field_within_L0 a b (ints l) l.length pre.length)) ([.b (rest.all (inB2 a b))], [])
  | [], pre, hp => by
    refine Ans.succ (fun k => u_field_within_L0 k ..) ?_
    exact .no (by rw [hp]; simp) (.pure _)
  | v :: rest, pre, hp => by
    refine Ans.succ (fun k => u_field_within_L0 k ..) ?_
    have hlen : l.length = pre.length + rest.length + 1 := by rw [hp]; simp; omega
    have hget : l.getD pre.length 0 = v := by rw [hp]; simp [List.getD]
    have e2 : IntKind.wrap .i64 ((pre.length : Int) + 1) = (((pre ++ [v]).length : Nat) : Int) := by rw [wrap64 (by omega) (by omega)]; simp
    have ih := within_loop (a := a) (b := b) hll rest (pre ++ [v]) (by rw [hp]; simp)
    rw [ints_get (by omega), hget, e2]
    simp only [List.getD_cons_zero, PV.toI]
    refine .yes (by simp; omega) (.yes (by unfold inB; simp [ints_length]; omega) (.bind (x := [.b (!inB2 a b v)]) ?_ ?_))
    · unfold inB2
      refine .ite (fun h => .pure' ?_) (fun h => .pure' ?_)
      · have : decide (a ≤ v) = false := by simp at h ⊢; omega
        rw [this]; rfl
      · have h1 : decide (a ≤ v) = true := by simp at h ⊢; omega
        have h2 : decide (v > b) = !decide (v ≤ b) := by
          by_cases c : v ≤ b
          · rw [decide_eq_true c, decide_eq_false (by omega)]; rfl
          · rw [decide_eq_false c, decide_eq_true (by omega)]; rfl
        rw [h1, h2]; rfl
    · simp only [List.getD_cons_zero, PV.toB]
      refine .ite (fun h => .pure' ?_) (fun h => ?_)
      · have : inB2 a b v = false := by simpa using h
        rw [List.all_cons, this]; rfl
      · have : inB2 a b v = true := by simpa using h
        rw [List.all_cons, this]; exact ih
theorem within_ans (a b : Int) {l : List Int} (hll : l.length ≤ 100) : Ans (fun k => call k f_field_within [.i a, .i b, .l (ints l)] []) ([.b (l.all (inB2 a b))], []) := by
  refine Ans.succ (fun k => u_field_within k a b (ints l)) ?_
  rw [ints_length]
  exact within_loop hll l [] rfl

def MC : Int := 1048576
def rectB (l r t b : Int) : Bool := [l, r, t, b].all (inB2 (-1048576) 1048576) && (decide (l ≤ r) && decide (t ≤ b))
def matB (a b c d x y : Int) : Bool := [a, b, c, d].all (inB2 (-4194304) 4194304) && [x, y].all (inB2 (-1048576) 1048576)
theorem rightRect_ans (l r t b : Int) : Ans (fun k => call k f_field_RightRect [.i l, .i r, .i t, .i b] []) ([.b (rectB l r t b)], []) := by
  refine Ans.succ (fun k => u_field_RightRect k l r t b) ?_
  refine .bind (x := [.b (rectB l r t b)]) (.andB (within_ans (-1048576) 1048576 (l := [l, r, t, b]) (by simp)) (fun _ => ?_)) (.pure _)
  exact .ite (fun h => .pure' (by rw [h]; rfl)) (fun h => .pure' (by rw [h]; rfl))
theorem rightMatrix_ans (a b c d x y : Int) : Ans (fun k => call k f_field_RightMatrix [.i a, .i b, .i c, .i d, .i x, .i y] []) ([.b (matB a b c d x y)], []) := by
  refine Ans.succ (fun k => u_field_RightMatrix k a b c d x y) ?_
  exact .bind (x := [.b (matB a b c d x y)]) (.andB (within_ans (-4194304) 4194304 (l := [a, b, c, d]) (by simp)) (fun _ => .bind (within_ans (-1048576) 1048576 (l := [x, y]) (by simp)) (.pure _))) (.pure _)

/-- numbers with their width ahead -/
def nums (h : Nat) (l : List Int) (w : Wt) : Wt := numsW (WL l) l (putN (WL l) h w)
theorem nums_ok (h : Nat) (l : List Int) (w : Wt) (hw : WOk w) : WOk (nums h l w) ∧ WExt w (nums h l w) ∧ wl (nums h l w) = wl w + h + WL l * l.length ∧ (nums h l w).1.length ≤ w.1.length + h + WL l * l.length := by
  obtain ⟨a, b, c, d, e⟩ := putN_ext (WL l) h w hw
  obtain ⟨a2, b2, c2, d2⟩ := numsW_ok (WL l) l _ a
  refine ⟨a2, b.trans b2, ?_, ?_⟩
  · unfold nums; rw [c2, c]
  · unfold nums; omega
theorem nums_pre (s : List UInt8) (h : Nat) (l : List Int) (w : Wt) (hw : WOk w) : nums h l (s ++ w.1, w.2) = (s ++ (nums h l w).1, (nums h l w).2) := by
  unfold nums
  rw [putN_pre s _ h w hw]
  exact numsW_pre s _ l _ (putN_ext _ h w hw).1
/-- numbers that fit -/
def Fits (l : List Int) : Prop := ∀ v, v ∈ l → -4194304 ≤ v ∧ v ≤ 4194304
theorem Fits.i64 {l : List Int} (h : Fits l) : ∀ v, v ∈ l → I64 v := fun v hv => by have := h v hv; unfold I64; omega
theorem Fits.wl {l : List Int} (h : Fits l) : WL l ≤ 24 := WL_bound fun v hv => by
  have := h v hv
  refine widthN_abs (by omega) ?_
  have e : ((2 ^ (24 - 1) : Nat) : Int) = 8388608 := rfl
  rw [e]; omega
theorem inB2_iff {a b v : Int} : inB2 a b v = true ↔ a ≤ v ∧ v ≤ b := by unfold inB2; simp
theorem rectB_fits {l r t b : Int} (h : rectB l r t b = true) : Fits [l, r, t, b] := by
  unfold rectB at h
  rw [Bool.and_eq_true, List.all_eq_true] at h
  intro v hv
  have := inB2_iff.1 (h.1 v hv)
  omega
theorem matB_fits {a b c d x y : Int} (h : matB a b c d x y = true) : Fits [a, d] ∧ Fits [b, c] ∧ Fits [x, y] := by
  unfold matB at h
  rw [Bool.and_eq_true, List.all_eq_true, List.all_eq_true] at h
  have g1 : ∀ v, v ∈ [a, b, c, d] → -4194304 ≤ v ∧ v ≤ 4194304 := fun v hv => inB2_iff.1 (h.1 v hv)
  have g2 : ∀ v, v ∈ [x, y] → -1048576 ≤ v ∧ v ≤ 1048576 := fun v hv => inB2_iff.1 (h.2 v hv)
  refine ⟨fun v hv => g1 v (by simp at hv ⊢; rcases hv with h | h <;> simp [h]), fun v hv => g1 v (by simp at hv ⊢; rcases hv with h | h <;> simp [h]), fun v hv => ?_⟩
  have := g2 v hv
  omega
theorem nums_ans {l : List Int} (hf : Fits l) {h : Nat} (hh : h = 5) (hll : l.length ≤ 8) {w : Wt} (hw : WOk w) (hl : w.1.length ≤ 490000000) :
    Ans (fun k => call k f___celluloid_field_writer__signed [.u, .i (h : Int), .l (ints l)] (wbox w)) ([], wbox (nums h l w)) := by
  have h24 := hf.wl
  exact wsigned_ans hf.i64 (by omega) (by omega) (by rw [hh]; show WL l < 32; omega) (by omega) hw (by omega)

/-- a rectangle's bytes, ahead of its alignment -/
def rectW (l r t b : Int) (w : Wt) : Wt := nums 5 [l, r, t, b] w
def putRectF (s : List UInt8) (l r t b : Int) : List UInt8 × Int × Int := if rectB l r t b = true then ((rectW l r t b (s, 0)).1, 0, 0) else ([], 0, 1)
theorem putRect_ans {s : List UInt8} (hs : s.length ≤ 450000000) (f l r t b : Int) : Ans (fun k => call k f_field_PutRect [.s s, .i f, .i l, .i r, .i t, .i b] []) (encW (putRectF s l r t b)) := by
  refine Ans.succ (fun k => u_field_PutRect k s f l r t b) ?_
  refine .bind (rightRect_ans l r t b) ?_
  simp only [List.getD_cons_zero, PV.toB]
  unfold putRectF
  refine .ite (fun h => ?_) (fun h => ?_)
  · have h : rectB l r t b = false := by simpa using h
    rw [if_neg (by rw [h]; decide)]; exact .pure _
  · have h : rectB l r t b = true := by simpa using h
    rw [if_pos h]
    refine .bind (putAlign_ans s f) ?_
    simp only [List.getD_cons_zero, List.getD_cons_succ, PV.toI, PV.toS]
    refine .bind (nums_ans (rectB_fits h) rfl (by simp) (w := (s, 0)) (ok_zero s) (by show s.length ≤ 490000000; omega)) ?_
    exact .bind (wdone_ans (nums 5 [l, r, t, b] (s, 0))) (.pure _)

def flagW (b : Bool) (w : Wt) : Wt := putN b.toNat 1 w
theorem wflag' {w : Wt} (hw : WOk w) (hl : w.1.length ≤ 500000000) (b : Bool) : Ans (fun k => call k f___celluloid_field_writer__flag [.u, .b b] (wbox w)) ([], wbox (flagW b w)) := wflag_ans hw hl b
theorem flagW_ok (b : Bool) (w : Wt) (hw : WOk w) : WOk (flagW b w) ∧ WExt w (flagW b w) ∧ wl (flagW b w) = wl w + 1 ∧ (flagW b w).1.length ≤ w.1.length + 1 := by
  obtain ⟨a, b, c, d, e⟩ := putN_ext b.toNat 1 w hw
  exact ⟨a, b, c, e⟩
def optW (c : Bool) (l : List Int) (w : Wt) : Wt := if c = true then nums 5 l w else w
theorem optW_ok (c : Bool) (l : List Int) (w : Wt) (hw : WOk w) : WOk (optW c l w) ∧ WExt w (optW c l w) ∧ wl (optW c l w) = wl w + (if c = true then 5 + WL l * l.length else 0) ∧ (optW c l w).1.length ≤ w.1.length + 5 + WL l * l.length := by
  unfold optW
  cases c with
  | true =>
    obtain ⟨a, b, c, d⟩ := nums_ok 5 l w hw
    exact ⟨a, b, by simp only [if_true]; omega, d⟩
  | false => exact ⟨hw, WExt.refl _, rfl, by simp only [Bool.false_eq_true, if_false]; omega⟩
/-- a matrix's bits -/
def matW (a b c d x y : Int) (w : Wt) : Wt :=
  nums 5 [x, y] (optW (b != 0 || c != 0) [b, c] (flagW (b != 0 || c != 0) (optW (a != 65536 || d != 65536) [a, d] (flagW (a != 65536 || d != 65536) w))))
theorem matW_ok (a b c d x y : Int) (w : Wt) (hw : WOk w) : WOk (matW a b c d x y w) ∧ WExt w (matW a b c d x y w) := by
  obtain ⟨a1, b1, _⟩ := flagW_ok (a != 65536 || d != 65536) w hw
  obtain ⟨a2, b2, _⟩ := optW_ok (a != 65536 || d != 65536) [a, d] _ a1
  obtain ⟨a3, b3, _⟩ := flagW_ok (b != 0 || c != 0) _ a2
  obtain ⟨a4, b4, _⟩ := optW_ok (b != 0 || c != 0) [b, c] _ a3
  obtain ⟨a5, b5, _⟩ := nums_ok 5 [x, y] _ a4
  exact ⟨a5, b1.trans (b2.trans (b3.trans (b4.trans b5)))⟩
def putMatF (s : List UInt8) (a b c d x y : Int) : List UInt8 × Int × Int := if matB a b c d x y = true then ((matW a b c d x y (s, 0)).1, 0, 0) else ([], 0, 1)
theorem putMat_ans {s : List UInt8} (hs : s.length ≤ 450000000) (f a b c d x y : Int) : Ans (fun k => call k f_field_PutMatrix [.s s, .i f, .i a, .i b, .i c, .i d, .i x, .i y] []) (encW (putMatF s a b c d x y)) := by
  refine Ans.succ (fun k => u_field_PutMatrix k s f a b c d x y) ?_
  refine .bind (rightMatrix_ans a b c d x y) ?_
  simp only [List.getD_cons_zero, PV.toB]
  unfold putMatF
  refine .ite (fun h => ?_) (fun h => ?_)
  · have h : matB a b c d x y = false := by simpa using h
    rw [if_neg (by rw [h]; decide)]; exact .pure _
  · have h : matB a b c d x y = true := by simpa using h
    rw [if_pos h]
    obtain ⟨f1, f2, f3⟩ := matB_fits h
    have w1 := f1.wl
    have w2 := f2.wl
    refine .bind (putAlign_ans s f) ?_
    simp only [List.getD_cons_zero, List.getD_cons_succ, PV.toI, PV.toS]
    obtain ⟨p, hp⟩ : ∃ p, p = (a != 65536 || d != 65536) := ⟨_, rfl⟩
    obtain ⟨q, hq⟩ : ∃ q, q = (b != 0 || c != 0) := ⟨_, rfl⟩
    refine .bind (x := [.b p, .b q]) ?_ ?_
    · rw [hp, hq]
      refine .ite (fun h1 => .ite (fun h2 => .pure' (by rw [h1, h2]; rfl)) (fun h2 => .pure' (by rw [h1, h2]; rfl))) (fun h1 => .ite (fun h2 => .pure' (by rw [h1, h2]; rfl)) (fun h2 => .pure' (by rw [h1, h2]; rfl)))
    · simp only [List.getD_cons_zero, List.getD_cons_succ, PV.toB]
      have hs0 : WOk ((s, 0) : Wt) := ok_zero s
      obtain ⟨o1, _, _, l1⟩ := flagW_ok p (s, 0) hs0
      obtain ⟨o2, _, _, l2⟩ := optW_ok p [a, d] _ o1
      obtain ⟨o3, _, _, l3⟩ := flagW_ok q _ o2
      obtain ⟨o4, _, _, l4⟩ := optW_ok q [b, c] _ o3
      have l1 : (flagW p (s, 0)).1.length ≤ s.length + 1 := l1
      simp only [List.length_cons, List.length_nil] at l2 l4
      have e : matW a b c d x y (s, 0) = nums 5 [x, y] (optW q [b, c] (flagW q (optW p [a, d] (flagW p (s, 0))))) := by rw [hp, hq]; rfl
      rw [e]
      refine .bind (wflag' hs0 (by show s.length ≤ 500000000; omega) p) (.ite (fun hp1 => ?_) (fun hp1 => ?_))
      · have eo : ∀ w, optW p [a, d] w = nums 5 [a, d] w := fun w => by unfold optW; rw [if_pos hp1]
        rw [eo] at o2 l2 o3 l3 o4 l4 ⊢
        refine .bind (nums_ans f1 rfl (by simp) o1 (by omega)) (.bind (wflag' o2 (by omega) q) (.ite (fun hq1 => ?_) (fun hq1 => ?_)))
        · have eq : ∀ w, optW q [b, c] w = nums 5 [b, c] w := fun w => by unfold optW; rw [if_pos hq1]
          rw [eq] at o4 l4 ⊢
          refine .bind (nums_ans f2 rfl (by simp) o3 (by omega)) (.bind (nums_ans f3 rfl (by simp) o4 (by omega)) ?_)
          exact .bind (wdone_ans _) (.pure _)
        · have eq : ∀ w, optW q [b, c] w = w := fun w => by unfold optW; rw [if_neg (by rw [hq1]; decide)]
          rw [eq] at o4 l4 ⊢
          refine .bind (nums_ans f3 rfl (by simp) o4 (by omega)) ?_
          exact .bind (wdone_ans _) (.pure _)
      · have eo : ∀ w, optW p [a, d] w = w := fun w => by unfold optW; rw [if_neg (by rw [hp1]; decide)]
        rw [eo] at o2 l2 o3 l3 o4 l4 ⊢
        refine .bind (wflag' o2 (by omega) q) (.ite (fun hq1 => ?_) (fun hq1 => ?_))
        · have eq : ∀ w, optW q [b, c] w = nums 5 [b, c] w := fun w => by unfold optW; rw [if_pos hq1]
          rw [eq] at o4 l4 ⊢
          refine .bind (nums_ans f2 rfl (by simp) o3 (by omega)) (.bind (nums_ans f3 rfl (by simp) o4 (by omega)) ?_)
          exact .bind (wdone_ans _) (.pure _)
        · have eq : ∀ w, optW q [b, c] w = w := fun w => by unfold optW; rw [if_neg (by rw [hq1]; decide)]
          rw [eq] at o4 l4 ⊢
          refine .bind (nums_ans f3 rfl (by simp) o4 (by omega)) ?_
          exact .bind (wdone_ans _) (.pure _)
end Go.AI
