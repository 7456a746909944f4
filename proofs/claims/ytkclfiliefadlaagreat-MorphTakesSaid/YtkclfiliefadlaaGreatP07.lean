/- What the field layer writes: numbers with their width ahead; flags. -/
import Derived.Test.YtkclfiliefadlaaGreatP02
set_option linter.unusedVariables false
set_option linter.unusedSimpArgs false
set_option maxRecDepth 100000
namespace Go.AI
open Go Go.Proofs

def ints (l : List Int) : List (List PV) := l.map fun v => [.i v]
theorem ints_length (l : List Int) : (ints l).length = l.length := by simp [ints]
theorem elI_ints {l : List Int} {i : Nat} (h : i < l.length) : elI (ints l) i = l.getD i 0 := by
  simp [elI, ints, List.getD, h, PV.toI]
/-- the greatest width -/
def WL (l : List Int) : Nat := widthL (ints l) l.length
theorem widthL_bound {l : List Int} {b : Nat} (h : ∀ v, v ∈ l → widthN v ≤ b) : ∀ n, n ≤ l.length → widthL (ints l) n ≤ b
  | 0, _ => by simp [widthL]
  | n + 1, hn => by
    have := widthL_bound h n (by omega)
    simp only [widthL, elI_ints (show n < l.length by omega)]
    have h2 := h (l.getD n 0) (by rw [show l.getD n 0 = l[n] by simp [List.getD, show n < l.length by omega]]; exact List.getElem_mem _)
    omega
theorem WL_bound {l : List Int} {b : Nat} (h : ∀ v, v ∈ l → widthN v ≤ b) : WL l ≤ b := widthL_bound h _ (Nat.le_refl _)
theorem widthN_abs {v : Int} {n : Nat} (hn : 0 < n) (h : -((2 ^ (n - 1) : Nat) : Int) ≤ v ∧ v < ((2 ^ (n - 1) : Nat) : Int)) : widthN v ≤ n := by
  by_cases h0 : v = 0
  · subst h0; rw [widthN_zero]; omega
  · exact (widthN_le h0 hn).2 h

/-- numbers, one behind the other -/
def numsW (n : Nat) : List Int → Wt → Wt
  | [], w => w
  | v :: l, w => numsW n l (putN (signU v n).toNat n w)
theorem numsW_ok (n : Nat) : ∀ (l : List Int) (w : Wt), WOk w → WOk (numsW n l w) ∧ WExt w (numsW n l w) ∧ wl (numsW n l w) = wl w + n * l.length ∧ (numsW n l w).1.length ≤ w.1.length + n * l.length
  | [], w, h => ⟨h, WExt.refl _, by simp [numsW], by simp [numsW]⟩
  | v :: l, w, h => by
    obtain ⟨a, b, c, d, e⟩ := putN_ext (signU v n).toNat n w h
    obtain ⟨a2, b2, c2, e2⟩ := numsW_ok n l _ a
    refine ⟨a2, b.trans b2, ?_, ?_⟩
    · simp only [numsW, List.length_cons, Nat.mul_succ]; rw [c2, c]; omega
    · simp only [numsW, List.length_cons, Nat.mul_succ]; omega

theorem ints_get {l : List Int} {i : Nat} (h : i < l.length) : elemAt (ints l) (i : Int) = [.i (l.getD i 0)] := by
  rw [elemAt_nat]; simp [ints, List.getD, h]
/-! ### the document's -/
/-! ### behind other bytes -/
end Go.AI
set_option linter.unusedVariables false
set_option linter.unusedSimpArgs false
set_option maxRecDepth 100000
namespace Go.AI
open Go Go.Proofs

theorem Ans.andB {m : Nat → Option Res} {c d : Bool} {y : Nat → Option (List PV)} (h : Ans m ([.b c], [])) (h2 : c = true → Ans y [.b d]) :
    Ans (fun k => (m k).bind fun r => bif (r.1.getD 0 .u).toB then y k else some [.b false]) [.b (c && d)] := by
  refine .bind h ?_
  simp only [List.getD_cons_zero, PV.toB]
  cases c with
  | true => exact .yes rfl (h2 rfl)
  | false => exact .no rfl (.pure _)

def inB2 (a b v : Int) : Bool := decide (a ≤ v) && decide (v ≤ b)
theorem within_loop {a b : Int} {l : List Int} (hll : l.length ≤ 100) : ∀ (rest pre : List Int), l = pre ++ rest →
    Ans (fun k => run k f_field_within [] at_field_within_L0 (S_field_within_L0 a b (ints l) l.length pre.length)) ([.b (rest.all (inB2 a b))], [])
  | [], pre, hp => by
    refine Ans.succ (fun k => u_field_within_L0 k ..) ?_
    exact .no (by rw [hp]; simp) (.pure _)
  | v :: rest, pre, hp => by
    refine Ans.succ (fun k => u_field_within_L0 k ..) ?_
    have hlen : l.length = pre.length + rest.length + 1 := by rw [hp]; simp; omega
    have hget : l.getD pre.length 0 = v := by rw [hp]; simp [List.getD]
    have e2 : IntKind.wrap .i64 ((pre.length : Int) + 1) = (((pre ++ [v]).length : Nat) : Int) := by rw [wrap64 (by omega) (by omega)]; simp
    have ih := within_loop (a := a) (b := b) hll rest (pre ++ [v]) (by rw [hp]; simp)
    rw [ints_get (by omega), hget, e2]
    simp only [List.getD_cons_zero, PV.toI]
    refine .yes (by simp; omega) (.yes (by unfold inB; simp [ints_length]; omega) (.bind (x := [.b (!inB2 a b v)]) ?_ ?_))
    · unfold inB2
      refine .ite (fun h => .pure' ?_) (fun h => .pure' ?_)
      · have : decide (a ≤ v) = false := by simp at h ⊢; omega
        rw [this]; rfl
      · have h1 : decide (a ≤ v) = true := by simp at h ⊢; omega
        have h2 : decide (v > b) = !decide (v ≤ b) := by
          by_cases c : v ≤ b
          · rw [decide_eq_true c, decide_eq_false (by omega)]; rfl
          · rw [decide_eq_false c, decide_eq_true (by omega)]; rfl
        rw [h1, h2]; rfl
    · simp only [List.getD_cons_zero, PV.toB]
      refine .ite (fun h => .pure' ?_) (fun h => ?_)
      · have : inB2 a b v = false := by simpa using h
        rw [List.all_cons, this]; rfl
      · have : inB2 a b v = true := by simpa using h
        rw [List.all_cons, this]; exact ih
theorem within_ans (a b : Int) {l : List Int} (hll : l.length ≤ 100) : Ans (fun k => call k f_field_within [.i a, .i b, .l (ints l)] []) ([.b (l.all (inB2 a b))], []) := by
  refine Ans.succ (fun k => u_field_within k a b (ints l)) ?_
  rw [ints_length]
  exact within_loop hll l [] rfl

def rectB (l r t b : Int) : Bool := [l, r, t, b].all (inB2 (-1048576) 1048576) && (decide (l ≤ r) && decide (t ≤ b))
def matB (a b c d x y : Int) : Bool := [a, b, c, d].all (inB2 (-4194304) 4194304) && [x, y].all (inB2 (-1048576) 1048576)
theorem rightRect_ans (l r t b : Int) : Ans (fun k => call k f_field_RightRect [.i l, .i r, .i t, .i b] []) ([.b (rectB l r t b)], []) := by
  refine Ans.succ (fun k => u_field_RightRect k l r t b) ?_
  refine .bind (x := [.b (rectB l r t b)]) (.andB (within_ans (-1048576) 1048576 (l := [l, r, t, b]) (by simp)) (fun _ => ?_)) (.pure _)
  exact .ite (fun h => .pure' (by rw [h]; rfl)) (fun h => .pure' (by rw [h]; rfl))
theorem rightMatrix_ans (a b c d x y : Int) : Ans (fun k => call k f_field_RightMatrix [.i a, .i b, .i c, .i d, .i x, .i y] []) ([.b (matB a b c d x y)], []) := by
  refine Ans.succ (fun k => u_field_RightMatrix k a b c d x y) ?_
  exact .bind (x := [.b (matB a b c d x y)]) (.andB (within_ans (-4194304) 4194304 (l := [a, b, c, d]) (by simp)) (fun _ => .bind (within_ans (-1048576) 1048576 (l := [x, y]) (by simp)) (.pure _))) (.pure _)

/-- numbers with their width ahead -/
def nums (h : Nat) (l : List Int) (w : Wt) : Wt := numsW (WL l) l (putN (WL l) h w)
theorem nums_ok (h : Nat) (l : List Int) (w : Wt) (hw : WOk w) : WOk (nums h l w) ∧ WExt w (nums h l w) ∧ wl (nums h l w) = wl w + h + WL l * l.length ∧ (nums h l w).1.length ≤ w.1.length + h + WL l * l.length := by
  obtain ⟨a, b, c, d, e⟩ := putN_ext (WL l) h w hw
  obtain ⟨a2, b2, c2, d2⟩ := numsW_ok (WL l) l _ a
  refine ⟨a2, b.trans b2, ?_, ?_⟩
  · unfold nums; rw [c2, c]
  · unfold nums; omega
/-- numbers that fit -/
def Fits (l : List Int) : Prop := ∀ v, v ∈ l → -4194304 ≤ v ∧ v ≤ 4194304
theorem Fits.i64 {l : List Int} (h : Fits l) : ∀ v, v ∈ l → I64 v := fun v hv => by have := h v hv; unfold I64; omega
theorem Fits.wl {l : List Int} (h : Fits l) : WL l ≤ 24 := WL_bound fun v hv => by
  have := h v hv
  refine widthN_abs (by omega) ?_
  have e : ((2 ^ (24 - 1) : Nat) : Int) = 8388608 := rfl
  rw [e]; omega
def flagW (b : Bool) (w : Wt) : Wt := putN b.toNat 1 w
theorem flagW_ok (b : Bool) (w : Wt) (hw : WOk w) : WOk (flagW b w) ∧ WExt w (flagW b w) ∧ wl (flagW b w) = wl w + 1 ∧ (flagW b w).1.length ≤ w.1.length + 1 := by
  obtain ⟨a, b, c, d, e⟩ := putN_ext b.toNat 1 w hw
  exact ⟨a, b, c, e⟩
def optW (c : Bool) (l : List Int) (w : Wt) : Wt := if c = true then nums 5 l w else w
theorem optW_ok (c : Bool) (l : List Int) (w : Wt) (hw : WOk w) : WOk (optW c l w) ∧ WExt w (optW c l w) ∧ wl (optW c l w) = wl w + (if c = true then 5 + WL l * l.length else 0) ∧ (optW c l w).1.length ≤ w.1.length + 5 + WL l * l.length := by
  unfold optW
  cases c with
  | true =>
    obtain ⟨a, b, c, d⟩ := nums_ok 5 l w hw
    exact ⟨a, b, by simp only [if_true]; omega, d⟩
  | false => exact ⟨hw, WExt.refl _, rfl, by simp only [Bool.false_eq_true, if_false]; omega⟩
/-- a matrix's bits -/
def matW (a b c d x y : Int) (w : Wt) : Wt :=
  nums 5 [x, y] (optW (b != 0 || c != 0) [b, c] (flagW (b != 0 || c != 0) (optW (a != 65536 || d != 65536) [a, d] (flagW (a != 65536 || d != 65536) w))))
theorem matW_ok (a b c d x y : Int) (w : Wt) (hw : WOk w) : WOk (matW a b c d x y w) ∧ WExt w (matW a b c d x y w) := by
  obtain ⟨a1, b1, _⟩ := flagW_ok (a != 65536 || d != 65536) w hw
  obtain ⟨a2, b2, _⟩ := optW_ok (a != 65536 || d != 65536) [a, d] _ a1
  obtain ⟨a3, b3, _⟩ := flagW_ok (b != 0 || c != 0) _ a2
  obtain ⟨a4, b4, _⟩ := optW_ok (b != 0 || c != 0) [b, c] _ a3
  obtain ⟨a5, b5, _⟩ := nums_ok 5 [x, y] _ a4
  exact ⟨a5, b1.trans (b2.trans (b3.trans (b4.trans b5)))⟩
end Go.AI
set_option linter.unusedVariables false
set_option linter.unusedSimpArgs false
set_option maxRecDepth 100000
namespace Go.AI
open Go Go.Proofs

/-- a reader's bytes, its place, its error -/
abbrev Rs := List UInt8 × Int × Int
def pl (σ : Rs) (n : Int) : Int × Rs := if σ.2.2 ≠ 0 then (0, σ) else plainF σ.1 σ.2.1 n
def sg (σ : Rs) (n : Int) : Int × Rs := if σ.2.2 ≠ 0 then (0, σ) else signedF σ.1 σ.2.1 n
def sgs (n : Int) : Nat → Rs → List Int × Rs
  | 0, σ => ([], σ)
  | m + 1, σ => ((sg σ n).1 :: (sgs n m (sg σ n).2).1, (sgs n m (sg σ n).2).2)
def LenOk (σ : Rs) : Prop := σ.1.length ≤ 2 ^ 40
theorem plainF_len {s : List UInt8} (h : s.length ≤ 2 ^ 40) (a n : Int) : (plainF s a n).2.1.length ≤ 2 ^ 40 := by
  rcases plainF_cases s a n with e | e | ⟨_, _, _, _, _, _, e⟩ <;> rw [e]
  · exact Nat.zero_le _
  · exact Nat.zero_le _
  · exact h
theorem pl_len {σ : Rs} (h : LenOk σ) (n : Int) : LenOk (pl σ n).2 := by
  unfold pl; split
  · exact h
  · exact plainF_len h _ _
theorem sg_len {σ : Rs} (h : LenOk σ) (n : Int) : LenOk (sg σ n).2 := by
  unfold sg; split
  · exact h
  · exact plainF_len h _ _
theorem sgs_len (n : Int) : ∀ (m : Nat) (σ : Rs), LenOk σ → LenOk (sgs n m σ).2
  | 0, _, h => h
  | m + 1, σ, h => sgs_len n m _ (sg_len h n)

abbrev rbox (σ : Rs) : List BX := [(t_field_reader, [.s σ.1, .i σ.2.1, .i σ.2.2])]
theorem rpl_ans {σ : Rs} (h : LenOk σ) (n : Int) : Ans (fun k => call k f___celluloid_field_reader__plain [.u, .i n] (rbox σ)) ([.i (pl σ n).1], rbox (pl σ n).2) := by
  refine Ans.succ (fun k => u___celluloid_field_reader__plain k n σ.1 σ.2.1 σ.2.2) ?_
  unfold pl
  refine .ite (fun e => ?_) (fun e => ?_)
  · rw [if_pos (by simpa using e)]; exact .pure _
  · rw [if_neg (by simpa using e)]
    exact .bind (plain_ans h _ n) (.pure _)
theorem rsg_ans {σ : Rs} (h : LenOk σ) (n : Int) : Ans (fun k => call k f___celluloid_field_reader__signed [.u, .i n] (rbox σ)) ([.i (sg σ n).1], rbox (sg σ n).2) := by
  refine Ans.succ (fun k => u___celluloid_field_reader__signed k n σ.1 σ.2.1 σ.2.2) ?_
  unfold sg
  refine .ite (fun e => ?_) (fun e => ?_)
  · rw [if_pos (by simpa using e)]; exact .pure _
  · rw [if_neg (by simpa using e)]
    exact .bind (signed_ans h _ n) (.pure _)
def doneF (σ : Rs) (ok : Bool) : Rs := if σ.2.2 ≠ 0 then ([], 0, σ.2.2) else if ok = false then ([], 0, 3) else (σ.1, alignF σ.1 σ.2.1, 0)
def encS (σ : Rs) : List PV := [.s σ.1, .i σ.2.1, .i σ.2.2]
theorem rdone_ans {σ : Rs} (h : LenOk σ) (ok : Bool) : Ans (fun k => call k f___celluloid_field_reader__done [.u, .b ok] (rbox σ)) (encS (doneF σ ok), rbox σ) := by
  refine Ans.succ (fun k => u___celluloid_field_reader__done k ok σ.1 σ.2.1 σ.2.2) ?_
  unfold doneF
  refine .ite (fun e => ?_) (fun e => ?_)
  · rw [if_pos (by simpa using e)]; exact .pure _
  · rw [if_neg (by simpa using e)]
    refine .ite (fun e2 => ?_) (fun e2 => ?_)
    · rw [if_pos (by simpa using e2)]; exact .pure _
    · rw [if_neg (by simpa using e2)]
      exact .bind (align_ans h _) (.pure _)
def beginP (s : List UInt8) (a : Int) : Rs := (s, alignF s a, if rightB s a = true then 0 else 1)
theorem begin_ans {s : List UInt8} (h : s.length ≤ 2 ^ 40) (a : Int) : Ans (fun k => call k f_field_begin [.s s, .i a] []) ([.u], rbox (beginP s a)) := by
  refine Ans.succ (fun k => u_field_begin k s a) (.bind (plain_ans h a 0) (.bind (align_ans h a) (.pure' ?_)))
  unfold beginP
  by_cases hr : rightB s a = true
  · have hr' := rightB_iff.1 hr
    have e : plainF s a 0 = (((fieldN s a.toNat 0 : Nat) : Int), s, a + 0, 0) := by
      unfold plainF
      rw [if_neg (ng hr (by decide) (by decide)), if_neg (by omega)]; rfl
    rw [e, if_pos hr]; rfl
  · have e : plainF s a 0 = (0, [], 0, 1) := by
      unfold plainF
      rw [if_pos (.inl (by simpa using hr))]
    rw [e, if_neg hr]; rfl

/-! ### the document's -/
def encQ (r : Int × Rs) : List PV := .i r.1 :: encS r.2
theorem qpl_ans {σ : Rs} (h : LenOk σ) (n : Int) : Ans (fun k => call k f_celluloidref07_Plain [.s σ.1, .i σ.2.1, .i σ.2.2, .i n] []) (encQ (pl σ n), []) := by
  refine Ans.succ (fun k => u_celluloidref07_Plain k σ.1 σ.2.1 σ.2.2 n) ?_
  unfold pl
  refine .ite (fun e => ?_) (fun e => ?_)
  · rw [if_pos (by simpa using e)]; exact .pure _
  · rw [if_neg (by simpa using e)]
    exact .bind (rplain_ans h _ n) (.pure _)
theorem qsg_ans {σ : Rs} (h : LenOk σ) (n : Int) : Ans (fun k => call k f_celluloidref07_Signed [.s σ.1, .i σ.2.1, .i σ.2.2, .i n] []) (encQ (sg σ n), []) := by
  refine Ans.succ (fun k => u_celluloidref07_Signed k σ.1 σ.2.1 σ.2.2 n) ?_
  unfold sg
  refine .ite (fun e => ?_) (fun e => ?_)
  · rw [if_pos (by simpa using e)]; exact .pure _
  · rw [if_neg (by simpa using e)]
    exact .bind (rsigned_ans h _ n) (.pure _)
theorem qdone_ans {σ : Rs} (h : LenOk σ) (ok : Bool) : Ans (fun k => call k f_celluloidref07_Done [.s σ.1, .i σ.2.1, .i σ.2.2, .b ok] []) (encS (doneF σ ok), []) := by
  refine Ans.succ (fun k => u_celluloidref07_Done k σ.1 σ.2.1 σ.2.2 ok) ?_
  unfold doneF
  refine .ite (fun e => ?_) (fun e => ?_)
  · rw [if_pos (by simpa using e)]; exact .pure _
  · rw [if_neg (by simpa using e)]
    refine .ite (fun e2 => ?_) (fun e2 => ?_)
    · rw [if_pos (by simpa using e2)]; exact .pure _
    · rw [if_neg (by simpa using e2)]
      exact .bind (ralign_ans h _) (.pure _)
def beginR (s : List UInt8) (a : Int) : Rs := if rightB s a = true then (s, alignF s a, 0) else ([], 0, 1)
theorem qbegin_ans {s : List UInt8} (h : s.length ≤ 2 ^ 40) (a : Int) : Ans (fun k => call k f_celluloidref07_Begin [.s s, .i a] []) (encS (beginR s a), []) := by
  refine Ans.succ (fun k => u_celluloidref07_Begin k s a) (.bind (rright_ans h a) ?_)
  simp only [List.getD_cons_zero, PV.toB]
  unfold beginR
  refine .ite (fun e => ?_) (fun e => ?_)
  · have e : rightB s a = false := by simpa using e
    rw [if_neg (by rw [e]; decide)]; exact .pure _
  · have e : rightB s a = true := by simpa using e
    rw [if_pos e]
    exact .bind (ralign_ans h a) (.pure _)
theorem begin_len {s : List UInt8} (h : s.length ≤ 2 ^ 40) (a : Int) : LenOk (beginP s a) ∧ LenOk (beginR s a) := by
  refine ⟨h, ?_⟩
  unfold beginR; split
  · exact h
  · exact Nat.zero_le _

theorem set_ints {l r : List Int} {v w : Int} : (ints (l ++ v :: r)).set l.length [.i w] = ints (l ++ w :: r) := by
  unfold ints
  rw [show [PV.i w] = (fun v : Int => [PV.i v]) w from rfl, ← List.map_set, List.set_append_right _ _ (Nat.le_refl _), Nat.sub_self]
  rfl
theorem qseveral_loop {n : Int} {m : Nat} (hm : m ≤ 100) (o1 : List UInt8) (o2 o3 : Int) : ∀ (j : Nat) (pre : List Int) (σ : Rs), pre.length + j = m → LenOk σ →
    Ans (fun k => run k f_celluloidref07_several [] at_celluloidref07_several_L0 (S_celluloidref07_several_L0 m n pre.length (ints (pre ++ List.replicate j 0)) σ.1 σ.2.1 σ.2.2 o1 o2 o3)) (.l (ints (pre ++ (sgs n j σ).1)) :: encS (sgs n j σ).2, [])
  | 0, pre, σ, h, _ => by
    refine Ans.succ (fun k => u_celluloidref07_several_L0 k ..) ?_
    exact .no (by simp; omega) (.pure _)
  | j + 1, pre, σ, h, hσ => by
    refine Ans.succ (fun k => u_celluloidref07_several_L0 k ..) ?_
    have e2 : IntKind.wrap .i64 ((pre.length : Int) + 1) = (((pre ++ [(sg σ n).1]).length : Nat) : Int) := by rw [wrap64 (by omega) (by omega)]; simp
    have hg : elemAt (ints (pre ++ List.replicate (j + 1) 0)) (pre.length : Int) = [.i 0] := by
      rw [ints_get (by simp)]; simp [List.getD]
    have hi : inB (pre.length : Int) (ints (pre ++ List.replicate (j + 1) 0)).length = true := by unfold inB; simp [ints_length]; omega
    rw [e2, hg, Int.toNat_natCast]
    refine .yes (by simp; omega) (.bind (qsg_ans hσ n) ?_)
    simp only [encQ, encS, List.getD_cons_zero, List.getD_cons_succ, PV.toI, PV.toS]
    refine .yes hi (.yes hi ?_)
    rw [show putAt [PV.i 0] 0 [PV.i (sg σ n).1] = [PV.i (sg σ n).1] from rfl, List.replicate_succ, set_ints, show pre ++ (sg σ n).1 :: List.replicate j 0 = (pre ++ [(sg σ n).1]) ++ List.replicate j 0 by simp]
    refine (qseveral_loop hm o1 o2 o3 j (pre ++ [(sg σ n).1]) (sg σ n).2 (by simp; omega) (sg_len hσ n)).eq ?_
    simp [sgs, encS]
/-- numbers whose width stands ahead -/
def tk (h : Int) (m : Nat) (σ : Rs) : List Int × Rs := sgs (pl σ h).1 m (pl σ h).2
theorem tk_len (h : Int) (m : Nat) {σ : Rs} (hσ : LenOk σ) : LenOk (tk h m σ).2 := sgs_len _ _ _ (pl_len hσ h)
theorem qseveral_ans {σ : Rs} (hσ : LenOk σ) (h : Int) {m : Nat} (hm : m ≤ 100) : Ans (fun k => call k f_celluloidref07_several [.s σ.1, .i σ.2.1, .i σ.2.2, .i h, .i (m : Int)] []) (.l (ints (tk h m σ).1) :: encS (tk h m σ).2, []) := by
  refine Ans.succ (fun k => u_celluloidref07_several k σ.1 σ.2.1 σ.2.2 h m) (.bind (qpl_ans hσ h) ?_)
  simp only [encQ, encS, List.getD_cons_zero, List.getD_cons_succ, PV.toI, PV.toS]
  rw [Int.toNat_natCast, show List.replicate m [PV.i 0] = ints ([] ++ List.replicate m 0) by simp [ints]]
  exact .yes (by simp; omega) (qseveral_loop hm [] 0 0 m [] (pl σ h).2 (by simp) (pl_len hσ h))

/-- a rectangle that is read -/
def takeRectF (σ : Rs) : (Int × Int × Int × Int) × Rs :=
  let q := tk 5 4 σ
  let d := doneF q.2 (rectB (q.1.getD 0 0) (q.1.getD 1 0) (q.1.getD 2 0) (q.1.getD 3 0))
  if d.2.2 ≠ 0 then ((0, 0, 0, 0), d) else ((q.1.getD 0 0, q.1.getD 1 0, q.1.getD 2 0, q.1.getD 3 0), d)
def encR (r : (Int × Int × Int × Int) × Rs) : Res := ([.i r.1.1, .i r.1.2.1, .i r.1.2.2.1, .i r.1.2.2.2] ++ encS r.2, [])
theorem takeRect_ans {s : List UInt8} (h : s.length ≤ 2 ^ 40) (a : Int) : Ans (fun k => call k f_field_TakeRect [.s s, .i a] []) (encR (takeRectF (beginP s a))) := by
  refine Ans.succ (fun k => u_field_TakeRect k s a) (.bind (begin_ans h a) ?_)
  have l0 := (begin_len h a).1
  generalize beginP s a = σ at l0 ⊢
  have l1 := pl_len l0 5
  have l2 := sg_len l1 (pl σ 5).1
  have l3 := sg_len l2 (pl σ 5).1
  have l4 := sg_len l3 (pl σ 5).1
  have l5 := sg_len l4 (pl σ 5).1
  refine .bind (rpl_ans l0 5) (.bind (rsg_ans l1 _) (.bind (rsg_ans l2 _) (.bind (rsg_ans l3 _) (.bind (rsg_ans l4 _) (.bind (rightRect_ans _ _ _ _) (.bind (rdone_ans l5 _) ?_))))))
  unfold takeRectF
  simp only [tk, sgs, encS, encR, List.getD_cons_zero, List.getD_cons_succ, PV.toI, PV.toS, PV.toB]
  refine .ite (fun e => ?_) (fun e => ?_)
  · rw [if_pos (by simpa using e)]; exact .pure _
  · have e : (doneF (sg (sg (sg (sg (pl σ 5).2 (pl σ 5).1).2 (pl σ 5).1).2 (pl σ 5).1).2 (pl σ 5).1).2 (rectB (sg (pl σ 5).2 (pl σ 5).1).1 (sg (sg (pl σ 5).2 (pl σ 5).1).2 (pl σ 5).1).1 (sg (sg (sg (pl σ 5).2 (pl σ 5).1).2 (pl σ 5).1).2 (pl σ 5).1).1 (sg (sg (sg (sg (pl σ 5).2 (pl σ 5).1).2 (pl σ 5).1).2 (pl σ 5).1).2 (pl σ 5).1).1)).2.2 = 0 := by simpa using e
    rw [if_neg (by rw [e]; decide)]
    refine .pure' ?_
    simp [e]
theorem qin_ans (n m : Int) (h0 : 0 ≤ m) (h1 : m ≤ 9223372036854775807) : Ans (fun k => call k f_celluloidref07_in [.i n, .i m] []) ([.b (inB2 (-m) m n)], []) := by
  refine Ans.succ (fun k => u_celluloidref07_in k n m) ?_
  rw [wrap64 (by omega) (by omega), show 0 - m = -m by omega]
  refine .bind (x := [.b (inB2 (-m) m n)]) ?_ (.pure _)
  unfold inB2
  refine .ite (fun h => .pure' ?_) (fun h => .pure' ?_)
  · have : decide (-m ≤ n) = true := by simpa using h
    rw [this]; rfl
  · have : decide (-m ≤ n) = false := by simpa using h
    rw [this]; rfl
theorem qRect_ans (l r t b : Int) : Ans (fun k => call k f_celluloidref07_Rect [.i l, .i r, .i t, .i b] []) ([.b (rectB l r t b)], []) := by
  refine Ans.succ (fun k => u_celluloidref07_Rect k l r t b) ?_
  have e : rectB l r t b = (inB2 (-1048576) 1048576 l && (inB2 (-1048576) 1048576 r && (inB2 (-1048576) 1048576 t && (inB2 (-1048576) 1048576 b && (decide (l ≤ r) && decide (t ≤ b)))))) := by
    simp [rectB, Bool.and_assoc]
  rw [e]
  refine .bind (.andB (qin_ans l 1048576 (by omega) (by omega)) fun _ => .andB (qin_ans r 1048576 (by omega) (by omega)) fun _ => .andB (qin_ans t 1048576 (by omega) (by omega)) fun _ => .andB (qin_ans b 1048576 (by omega) (by omega)) fun _ => ?_) (.pure _)
  exact .ite (fun h => .pure' (by rw [h]; rfl)) (fun h => .pure' (by rw [h]; rfl))
theorem el_ints {l : List Int} {i : Nat} (h : i < l.length) : ((elemAt (ints l) (i : Int)).getD 0 .u).toI = l.getD i 0 := by rw [ints_get h]; rfl
theorem sgs_length (n : Int) : ∀ (m : Nat) (σ : Rs), (sgs n m σ).1.length = m
  | 0, _ => rfl
  | m + 1, σ => by simp [sgs, sgs_length n m]
theorem tk_length (h : Int) (m : Nat) (σ : Rs) : (tk h m σ).1.length = m := sgs_length _ _ _
theorem qtakeRect_ans {s : List UInt8} (h : s.length ≤ 2 ^ 40) (a : Int) : Ans (fun k => call k f_celluloidref07_TakeRect [.s s, .i a] []) (encR (takeRectF (beginR s a))) := by
  refine Ans.succ (fun k => u_celluloidref07_TakeRect k s a) (.bind (qbegin_ans h a) ?_)
  have l0 := (begin_len h a).2
  generalize beginR s a = σ at l0 ⊢
  simp only [encS, List.getD_cons_zero, List.getD_cons_succ, PV.toI, PV.toS]
  refine .bind (qseveral_ans l0 5 (m := 4) (by omega)) ?_
  have hl := tk_length 5 4 σ
  have lt := tk_len 5 4 l0
  have e0 := el_ints (l := (tk 5 4 σ).1) (i := 0) (by omega)
  have e1 := el_ints (l := (tk 5 4 σ).1) (i := 1) (by omega)
  have e2 := el_ints (l := (tk 5 4 σ).1) (i := 2) (by omega)
  have e3 := el_ints (l := (tk 5 4 σ).1) (i := 3) (by omega)
  simp only [encS, List.getD_cons_zero, List.getD_cons_succ, PV.toI, PV.toS, PV.toL, ints_length, hl]
  refine .yes rfl (.yes rfl (.yes rfl (.yes rfl (.bind (qRect_ans _ _ _ _) ?_))))
  simp only [List.getD_cons_zero, PV.toB]
  refine .bind (qdone_ans lt _) ?_
  have e0 : ((elemAt (ints (tk 5 4 σ).1) 0).getD 0 .u).toI = (tk 5 4 σ).1.getD 0 0 := e0
  have e1 : ((elemAt (ints (tk 5 4 σ).1) 1).getD 0 .u).toI = (tk 5 4 σ).1.getD 1 0 := e1
  have e2 : ((elemAt (ints (tk 5 4 σ).1) 2).getD 0 .u).toI = (tk 5 4 σ).1.getD 2 0 := e2
  have e3 : ((elemAt (ints (tk 5 4 σ).1) 3).getD 0 .u).toI = (tk 5 4 σ).1.getD 3 0 := e3
  unfold takeRectF
  simp only [encS, encR, List.getD_cons_zero, List.getD_cons_succ, PV.toI, PV.toS]
  have e0' := e0; have e1' := e1; have e2' := e2; have e3' := e3
  unfold PV.toI at e0' e1' e2' e3'
  simp only [e0', e1', e2', e3']
  refine .ite (fun e => ?_) (fun e => ?_)
  · rw [if_pos (by simpa using e)]; exact .pure _
  · rw [if_neg (by simpa using e)]; exact .pure _
end Go.AI
set_option linter.unusedVariables false
set_option linter.unusedSimpArgs false
set_option maxRecDepth 100000
namespace Go.AI
open Go Go.Proofs

def opt2 (c : Int × Rs) (da db : Int) : (Int × Int) × Rs := if c.1 = 1 then (((tk 5 2 c.2).1.getD 0 0, (tk 5 2 c.2).1.getD 1 0), (tk 5 2 c.2).2) else ((da, db), c.2)
theorem opt2_len {c : Int × Rs} (h : LenOk c.2) (da db : Int) : LenOk (opt2 c da db).2 := by
  unfold opt2; split
  · exact tk_len 5 2 h
  · exact h
abbrev Mat := Int × Int × Int × Int × Int × Int
def finM (p q r : (Int × Int) × Rs) : Mat × Rs :=
  let d := doneF r.2 (matB p.1.1 q.1.1 q.1.2 p.1.2 r.1.1 r.1.2)
  if d.2.2 ≠ 0 then ((0, 0, 0, 0, 0, 0), d) else ((p.1.1, q.1.1, q.1.2, p.1.2, r.1.1, r.1.2), d)
def two (σ : Rs) : (Int × Int) × Rs := (((tk 5 2 σ).1.getD 0 0, (tk 5 2 σ).1.getD 1 0), (tk 5 2 σ).2)
/-- a matrix that is read -/
def takeMatF (σ : Rs) : Mat × Rs :=
  finM (opt2 (pl σ 1) 65536 65536) (opt2 (pl (opt2 (pl σ 1) 65536 65536).2 1) 0 0) (two (opt2 (pl (opt2 (pl σ 1) 65536 65536).2 1) 0 0).2)
def encM (r : Mat × Rs) : Res := ([.i r.1.1, .i r.1.2.1, .i r.1.2.2.1, .i r.1.2.2.2.1, .i r.1.2.2.2.2.1, .i r.1.2.2.2.2.2] ++ encS r.2, [])
theorem opt2_yes {c : Int × Rs} (h : (c.1 == 1) = true) (da db : Int) : opt2 c da db = two c.2 := by unfold opt2; rw [if_pos (by simpa using h)]; rfl
theorem opt2_no {c : Int × Rs} (h : (c.1 == 1) = false) (da db : Int) : opt2 c da db = ((da, db), c.2) := by unfold opt2; rw [if_neg (by simpa using h)]
theorem two_len {σ : Rs} (h : LenOk σ) : LenOk (two σ).2 := tk_len 5 2 h

/-- the last part: right or not -/
theorem fin_tree {σ : Rs} {p q r : (Int × Int) × Rs} {ok : Bool} (hok : ok = matB p.1.1 q.1.1 q.1.2 p.1.2 r.1.1 r.1.2) (a b c d x y : Int) (ha : a = p.1.1) (hb : b = q.1.1) (hc : c = q.1.2) (hd : d = p.1.2) (hx : x = r.1.1) (hy : y = r.1.2) :
    Ans (fun _ => bif (doneF r.2 ok).2.2 != 0 then some ([PV.i 0, .i 0, .i 0, .i 0, .i 0, .i 0, .s (doneF r.2 ok).1, .i (doneF r.2 ok).2.1, .i (doneF r.2 ok).2.2], ([] : List BX))
      else some ([.i a, .i b, .i c, .i d, .i x, .i y, .s (doneF r.2 ok).1, .i (doneF r.2 ok).2.1, .i 0], [])) (encM (finM p q r)) := by
  subst hok ha hb hc hd hx hy
  unfold finM
  refine .ite (fun e => ?_) (fun e => ?_)
  · rw [if_pos (by simpa using e)]; exact .pure _
  · have e : (doneF r.2 (matB p.1.1 q.1.1 q.1.2 p.1.2 r.1.1 r.1.2)).2.2 = 0 := by simpa using e
    rw [if_neg (by rw [e]; decide)]
    refine .pure' ?_
    simp [encM, encS, e]
theorem two_ans {σ : Rs} (h : LenOk σ) {γ : Type} {r : γ} {g : Nat → Res → Res → Res → Option γ}
    (h2 : Ans (fun k => g k ([.i (pl σ 5).1], rbox (pl σ 5).2) ([.i (two σ).1.1], rbox (sg (pl σ 5).2 (pl σ 5).1).2) ([.i (two σ).1.2], rbox (two σ).2)) r) :
    Ans (fun k => (call k f___celluloid_field_reader__plain [.u, .i 5] (rbox σ)).bind fun x => (call k f___celluloid_field_reader__signed [.u, .i ((x.1.getD 0 .u)).toI] [(t_field_reader, [.s ((((x.2.getD 0 (0, []))).2.getD 0 .u)).toS, .i ((((x.2.getD 0 (0, []))).2.getD 1 .u)).toI, .i ((((x.2.getD 0 (0, []))).2.getD 2 .u)).toI])]).bind fun y =>
      (call k f___celluloid_field_reader__signed [.u, .i ((x.1.getD 0 .u)).toI] [(t_field_reader, [.s ((((y.2.getD 0 (0, []))).2.getD 0 .u)).toS, .i ((((y.2.getD 0 (0, []))).2.getD 1 .u)).toI, .i ((((y.2.getD 0 (0, []))).2.getD 2 .u)).toI])]).bind fun z => g k x y z) r :=
  .bind (rpl_ans h 5) (.bind (rsg_ans (pl_len h 5) _) (.bind (rsg_ans (sg_len (pl_len h 5) _) _) h2))
theorem takeMat_ans {s : List UInt8} (h : s.length ≤ 2 ^ 40) (a : Int) : Ans (fun k => call k f_field_TakeMatrix [.s s, .i a] []) (encM (takeMatF (beginP s a))) := by
  refine Ans.succ (fun k => u_field_TakeMatrix k s a) (.bind (begin_ans h a) (.bind (.succ (fun k => u_field_Same k) (.pure _)) ?_))
  have l0 := (begin_len h a).1
  generalize beginP s a = σ at l0 ⊢
  unfold takeMatF
  have l1 := pl_len l0 1
  refine .bind (rpl_ans l0 1) (.ite (fun hp => ?_) (fun hp => ?_))
  · rw [opt2_yes hp]
    have l2 := two_len l1
    refine two_ans l1 ?_
    generalize two (pl σ 1).2 = p at l2 ⊢
    have l3 := pl_len l2 1
    refine .bind (rpl_ans l2 1) (.ite (fun hq => ?_) (fun hq => ?_))
    · rw [opt2_yes hq]
      have l4 := two_len l3
      refine two_ans l3 ?_
      generalize two (pl p.2 1).2 = q at l4 ⊢
      have l5 := two_len l4
      refine two_ans l4 ?_
      generalize two q.2 = r at l5 ⊢
      refine .bind (rightMatrix_ans _ _ _ _ _ _) (.bind (rdone_ans l5 _) ?_)
      exact fin_tree (σ := σ) rfl _ _ _ _ _ _ rfl rfl rfl rfl rfl rfl
    · rw [opt2_no hq]
      have l5 := two_len l3
      refine two_ans l3 ?_
      simp only
      generalize two (pl p.2 1).2 = r at l5 ⊢
      refine .bind (rightMatrix_ans _ _ _ _ _ _) (.bind (rdone_ans l5 _) ?_)
      exact fin_tree (σ := σ) (q := ((0, 0), (pl p.2 1).2)) rfl _ _ _ _ _ _ rfl rfl rfl rfl rfl rfl
  · rw [opt2_no hp]
    have l3 := pl_len l1 1
    refine .bind (rpl_ans l1 1) (.ite (fun hq => ?_) (fun hq => ?_))
    · simp only
      rw [opt2_yes hq]
      have l4 := two_len l3
      refine two_ans l3 ?_
      generalize two (pl (pl σ 1).2 1).2 = q at l4 ⊢
      have l5 := two_len l4
      refine two_ans l4 ?_
      generalize two q.2 = r at l5 ⊢
      refine .bind (rightMatrix_ans _ _ _ _ _ _) (.bind (rdone_ans l5 _) ?_)
      exact fin_tree (σ := σ) (p := ((65536, 65536), (pl σ 1).2)) rfl _ _ _ _ _ _ rfl rfl rfl rfl rfl rfl
    · simp only
      rw [opt2_no hq]
      have l5 := two_len l3
      refine two_ans l3 ?_
      simp only
      generalize two (pl (pl σ 1).2 1).2 = r at l5 ⊢
      refine .bind (rightMatrix_ans _ _ _ _ _ _) (.bind (rdone_ans l5 _) ?_)
      exact fin_tree (σ := σ) (p := ((65536, 65536), (pl σ 1).2)) (q := ((0, 0), (pl (pl σ 1).2 1).2)) rfl _ _ _ _ _ _ rfl rfl rfl rfl rfl rfl
end Go.AI
set_option linter.unusedVariables false
set_option linter.unusedSimpArgs false
set_option maxRecDepth 100000
namespace Go.AI
open Go Go.Proofs

abbrev I4 := Int × Int × Int × Int
def I4.l (x : I4) : List Int := [x.1, x.2.1, x.2.2.1, x.2.2.2]
def encI4 (x : I4) : List PV := [.i x.1, .i x.2.1, .i x.2.2.1, .i x.2.2.2]
/-- a colour that is read -/
def takeKF (s : List UInt8) (a : Int) : I4 × Rs :=
  let q := bytesF s a 4
  if q.2.2.2 ≠ 0 then ((0, 0, 0, 0), ([], 0, q.2.2.2)) else ((((q.1.getD 0 0).toNat : Nat), ((q.1.getD 1 0).toNat : Nat), ((q.1.getD 2 0).toNat : Nat), ((q.1.getD 3 0).toNat : Nat)), (q.2.1, q.2.2.1, 0))
def encK (r : I4 × Rs) : Res := (encI4 r.1 ++ encS r.2, [])
theorem bt64 (s : List UInt8) (i : Nat) : IntKind.wrap .i64 (bt s (i : Int)) = (((s.getD i 0).toNat : Nat) : Int) := by
  have : (s.getD i 0).toNat < 256 := UInt8.toNat_lt _
  unfold bt; rw [Int.toNat_natCast, wrap64 (by omega) (by omega)]
theorem takeK_ans {s : List UInt8} (h : s.length ≤ 2 ^ 40) (a : Int) : Ans (fun k => call k f_field_TakeRGBA [.s s, .i a] []) (encK (takeKF s a)) := by
  refine Ans.succ (fun k => u_field_TakeRGBA k s a) (.bind (bytes_ans h a 4 (by decide)) ?_)
  unfold takeKF
  rcases bytesF_cases s a 4 with e | e | ⟨a', n', _, hn, _, hl, e⟩
  · rw [e]; exact .yes rfl (.pure _)
  · rw [e]; exact .yes rfl (.pure _)
  · rw [e]
    have hn : n' = 4 := by omega
    subst hn
    have e4 : ((s.drop ((a' + 7) / 8)).take 4).length = 4 := by rw [List.length_take, List.length_drop]; omega
    simp only [encB, List.getD_cons_zero, List.getD_cons_succ, PV.toI, PV.toS, e4]
    refine .no rfl (.yes rfl (.yes rfl (.yes rfl (.yes rfl (.pure' ?_)))))
    have b0 := bt64 ((s.drop ((a' + 7) / 8)).take 4) 0
    have b1 := bt64 ((s.drop ((a' + 7) / 8)).take 4) 1
    have b2 := bt64 ((s.drop ((a' + 7) / 8)).take 4) 2
    have b3 := bt64 ((s.drop ((a' + 7) / 8)).take 4) 3
    rw [show ((0 : Nat) : Int) = 0 from rfl] at b0
    rw [show ((1 : Nat) : Int) = 1 from rfl] at b1
    rw [show ((2 : Nat) : Int) = 2 from rfl] at b2
    rw [show ((3 : Nat) : Int) = 3 from rfl] at b3
    rw [b0, b1, b2, b3]; rfl
theorem qtakeK_ans {s : List UInt8} (h : s.length ≤ 2 ^ 40) (a : Int) : Ans (fun k => call k f_celluloidref07_TakeRGBA [.s s, .i a] []) (encK (takeKF s a)) := by
  refine Ans.succ (fun k => u_celluloidref07_TakeRGBA k s a) (.bind (rbytes_ans h a 4 (by decide)) ?_)
  unfold takeKF
  rcases bytesF_cases s a 4 with e | e | ⟨a', n', _, hn, _, hl, e⟩
  · rw [e]; exact .yes rfl (.pure _)
  · rw [e]; exact .yes rfl (.pure _)
  · rw [e]
    have hn : n' = 4 := by omega
    subst hn
    have e4 : ((s.drop ((a' + 7) / 8)).take 4).length = 4 := by rw [List.length_take, List.length_drop]; omega
    simp only [encB, List.getD_cons_zero, List.getD_cons_succ, PV.toI, PV.toS, e4]
    refine .no rfl (.yes rfl (.yes rfl (.yes rfl (.yes rfl (.pure' ?_)))))
    have b0 := bt64 ((s.drop ((a' + 7) / 8)).take 4) 0
    have b1 := bt64 ((s.drop ((a' + 7) / 8)).take 4) 1
    have b2 := bt64 ((s.drop ((a' + 7) / 8)).take 4) 2
    have b3 := bt64 ((s.drop ((a' + 7) / 8)).take 4) 3
    rw [show ((0 : Nat) : Int) = 0 from rfl] at b0
    rw [show ((1 : Nat) : Int) = 1 from rfl] at b1
    rw [show ((2 : Nat) : Int) = 2 from rfl] at b2
    rw [show ((3 : Nat) : Int) = 3 from rfl] at b3
    rw [b0, b1, b2, b3]; rfl
end Go.AI
set_option linter.unusedVariables false
set_option linter.unusedSimpArgs false
set_option maxRecDepth 100000
namespace Go.AI
open Go Go.Proofs

theorem qMatrix_ans (a b c d x y : Int) : Ans (fun k => call k f_celluloidref07_Matrix [.i a, .i b, .i c, .i d, .i x, .i y] []) ([.b (matB a b c d x y)], []) := by
  refine Ans.succ (fun k => u_celluloidref07_Matrix k a b c d x y) ?_
  have e : matB a b c d x y = (inB2 (-4194304) 4194304 a && (inB2 (-4194304) 4194304 b && (inB2 (-4194304) 4194304 c && (inB2 (-4194304) 4194304 d && (inB2 (-1048576) 1048576 x && inB2 (-1048576) 1048576 y))))) := by
    simp [matB, Bool.and_assoc]
  rw [e]
  refine .bind (.andB (qin_ans a 4194304 (by omega) (by omega)) fun _ => .andB (qin_ans b 4194304 (by omega) (by omega)) fun _ => .andB (qin_ans c 4194304 (by omega) (by omega)) fun _ => .andB (qin_ans d 4194304 (by omega) (by omega)) fun _ => .andB (qin_ans x 1048576 (by omega) (by omega)) fun _ => .bind (qin_ans y 1048576 (by omega) (by omega)) (.pure _)) (.pure _)

theorem qfin {p q r : (Int × Int) × Rs} (h : LenOk r.2) (a b c d x y : Int) (ha : a = p.1.1) (hb : b = q.1.1) (hc : c = q.1.2) (hd : d = p.1.2) (hx : x = r.1.1) (hy : y = r.1.2) :
    Ans (fun k => (call k f_celluloidref07_Matrix [.i a, .i b, .i c, .i d, .i x, .i y] []).bind fun r7 => (call k f_celluloidref07_Done [.s r.2.1, .i r.2.2.1, .i r.2.2.2, .b (r7.1.getD 0 .u).toB] []).bind fun r8 =>
      bif (r8.1.getD 2 .u).toI != 0 then some ([PV.i 0, .i 0, .i 0, .i 0, .i 0, .i 0, .s (r8.1.getD 0 .u).toS, .i (r8.1.getD 1 .u).toI, .i (r8.1.getD 2 .u).toI], ([] : List BX))
      else some ([.i a, .i b, .i c, .i d, .i x, .i y, .s (r8.1.getD 0 .u).toS, .i (r8.1.getD 1 .u).toI, .i (r8.1.getD 2 .u).toI], [])) (encM (finM p q r)) := by
  subst ha hb hc hd hx hy
  refine .bind (qMatrix_ans _ _ _ _ _ _) (.bind (qdone_ans h _) ?_)
  simp only [encS, List.getD_cons_zero, List.getD_cons_succ, PV.toI, PV.toS, PV.toB]
  unfold finM
  refine .ite (fun e => ?_) (fun e => ?_)
  · rw [if_pos (by simpa using e)]; exact .pure _
  · rw [if_neg (by simpa using e)]; exact .pure _
theorem qtwo_ans {σ : Rs} (h : LenOk σ) {γ : Type} {r : γ} {g : Nat → Res → Option γ} (h2 : Ans (fun k => g k (.l (ints (tk 5 2 σ).1) :: encS (tk 5 2 σ).2, [])) r) :
    Ans (fun k => (call k f_celluloidref07_several [.s σ.1, .i σ.2.1, .i σ.2.2, .i 5, .i 2] []).bind fun x => bif inB 0 (List.length ((x.1.getD 0 .u)).toL) then (bif inB 1 (List.length ((x.1.getD 0 .u)).toL) then g k x else none) else none) r := by
  refine .bind (qseveral_ans h 5 (m := 2) (by omega)) ?_
  have hl := tk_length 5 2 σ
  simp only [List.getD_cons_zero, PV.toL, ints_length, hl]
  exact .yes rfl (.yes rfl h2)
theorem el0 (σ : Rs) : ((elemAt (ints (tk 5 2 σ).1) 0).getD 0 .u).toI = (two σ).1.1 := el_ints (l := (tk 5 2 σ).1) (i := 0) (by rw [tk_length]; omega)
theorem el1 (σ : Rs) : ((elemAt (ints (tk 5 2 σ).1) 1).getD 0 .u).toI = (two σ).1.2 := el_ints (l := (tk 5 2 σ).1) (i := 1) (by rw [tk_length]; omega)
theorem qtakeMat_ans {s : List UInt8} (h : s.length ≤ 2 ^ 40) (a : Int) : Ans (fun k => call k f_celluloidref07_TakeMatrix [.s s, .i a] []) (encM (takeMatF (beginR s a))) := by
  refine Ans.succ (fun k => u_celluloidref07_TakeMatrix k s a) (.bind (qbegin_ans h a) ?_)
  have l0 := (begin_len h a).2
  generalize beginR s a = σ at l0 ⊢
  unfold takeMatF
  have l1 := pl_len l0 1
  refine .bind (qpl_ans l0 1) (.ite (fun hp => ?_) (fun hp => ?_))
  · rw [opt2_yes hp]
    have l2 := two_len l1
    refine qtwo_ans l1 ?_
    have l3 := pl_len l2 1
    refine .bind (qpl_ans l2 1) (.ite (fun hq => ?_) (fun hq => ?_))
    · rw [opt2_yes hq]
      have l4 := two_len l3
      refine qtwo_ans l3 ?_
      have l5 := two_len l4
      refine qtwo_ans l4 ?_
      exact qfin l5 _ _ _ _ _ _ (el0 _) (el0 _) (el1 _) (el1 _) (el0 _) (el1 _)
    · rw [opt2_no hq]
      have l5 := two_len l3
      refine qtwo_ans l3 ?_
      exact qfin (q := ((0, 0), (pl (two (pl σ 1).2).2 1).2)) l5 _ _ _ _ _ _ (el0 _) rfl rfl (el1 _) (el0 _) (el1 _)
  · rw [opt2_no hp]
    have l3 := pl_len l1 1
    refine .bind (qpl_ans l1 1) (.ite (fun hq => ?_) (fun hq => ?_))
    · simp only
      rw [opt2_yes hq]
      have l4 := two_len l3
      refine qtwo_ans l3 ?_
      have l5 := two_len l4
      refine qtwo_ans l4 ?_
      exact qfin (p := ((65536, 65536), (pl σ 1).2)) l5 _ _ _ _ _ _ rfl (el0 _) (el1 _) rfl (el0 _) (el1 _)
    · simp only
      rw [opt2_no hq]
      have l5 := two_len l3
      refine qtwo_ans l3 ?_
      exact qfin (p := ((65536, 65536), (pl σ 1).2)) (q := ((0, 0), (pl (pl σ 1).2 1).2)) l5 _ _ _ _ _ _ rfl rfl rfl rfl (el0 _) (el1 _)
end Go.AI
set_option linter.unusedVariables false
set_option linter.unusedSimpArgs false
set_option maxRecDepth 100000
namespace Go.AI
open Go Go.Proofs

end Go.AI
set_option linter.unusedVariables false
set_option linter.unusedSimpArgs false
set_option maxRecDepth 100000
namespace Go.AI
open Go Go.Proofs

def rgbaB (c : I4) : Bool := c.l.all (inB2 0 255)
def rgbaS (c : I4) : List UInt8 := [UInt8.ofNat c.1.toNat, UInt8.ofNat c.2.1.toNat, UInt8.ofNat c.2.2.1.toNat, UInt8.ofNat c.2.2.2.toNat]
end Go.AI
set_option linter.unusedVariables false
set_option linter.unusedSimpArgs false
set_option maxRecDepth 100000
namespace Go.AI
open Go Go.Proofs

/-- a writer of so many bytes at most -/
def WB (n : Nat) (w : Wt) : Prop := WOk w ∧ w.1.length ≤ n
theorem WB.zero : WB 0 (([], 0) : Wt) := ⟨ok_zero [], Nat.le_refl _⟩
theorem qRGBA_loop {l : List Int} (hll : l.length ≤ 100) : ∀ (rest pre : List Int), l = pre ++ rest →
    Ans (fun k => run k f_celluloidref07_RGBA [] at_celluloidref07_RGBA_L0 (S_celluloidref07_RGBA_L0 (ints l) l.length pre.length)) ([.b (rest.all (inB2 0 255))], [])
  | [], pre, hp => by
    refine Ans.succ (fun k => u_celluloidref07_RGBA_L0 k ..) ?_
    exact .no (by rw [hp]; simp) (.pure _)
  | v :: rest, pre, hp => by
    refine Ans.succ (fun k => u_celluloidref07_RGBA_L0 k ..) ?_
    have hlen : l.length = pre.length + rest.length + 1 := by rw [hp]; simp; omega
    have hget : l.getD pre.length 0 = v := by rw [hp]; simp [List.getD]
    have e2 : IntKind.wrap .i64 ((pre.length : Int) + 1) = (((pre ++ [v]).length : Nat) : Int) := by rw [wrap64 (by omega) (by omega)]; simp
    have ih := qRGBA_loop hll rest (pre ++ [v]) (by rw [hp]; simp)
    rw [ints_get (by omega), hget, e2]
    simp only [List.getD_cons_zero, PV.toI]
    refine .yes (by simp; omega) (.yes (by unfold inB; simp [ints_length]; omega) (.bind (x := [.b (!inB2 0 255 v)]) ?_ ?_))
    · unfold inB2
      refine .ite (fun h => .pure' ?_) (fun h => .pure' ?_)
      · have : decide (0 ≤ v) = false := by simp at h ⊢; omega
        rw [this]; rfl
      · have h1 : decide (0 ≤ v) = true := by simp at h ⊢; omega
        have h2 : decide (v > 255) = !decide (v ≤ 255) := by
          by_cases c : v ≤ 255
          · rw [decide_eq_true c, decide_eq_false (by omega)]; rfl
          · rw [decide_eq_false c, decide_eq_true (by omega)]; rfl
        rw [h1, h2]; rfl
    · simp only [List.getD_cons_zero, PV.toB]
      refine .ite (fun h => .pure' ?_) (fun h => ?_)
      · have : inB2 0 255 v = false := by simpa using h
        rw [List.all_cons, this]; rfl
      · have : inB2 0 255 v = true := by simpa using h
        rw [List.all_cons, this]; exact ih
theorem qRGBA_ans (c : I4) : Ans (fun k => call k f_celluloidref07_RGBA [.i c.1, .i c.2.1, .i c.2.2.1, .i c.2.2.2] []) ([.b (rgbaB c)], []) :=
  Ans.succ (fun k => u_celluloidref07_RGBA k ..) (qRGBA_loop (l := c.l) (by simp [I4.l]) c.l [] rfl)

end Go.AI
set_option linter.unusedVariables false
set_option linter.unusedSimpArgs false
set_option maxRecDepth 100000
namespace Go.AI
open Go Go.Proofs

end Go.AI
set_option linter.unusedVariables false
set_option linter.unusedSimpArgs false
set_option maxRecDepth 100000
namespace Go.AI
open Go Go.Proofs

end Go.AI
set_option linter.unusedVariables false
set_option linter.unusedSimpArgs false
set_option maxRecDepth 100000
namespace Go.AI
open Go Go.Proofs

theorem pl_err {σ : Rs} (h : σ.2.2 ≠ 0) (n : Int) : pl σ n = (0, σ) := by unfold pl; rw [if_pos h]
theorem sg_err {σ : Rs} (h : σ.2.2 ≠ 0) (n : Int) : sg σ n = (0, σ) := by unfold sg; rw [if_pos h]
theorem done_err {σ : Rs} (h : σ.2.2 ≠ 0) (b : Bool) : doneF σ b = ([], 0, σ.2.2) := by unfold doneF; rw [if_pos h]
theorem tk_err {σ : Rs} (h : σ.2.2 ≠ 0) (n : Int) : ∀ m, tk n m σ = (List.replicate m 0, σ) := by
  intro m
  unfold tk
  rw [pl_err h]
  induction m with
  | zero => rfl
  | succ m ih => simp only [sgs, sg_err h] at ih ⊢; rw [ih]; rfl
theorem rect_err {σ : Rs} (h : σ.2.2 ≠ 0) : takeRectF σ = ((0, 0, 0, 0), ([], 0, σ.2.2)) := by
  unfold takeRectF
  rw [tk_err h]
  simp only [done_err h]
  rw [if_pos h]
theorem mat_err {σ : Rs} (h : σ.2.2 ≠ 0) : takeMatF σ = ((0, 0, 0, 0, 0, 0), ([], 0, σ.2.2)) := by
  unfold takeMatF
  have o : ∀ da db, opt2 (pl σ 1) da db = ((da, db), σ) := fun da db => by unfold opt2; rw [pl_err h]; rfl
  rw [o]
  simp only
  rw [o]
  simp only
  unfold finM two
  rw [tk_err h]
  simp only [done_err h]
  rw [if_pos h]
theorem begin_same {s : List UInt8} {a : Int} (h : rightB s a = true) : beginP s a = beginR s a := by unfold beginP beginR; rw [if_pos h, if_pos h]
theorem beginP_err {s : List UInt8} {a : Int} (h : ¬ rightB s a = true) : (beginP s a).2.2 = 1 := by unfold beginP; rw [if_neg h]
theorem beginR_err {s : List UInt8} {a : Int} (h : ¬ rightB s a = true) : (beginR s a).2.2 = 1 := by unfold beginR; rw [if_neg h]
theorem rect_same (s : List UInt8) (a : Int) : takeRectF (beginP s a) = takeRectF (beginR s a) := by
  by_cases h : rightB s a = true
  · rw [begin_same h]
  · rw [rect_err (by rw [beginP_err h]; decide), rect_err (by rw [beginR_err h]; decide), beginP_err h, beginR_err h]
theorem mat_same (s : List UInt8) (a : Int) : takeMatF (beginP s a) = takeMatF (beginR s a) := by
  by_cases h : rightB s a = true
  · rw [begin_same h]
  · rw [mat_err (by rw [beginP_err h]; decide), mat_err (by rw [beginR_err h]; decide), beginP_err h, beginR_err h]
end Go.AI
set_option linter.unusedVariables false
set_option linter.unusedSimpArgs false
set_option maxRecDepth 100000
namespace Go.AI
open Go Go.Proofs

theorem pl_val {σ : Rs} {n : Int} (h : (pl σ n).2.2.2 = 0) : σ.2.2 = 0 ∧ 0 ≤ σ.2.1 ∧ ∃ N v : Nat, n = N ∧ N ≤ 31 ∧ v < 2 ^ N ∧ σ.2.1 + N ≤ 8 * (σ.1.length : Int) ∧ pl σ n = ((v : Int), (σ.1, σ.2.1 + N, 0)) := by
  by_cases he : σ.2.2 = 0
  · have e : pl σ n = plainF σ.1 σ.2.1 n := by unfold pl; rw [if_neg (by rw [he]; decide)]
    rw [e] at h ⊢
    rcases plainF_cases σ.1 σ.2.1 n with q | q | ⟨a, N, h1, h2, h3, h4, q⟩
    · rw [q] at h; simp at h
    · rw [q] at h; simp at h
    · refine ⟨he, by omega, N, fieldN σ.1 a N, h2, h3, fieldN_lt _ _ _, by omega, ?_⟩
      rw [q, h1]; rfl
  · have e : pl σ n = (0, σ) := by unfold pl; rw [if_pos he]
    rw [e] at h; exact absurd h he
theorem sg_val {σ : Rs} {n : Int} (h : (sg σ n).2.2.2 = 0) : σ.2.2 = 0 ∧ 0 ≤ σ.2.1 ∧ ∃ N : Nat, n = N ∧ N ≤ 31 ∧ widthN (sg σ n).1 ≤ N ∧ σ.2.1 + N ≤ 8 * (σ.1.length : Int) ∧ (sg σ n).2 = (σ.1, σ.2.1 + N, 0) := by
  by_cases he : σ.2.2 = 0
  · have e : sg σ n = signedF σ.1 σ.2.1 n := by unfold sg; rw [if_neg (by rw [he]; decide)]
    rw [e] at h ⊢
    rcases plainF_cases σ.1 σ.2.1 n with q | q | ⟨a, N, h1, h2, h3, h4, q⟩
    · unfold signedF at h; rw [q] at h; simp at h
    · unfold signedF at h; rw [q] at h; simp at h
    · refine ⟨he, by omega, N, h2, h3, ?_, by omega, ?_⟩
      · unfold signedF
        rw [q, h2]
        simp only [true_and, Int.toNat_natCast]
        have hlt := fieldN_lt σ.1 a N
        generalize fieldN σ.1 a N = u at hlt ⊢
        cases N with
        | zero =>
          have : u = 0 := by simp at hlt; omega
          subst this
          simp [widthN_zero]
        | succ N =>
          refine widthN_abs (by omega) ?_
          rw [Nat.add_sub_cancel]
          have hp : (2 : Int) ^ (N + 1) = 2 * ((2 ^ N : Nat) : Int) := by rw [Int.pow_succ]; simp; omega
          have hq : (2 : Nat) ^ (N + 1) = 2 * 2 ^ N := by rw [Nat.pow_succ]; omega
          rw [hp]
          rw [hq] at hlt
          generalize 2 ^ N = p at hlt ⊢
          split <;> omega
      · unfold signedF
        rw [q, h1]; rfl
  · have e : sg σ n = (0, σ) := by unfold sg; rw [if_pos he]
    rw [e] at h; exact absurd h he
theorem sgs_val {n : Int} : ∀ (m : Nat) (σ : Rs), (sgs n m σ).2.2.2 = 0 → σ.2.2 = 0 ∧ (sgs n m σ).2 = (σ.1, σ.2.1 + n * m, 0) ∧ (∀ v, v ∈ (sgs n m σ).1 → (widthN v : Int) ≤ n) ∧ (0 < m → 0 ≤ n ∧ n ≤ 31 ∧ σ.2.1 + n * m ≤ 8 * (σ.1.length : Int))
  | 0, σ, h => by
    refine ⟨h, ?_, (fun v hv => nomatch hv), (fun h => absurd h (by decide))⟩
    have h : σ.2.2 = 0 := h
    show σ = _
    refine Prod.ext rfl (Prod.ext ?_ h)
    show σ.2.1 = σ.2.1 + n * 0
    omega
  | m + 1, σ, h => by
    simp only [sgs] at h ⊢
    obtain ⟨a, b, c, d⟩ := sgs_val m (sg σ n).2 h
    obtain ⟨e, _, N, g1, g2, g3, g4, g5⟩ := sg_val a
    rw [g5] at b d
    simp only at b d
    have hmul : n * ((m + 1 : Nat) : Int) = n + n * m := by rw [Int.natCast_succ, Int.mul_add, Int.mul_one, Int.add_comm]
    refine ⟨e, ?_, ?_, ?_⟩
    · rw [g5, b, hmul]
      refine Prod.ext rfl (Prod.ext ?_ rfl)
      show σ.2.1 + N + n * m = σ.2.1 + (n + n * m)
      omega
    · intro v hv
      rcases List.mem_cons.1 hv with rfl | hv
      · omega
      · exact c v hv
    · intro _
      refine ⟨by omega, by omega, ?_⟩
      cases m with
      | zero => simp at hmul ⊢; omega
      | succ m => have := (d (by omega)).2.2; omega
theorem tk_val {h : Int} {m : Nat} (hm : 0 < m) {σ : Rs} (he : (tk h m σ).2.2.2 = 0) : σ.2.2 = 0 ∧ 0 ≤ σ.2.1 ∧ ∃ H W : Nat, h = H ∧ WL (tk h m σ).1 ≤ W ∧ W ≤ 31 ∧ (tk h m σ).2 = (σ.1, σ.2.1 + H + W * m, 0) ∧ σ.2.1 + H + W * m ≤ 8 * (σ.1.length : Int) := by
  unfold tk at he ⊢
  obtain ⟨a, b, c, d⟩ := sgs_val m _ he
  obtain ⟨e, e0, N, v, g1, g2, g3, g4, g5⟩ := pl_val a
  rw [g5] at b c d
  obtain ⟨d1, d2, d3⟩ := d hm
  refine ⟨e, e0, N, v, g1, WL_bound fun u hu => ?_, by simp only at d2; omega, ?_, d3⟩
  · have := c u (by rw [g5] at hu; exact hu)
    simp only at this; omega
  · rw [g5]; exact b
theorem done_val {σ : Rs} {ok : Bool} (h : (doneF σ ok).2.2 = 0) : σ.2.2 = 0 ∧ ok = true ∧ doneF σ ok = (σ.1, alignF σ.1 σ.2.1, 0) := by
  unfold doneF at h ⊢
  by_cases he : σ.2.2 = 0
  · rw [if_neg (by rw [he]; decide)] at h ⊢
    cases ok with
    | true => exact ⟨he, rfl, rfl⟩
    | false => rw [if_pos rfl] at h; simp at h
  · rw [if_pos he] at h; exact absurd h he
theorem list2 {l : List Int} (h : l.length = 2) : l = [l.getD 0 0, l.getD 1 0] := by
  match l, h with
  | [a, b], _ => rfl
theorem opt_val {ρ : Rs} {da db : Int} (h : (opt2 (pl ρ 1) da db).2.2.2 = 0) {w : Wt} (hw : WOk w) :
    ρ.2.2 = 0 ∧ (opt2 (pl ρ 1) da db).2.1 = ρ.1 ∧ wl (optW ((opt2 (pl ρ 1) da db).1.1 != da || (opt2 (pl ρ 1) da db).1.2 != db) [(opt2 (pl ρ 1) da db).1.1, (opt2 (pl ρ 1) da db).1.2] w) + ρ.2.1 + 1 ≤ wl w + (opt2 (pl ρ 1) da db).2.2.1 := by
  by_cases hc : (pl ρ 1).1 = 1
  · have e : opt2 (pl ρ 1) da db = two (pl ρ 1).2 := by unfold opt2; rw [if_pos hc]; rfl
    rw [e] at h ⊢
    have h' : (tk 5 2 (pl ρ 1).2).2.2.2 = 0 := h
    obtain ⟨f1, f2, H, W, g1, g2, g3, g4, g5⟩ := tk_val (by decide) h'
    obtain ⟨k1, k2, N, v, k3, k4, k5, k6, k7⟩ := pl_val f1
    have e1 : (two (pl ρ 1).2).1.1 = (tk 5 2 (pl ρ 1).2).1.getD 0 0 := rfl
    have e2 : (two (pl ρ 1).2).1.2 = (tk 5 2 (pl ρ 1).2).1.getD 1 0 := rfl
    have e3 : (two (pl ρ 1).2).2 = (tk 5 2 (pl ρ 1).2).2 := rfl
    have hl := list2 (tk_length 5 2 (pl ρ 1).2)
    rw [e1, e2, e3, ← hl]
    refine ⟨k1, by rw [g4, k7], ?_⟩
    have ho := (optW_ok ((tk 5 2 (pl ρ 1).2).1.getD 0 0 != da || (tk 5 2 (pl ρ 1).2).1.getD 1 0 != db) (tk 5 2 (pl ρ 1).2).1 w hw).2.2.1
    rw [tk_length] at ho
    have hm : WL (tk 5 2 (pl ρ 1).2).1 * 2 ≤ W * 2 := Nat.mul_le_mul_right _ g2
    have hr : (pl ρ 1).2.2.1 = ρ.2.1 + N := by rw [k7]
    rw [ho, g4]
    simp only
    split <;> omega
  · have e : opt2 (pl ρ 1) da db = ((da, db), (pl ρ 1).2) := by unfold opt2; rw [if_neg hc]
    rw [e] at h ⊢
    obtain ⟨k1, k2, N, v, k3, k4, k5, k6, k7⟩ := pl_val h
    refine ⟨k1, by rw [k7], ?_⟩
    have hr : (pl ρ 1).2.2.1 = ρ.2.1 + N := by rw [k7]
    have hb : (da != da || db != db) = false := by simp
    simp only
    rw [hb, hr]
    unfold optW
    rw [if_neg (by decide)]
    omega
theorem mat_val {σ : Rs} (h : (takeMatF σ).2.2.2 = 0) : ∃ a b c d x y P : Int, (takeMatF σ).1 = (a, b, c, d, x, y) ∧ matB a b c d x y = true ∧ ((wl (matW a b c d x y ([], 0)) : Nat) : Int) + σ.2.1 ≤ P ∧ P ≤ 8 * (σ.1.length : Int) ∧ (takeMatF σ).2 = (σ.1, alignF σ.1 P, 0) := by
  unfold takeMatF at h ⊢
  obtain ⟨p, hp⟩ : ∃ p, p = opt2 (pl σ 1) 65536 65536 := ⟨_, rfl⟩
  have vp := fun (h : (opt2 (pl σ 1) 65536 65536).2.2.2 = 0) {w : Wt} (hw : WOk w) => opt_val h hw
  rw [← hp] at h vp ⊢
  obtain ⟨q, hq⟩ : ∃ q, q = opt2 (pl p.2 1) 0 0 := ⟨_, rfl⟩
  have vq := fun (h : (opt2 (pl p.2 1) 0 0).2.2.2 = 0) {w : Wt} (hw : WOk w) => opt_val h hw
  rw [← hq] at h vq ⊢
  unfold finM at h ⊢
  have hl := list2 (tk_length 5 2 q.2)
  have t1 : (two q.2).1.1 = (tk 5 2 q.2).1.getD 0 0 := rfl
  have t2 : (two q.2).1.2 = (tk 5 2 q.2).1.getD 1 0 := rfl
  have t3 : (two q.2).2 = (tk 5 2 q.2).2 := rfl
  rw [← t1, ← t2] at hl
  simp only at h ⊢
  have e : ((doneF (two q.2).2 (matB p.1.1 q.1.1 q.1.2 p.1.2 (two q.2).1.1 (two q.2).1.2))).2.2 = 0 := by
    split at h <;> exact h
  rw [if_neg (by rw [e]; decide)] at h ⊢
  obtain ⟨e1, e2, e3⟩ := done_val e
  rw [t3] at e1
  obtain ⟨f1, f2, H, W, g1, g2, g3, g4, g5⟩ := tk_val (by decide) e1
  have o0 : WOk (([], 0) : Wt) := ok_zero []
  obtain ⟨o1, _, w1, _⟩ := flagW_ok (p.1.1 != 65536 || p.1.2 != 65536) _ o0
  obtain ⟨o2, _⟩ := optW_ok (p.1.1 != 65536 || p.1.2 != 65536) [p.1.1, p.1.2] _ o1
  obtain ⟨o3, _, w3, _⟩ := flagW_ok (q.1.1 != 0 || q.1.2 != 0) _ o2
  obtain ⟨o4, _⟩ := optW_ok (q.1.1 != 0 || q.1.2 != 0) [q.1.1, q.1.2] _ o3
  obtain ⟨q1, q2, q3⟩ := vq f1 o3
  obtain ⟨p1, p2, p3⟩ := vp q1 o1
  refine ⟨_, _, _, _, _, _, (tk 5 2 q.2).2.2.1, rfl, e2, ?_, ?_, ?_⟩
  · have w5 := (nums_ok 5 [(two q.2).1.1, (two q.2).1.2] _ o4).2.2.1
    rw [← hl, tk_length] at w5
    have hm : WL (tk 5 2 q.2).1 * 2 ≤ W * 2 := Nat.mul_le_mul_right _ g2
    unfold matW
    rw [← hl, w5, g4]
    simp only
    have e0 : wl (([], 0) : Wt) = 0 := rfl
    rw [e0] at w1
    omega
  · rw [g4]
    rw [q2, p2] at g5
    exact g5
  · rw [e3, t3, g4]
    simp only
    rw [q2, p2]
end Go.AI
