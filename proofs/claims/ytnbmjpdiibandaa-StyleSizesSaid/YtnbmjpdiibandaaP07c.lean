/- What the field layer reads, and the document's answer: rectangles, matrices, colours. -/
import Derived.Test.YtnbmjpdiibandaaP07b
set_option linter.unusedVariables false
set_option linter.unusedSimpArgs false
set_option maxRecDepth 100000
namespace Go.AI
open Go Go.Proofs

/-- a reader's bytes, its place, its error -/
abbrev Rs := List UInt8 × Int × Int
def pl (σ : Rs) (n : Int) : Int × Rs := if σ.2.2 ≠ 0 then (0, σ) else plainF σ.1 σ.2.1 n
def sg (σ : Rs) (n : Int) : Int × Rs := if σ.2.2 ≠ 0 then (0, σ) else signedF σ.1 σ.2.1 n
def sgs (n : Int) : Nat → Rs → List Int × Rs
  | 0, σ => ([], σ)
  | m + 1, σ => ((sg σ n).1 :: (sgs n m (sg σ n).2).1, (sgs n m (sg σ n).2).2)
def LenOk (σ : Rs) : Prop := σ.1.length ≤ 2 ^ 40
theorem plainF_len {s : List UInt8} (h : s.length ≤ 2 ^ 40) (a n : Int) : (plainF s a n).2.1.length ≤ 2 ^ 40 := by
  rcases plainF_cases s a n with e | e | ⟨_, _, _, _, _, _, e⟩ <;> rw [e]
  · exact Nat.zero_le _
  · exact Nat.zero_le _
  · exact h
theorem pl_len {σ : Rs} (h : LenOk σ) (n : Int) : LenOk (pl σ n).2 := by
  unfold pl; split
  · exact h
  · exact plainF_len h _ _
theorem sg_len {σ : Rs} (h : LenOk σ) (n : Int) : LenOk (sg σ n).2 := by
  unfold sg; split
  · exact h
  · exact plainF_len h _ _
theorem sgs_len (n : Int) : ∀ (m : Nat) (σ : Rs), LenOk σ → LenOk (sgs n m σ).2
  | 0, _, h => h
  | m + 1, σ, h => sgs_len n m _ (sg_len h n)

abbrev rbox (σ : Rs) : List BX := [(t_field_reader, [.s σ.1, .i σ.2.1, .i σ.2.2])]
theorem rpl_ans {σ : Rs} (h : LenOk σ) (n : Int) : Ans (fun k => call k f___celluloid_field_reader__plain [.u, .i n] (rbox σ)) ([.i (pl σ n).1], rbox (pl σ n).2) := by
  refine Ans.succ (fun k => u___celluloid_field_reader__plain k n σ.1 σ.2.1 σ.2.2) ?_
  unfold pl
  refine .ite (fun e => ?_) (fun e => ?_)
  · rw [if_pos (by simpa using e)]; exact .pure _
  · rw [if_neg (by simpa using e)]
    exact .bind (plain_ans h _ n) (.pure _)
theorem rsg_ans {σ : Rs} (h : LenOk σ) (n : Int) : Ans (fun k => call k f___celluloid_field_reader__signed [.u, .i n] (rbox σ)) ([.i (sg σ n).1], rbox (sg σ n).2) := by
  refine Ans.succ (fun k => u___celluloid_field_reader__signed k n σ.1 σ.2.1 σ.2.2) ?_
  unfold sg
  refine .ite (fun e => ?_) (fun e => ?_)
  · rw [if_pos (by simpa using e)]; exact .pure _
  · rw [if_neg (by simpa using e)]
    exact .bind (signed_ans h _ n) (.pure _)
def doneF (σ : Rs) (ok : Bool) : Rs := if σ.2.2 ≠ 0 then ([], 0, σ.2.2) else if ok = false then ([], 0, 3) else (σ.1, alignF σ.1 σ.2.1, 0)
def encS (σ : Rs) : List PV := [.s σ.1, .i σ.2.1, .i σ.2.2]
theorem rdone_ans {σ : Rs} (h : LenOk σ) (ok : Bool) : Ans (fun k => call k f___celluloid_field_reader__done [.u, .b ok] (rbox σ)) (encS (doneF σ ok), rbox σ) := by
  refine Ans.succ (fun k => u___celluloid_field_reader__done k ok σ.1 σ.2.1 σ.2.2) ?_
  unfold doneF
  refine .ite (fun e => ?_) (fun e => ?_)
  · rw [if_pos (by simpa using e)]; exact .pure _
  · rw [if_neg (by simpa using e)]
    refine .ite (fun e2 => ?_) (fun e2 => ?_)
    · rw [if_pos (by simpa using e2)]; exact .pure _
    · rw [if_neg (by simpa using e2)]
      exact .bind (align_ans h _) (.pure _)
def beginP (s : List UInt8) (a : Int) : Rs := (s, alignF s a, if rightB s a = true then 0 else 1)
theorem begin_ans {s : List UInt8} (h : s.length ≤ 2 ^ 40) (a : Int) : Ans (fun k => call k f_field_begin [.s s, .i a] []) ([.u], rbox (beginP s a)) := by
  refine Ans.succ (fun k => u_field_begin k s a) (.bind (plain_ans h a 0) (.bind (align_ans h a) (.pure' ?_)))
  unfold beginP
  by_cases hr : rightB s a = true
  · have hr' := rightB_iff.1 hr
    have e : plainF s a 0 = (((fieldN s a.toNat 0 : Nat) : Int), s, a + 0, 0) := by
      unfold plainF
      rw [if_neg (ng hr (by decide) (by decide)), if_neg (by omega)]; rfl
    rw [e, if_pos hr]; rfl
  · have e : plainF s a 0 = (0, [], 0, 1) := by
      unfold plainF
      rw [if_pos (.inl (by simpa using hr))]
    rw [e, if_neg hr]; rfl

/-! ### the document's -/
def encQ (r : Int × Rs) : List PV := .i r.1 :: encS r.2
theorem qpl_ans {σ : Rs} (h : LenOk σ) (n : Int) : Ans (fun k => call k f_celluloidref07_Plain [.s σ.1, .i σ.2.1, .i σ.2.2, .i n] []) (encQ (pl σ n), []) := by
  refine Ans.succ (fun k => u_celluloidref07_Plain k σ.1 σ.2.1 σ.2.2 n) ?_
  unfold pl
  refine .ite (fun e => ?_) (fun e => ?_)
  · rw [if_pos (by simpa using e)]; exact .pure _
  · rw [if_neg (by simpa using e)]
    exact .bind (rplain_ans h _ n) (.pure _)
theorem qsg_ans {σ : Rs} (h : LenOk σ) (n : Int) : Ans (fun k => call k f_celluloidref07_Signed [.s σ.1, .i σ.2.1, .i σ.2.2, .i n] []) (encQ (sg σ n), []) := by
  refine Ans.succ (fun k => u_celluloidref07_Signed k σ.1 σ.2.1 σ.2.2 n) ?_
  unfold sg
  refine .ite (fun e => ?_) (fun e => ?_)
  · rw [if_pos (by simpa using e)]; exact .pure _
  · rw [if_neg (by simpa using e)]
    exact .bind (rsigned_ans h _ n) (.pure _)
theorem qdone_ans {σ : Rs} (h : LenOk σ) (ok : Bool) : Ans (fun k => call k f_celluloidref07_Done [.s σ.1, .i σ.2.1, .i σ.2.2, .b ok] []) (encS (doneF σ ok), []) := by
  refine Ans.succ (fun k => u_celluloidref07_Done k σ.1 σ.2.1 σ.2.2 ok) ?_
  unfold doneF
  refine .ite (fun e => ?_) (fun e => ?_)
  · rw [if_pos (by simpa using e)]; exact .pure _
  · rw [if_neg (by simpa using e)]
    refine .ite (fun e2 => ?_) (fun e2 => ?_)
    · rw [if_pos (by simpa using e2)]; exact .pure _
    · rw [if_neg (by simpa using e2)]
      exact .bind (ralign_ans h _) (.pure _)
def beginR (s : List UInt8) (a : Int) : Rs := if rightB s a = true then (s, alignF s a, 0) else ([], 0, 1)
theorem qbegin_ans {s : List UInt8} (h : s.length ≤ 2 ^ 40) (a : Int) : Ans (fun k => call k f_celluloidref07_Begin [.s s, .i a] []) (encS (beginR s a), []) := by
  refine Ans.succ (fun k => u_celluloidref07_Begin k s a) (.bind (rright_ans h a) ?_)
  simp only [List.getD_cons_zero, PV.toB]
  unfold beginR
  refine .ite (fun e => ?_) (fun e => ?_)
  · have e : rightB s a = false := by simpa using e
    rw [if_neg (by rw [e]; decide)]; exact .pure _
  · have e : rightB s a = true := by simpa using e
    rw [if_pos e]
    exact .bind (ralign_ans h a) (.pure _)
theorem begin_len {s : List UInt8} (h : s.length ≤ 2 ^ 40) (a : Int) : LenOk (beginP s a) ∧ LenOk (beginR s a) := by
  refine ⟨h, ?_⟩
  unfold beginR; split
  · exact h
  · exact Nat.zero_le _

theorem set_ints {l r : List Int} {v w : Int} : (ints (l ++ v :: r)).set l.length [.i w] = ints (l ++ w :: r) := by
  unfold ints
  rw [show [PV.i w] = (fun v : Int => [PV.i v]) w from rfl, ← List.map_set, List.set_append_right _ _ (Nat.le_refl _), Nat.sub_self]
  rfl
theorem qseveral_loop {n : Int} {m : Nat} (hm : m ≤ 100) (o1 : List UInt8) (o2 o3 : Int) : ∀ (j : Nat) (pre : List Int) (σ : Rs), pre.length + j = m → LenOk σ →
    Ans (fun k => run k f_celluloidref07_several [] at_celluloidref07_several_L0 (S_celluloidref07_several_L0 m n pre.length (ints (pre ++ List.replicate j 0)) σ.1 σ.2.1 σ.2.2 o1 o2 o3)) (.l (ints (pre ++ (sgs n j σ).1)) :: encS (sgs n j σ).2, [])
  | 0, pre, σ, h, _ => by
    refine Ans.succ (fun k => u_celluloidref07_several_L0 k ..) ?_
    exact .no (by simp; omega) (.pure _)
  | j + 1, pre, σ, h, hσ => by
    refine Ans.succ (fun k => u_celluloidref07_several_L0 k ..) ?_
    have e2 : IntKind.wrap .i64 ((pre.length : Int) + 1) = (((pre ++ [(sg σ n).1]).length : Nat) : Int) := by rw [wrap64 (by omega) (by omega)]; simp
    have hg : elemAt (ints (pre ++ List.replicate (j + 1) 0)) (pre.length : Int) = [.i 0] := by
      rw [ints_get (by simp)]; simp [List.getD]
    have hi : inB (pre.length : Int) (ints (pre ++ List.replicate (j + 1) 0)).length = true := by unfold inB; simp [ints_length]; omega
    rw [e2, hg, Int.toNat_natCast]
    refine .yes (by simp; omega) (.bind (qsg_ans hσ n) ?_)
    simp only [encQ, encS, List.getD_cons_zero, List.getD_cons_succ, PV.toI, PV.toS]
    refine .yes hi (.yes hi ?_)
    rw [show putAt [PV.i 0] 0 [PV.i (sg σ n).1] = [PV.i (sg σ n).1] from rfl, List.replicate_succ, set_ints, show pre ++ (sg σ n).1 :: List.replicate j 0 = (pre ++ [(sg σ n).1]) ++ List.replicate j 0 by simp]
    refine (qseveral_loop hm o1 o2 o3 j (pre ++ [(sg σ n).1]) (sg σ n).2 (by simp; omega) (sg_len hσ n)).eq ?_
    simp [sgs, encS]
/-- numbers whose width stands ahead -/
def tk (h : Int) (m : Nat) (σ : Rs) : List Int × Rs := sgs (pl σ h).1 m (pl σ h).2
theorem tk_len (h : Int) (m : Nat) {σ : Rs} (hσ : LenOk σ) : LenOk (tk h m σ).2 := sgs_len _ _ _ (pl_len hσ h)
theorem qseveral_ans {σ : Rs} (hσ : LenOk σ) (h : Int) {m : Nat} (hm : m ≤ 100) : Ans (fun k => call k f_celluloidref07_several [.s σ.1, .i σ.2.1, .i σ.2.2, .i h, .i (m : Int)] []) (.l (ints (tk h m σ).1) :: encS (tk h m σ).2, []) := by
  refine Ans.succ (fun k => u_celluloidref07_several k σ.1 σ.2.1 σ.2.2 h m) (.bind (qpl_ans hσ h) ?_)
  simp only [encQ, encS, List.getD_cons_zero, List.getD_cons_succ, PV.toI, PV.toS]
  rw [Int.toNat_natCast, show List.replicate m [PV.i 0] = ints ([] ++ List.replicate m 0) by simp [ints]]
  exact .yes (by simp; omega) (qseveral_loop hm [] 0 0 m [] (pl σ h).2 (by simp) (pl_len hσ h))

/-- a rectangle that is read -/
def takeRectF (σ : Rs) : (Int × Int × Int × Int) × Rs :=
  let q := tk 5 4 σ
  let d := doneF q.2 (rectB (q.1.getD 0 0) (q.1.getD 1 0) (q.1.getD 2 0) (q.1.getD 3 0))
  if d.2.2 ≠ 0 then ((0, 0, 0, 0), d) else ((q.1.getD 0 0, q.1.getD 1 0, q.1.getD 2 0, q.1.getD 3 0), d)
def encR (r : (Int × Int × Int × Int) × Rs) : Res := ([.i r.1.1, .i r.1.2.1, .i r.1.2.2.1, .i r.1.2.2.2] ++ encS r.2, [])
theorem takeRect_ans {s : List UInt8} (h : s.length ≤ 2 ^ 40) (a : Int) : Ans (fun k => call k f_field_TakeRect [.s s, .i a] []) (encR (takeRectF (beginP s a))) := by
  refine Ans.succ (fun k => u_field_TakeRect k s a) (.bind (begin_ans h a) ?_)
  have l0 := (begin_len h a).1
  generalize beginP s a = σ at l0 ⊢
  have l1 := pl_len l0 5
  have l2 := sg_len l1 (pl σ 5).1
  have l3 := sg_len l2 (pl σ 5).1
  have l4 := sg_len l3 (pl σ 5).1
  have l5 := sg_len l4 (pl σ 5).1
  refine .bind (rpl_ans l0 5) (.bind (rsg_ans l1 _) (.bind (rsg_ans l2 _) (.bind (rsg_ans l3 _) (.bind (rsg_ans l4 _) (.bind (rightRect_ans _ _ _ _) (.bind (rdone_ans l5 _) ?_))))))
  unfold takeRectF
  simp only [tk, sgs, encS, encR, List.getD_cons_zero, List.getD_cons_succ, PV.toI, PV.toS, PV.toB]
  refine .ite (fun e => ?_) (fun e => ?_)
  · rw [if_pos (by simpa using e)]; exact .pure _
  · have e : (doneF (sg (sg (sg (sg (pl σ 5).2 (pl σ 5).1).2 (pl σ 5).1).2 (pl σ 5).1).2 (pl σ 5).1).2 (rectB (sg (pl σ 5).2 (pl σ 5).1).1 (sg (sg (pl σ 5).2 (pl σ 5).1).2 (pl σ 5).1).1 (sg (sg (sg (pl σ 5).2 (pl σ 5).1).2 (pl σ 5).1).2 (pl σ 5).1).1 (sg (sg (sg (sg (pl σ 5).2 (pl σ 5).1).2 (pl σ 5).1).2 (pl σ 5).1).2 (pl σ 5).1).1)).2.2 = 0 := by simpa using e
    rw [if_neg (by rw [e]; decide)]
    refine .pure' ?_
    simp [e]
theorem qin_ans (n m : Int) (h0 : 0 ≤ m) (h1 : m ≤ 9223372036854775807) : Ans (fun k => call k f_celluloidref07_in [.i n, .i m] []) ([.b (inB2 (-m) m n)], []) := by
  refine Ans.succ (fun k => u_celluloidref07_in k n m) ?_
  rw [wrap64 (by omega) (by omega), show 0 - m = -m by omega]
  refine .bind (x := [.b (inB2 (-m) m n)]) ?_ (.pure _)
  unfold inB2
  refine .ite (fun h => .pure' ?_) (fun h => .pure' ?_)
  · have : decide (-m ≤ n) = true := by simpa using h
    rw [this]; rfl
  · have : decide (-m ≤ n) = false := by simpa using h
    rw [this]; rfl
theorem el_ints {l : List Int} {i : Nat} (h : i < l.length) : ((elemAt (ints l) (i : Int)).getD 0 .u).toI = l.getD i 0 := by rw [ints_get h]; rfl
theorem sgs_length (n : Int) : ∀ (m : Nat) (σ : Rs), (sgs n m σ).1.length = m
  | 0, _ => rfl
  | m + 1, σ => by simp [sgs, sgs_length n m]
theorem tk_length (h : Int) (m : Nat) (σ : Rs) : (tk h m σ).1.length = m := sgs_length _ _ _
end Go.AI
