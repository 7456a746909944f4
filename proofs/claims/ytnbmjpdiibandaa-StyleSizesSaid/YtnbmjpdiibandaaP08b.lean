/- Lists of fills and lines: whether they are right; how they are written. -/
import Derived.Test.YtnbmjpdiibandaaP08a
import Derived.Test.YtnbmjpdiibandaaP07j
set_option linter.unusedVariables false
set_option linter.unusedSimpArgs false
set_option maxRecDepth 100000
namespace Go.AI
open Go Go.Proofs

theorem right1_c (f : Fill) (hl : f.stops.length ≤ 2 ^ 40) : cW f_style_Right_1 f.e [] = some ([.b (!fillB f)], []) := by
  have h := rightFill_c f hl
  unfold Fill.e at h ⊢
  rw [w_style_Right_1]
  simp only [h, Option.bind_some, Option.bind_none, andB, orB, orB2, List.getD_cons_zero, List.getD_cons_succ, toB_b, toI_i, toS_s, toL_l, cond_true, cond_false, List.length_map]
theorem right2_c (s : Strk) : cW f_style_Right_2 s.e [] = some ([.b (!strkB s)], []) := by
  have h := rightStroke_c s
  unfold Strk.e at h ⊢
  rw [w_style_Right_2]
  simp only [h, Option.bind_some, Option.bind_none, andB, orB, orB2, List.getD_cons_zero, List.getD_cons_succ, toB_b, toI_i, toS_s, toL_l, cond_true, cond_false, List.length_map]
def Shorts (l : List Fill) : Prop := ∀ f, f ∈ l → f.stops.length ≤ 2 ^ 40
theorem idxFill_loop {l : List Fill} (hl : l.length ≤ 2 ^ 40) (hs : Shorts l) : ∀ (rest pre : List Fill), l = pre ++ rest → ∃ n : Int,
    rW f_slices_IndexFunc___celluloid_api_Fill_celluloid_api_Fill_ [] at_slices_IndexFunc___celluloid_api_Fill_celluloid_api_Fill__L0 (S_slices_IndexFunc___celluloid_api_Fill_celluloid_api_Fill__L0 (l.map Fill.e) l.length pre.length) = some ([.i n], []) ∧ decide (n ≥ 0) = !rest.all fillB
  | [], pre, h => by
    refine ⟨-1, ?_, rfl⟩
    rw [w_slices_IndexFunc___celluloid_api_Fill_celluloid_api_Fill__L0]; simp only [el_end h, Option.bind_some, Option.bind_none, andB, orB, orB2, List.getD_cons_zero, List.getD_cons_succ, toB_b, toI_i, toS_s, toL_l, cond_true, cond_false, List.length_map]
  | x :: rest, pre, h => by
    obtain ⟨h1, h2, h3, h4, h5⟩ := el_step Fill.e h hl
    have hx := right1_c x (hs x (by rw [h]; simp))
    rw [w_slices_IndexFunc___celluloid_api_Fill_celluloid_api_Fill__L0]
    unfold Fill.e at hx
    simp only [h1, h2, h3, h4, Fill.e, hx, List.all_cons, Option.bind_some, Option.bind_none, andB, orB, orB2, List.getD_cons_zero, List.getD_cons_succ, toB_b, toI_i, toS_s, toL_l, cond_true, cond_false, List.length_map]
    cases hf : fillB x with
    | false => exact ⟨_, rfl, by simp⟩
    | true => simpa [hf] using idxFill_loop hl hs rest _ h5
theorem anyFill_c {l : List Fill} (hl : l.length ≤ 2 ^ 40) (hs : Shorts l) : cW f_slices_ContainsFunc___celluloid_api_Fill_celluloid_api_Fill_ [.l (l.map Fill.e), .f f_style_Right_1 0] [] = some ([.b (!l.all fillB)], []) := by
  obtain ⟨n, h1, h2⟩ := idxFill_loop hl hs l [] rfl
  rw [w_slices_ContainsFunc___celluloid_api_Fill_celluloid_api_Fill_, w_slices_IndexFunc___celluloid_api_Fill_celluloid_api_Fill_]
  simp only [List.length_map]
  rw [show (0 : Int) = ((([] : List Fill).length : Nat) : Int) from rfl, h1]
  simp only [Option.bind_some, Option.bind_none, andB, orB, orB2, List.getD_cons_zero, List.getD_cons_succ, toB_b, toI_i, toS_s, toL_l, cond_true, cond_false, List.length_map]
  rw [← h2]; rfl
theorem idxStrk_loop {l : List Strk} (hl : l.length ≤ 2 ^ 40) : ∀ (rest pre : List Strk), l = pre ++ rest → ∃ n : Int,
    rW f_slices_IndexFunc___celluloid_api_Stroke_celluloid_api_Stroke_ [] at_slices_IndexFunc___celluloid_api_Stroke_celluloid_api_Stroke__L0 (S_slices_IndexFunc___celluloid_api_Stroke_celluloid_api_Stroke__L0 (l.map Strk.e) l.length pre.length) = some ([.i n], []) ∧ decide (n ≥ 0) = !rest.all strkB
  | [], pre, h => by
    refine ⟨-1, ?_, rfl⟩
    rw [w_slices_IndexFunc___celluloid_api_Stroke_celluloid_api_Stroke__L0]; simp only [el_end h, Option.bind_some, Option.bind_none, andB, orB, orB2, List.getD_cons_zero, List.getD_cons_succ, toB_b, toI_i, toS_s, toL_l, cond_true, cond_false, List.length_map]
  | x :: rest, pre, h => by
    obtain ⟨h1, h2, h3, h4, h5⟩ := el_step Strk.e h hl
    have hx := right2_c x
    rw [w_slices_IndexFunc___celluloid_api_Stroke_celluloid_api_Stroke__L0]
    unfold Strk.e at hx
    simp only [h1, h2, h3, h4, Strk.e, hx, List.all_cons, Option.bind_some, Option.bind_none, andB, orB, orB2, List.getD_cons_zero, List.getD_cons_succ, toB_b, toI_i, toS_s, toL_l, cond_true, cond_false, List.length_map]
    cases hf : strkB x with
    | false => exact ⟨_, rfl, by simp⟩
    | true => simpa [hf] using idxStrk_loop hl rest _ h5
theorem anyStrk_c {l : List Strk} (hl : l.length ≤ 2 ^ 40) : cW f_slices_ContainsFunc___celluloid_api_Stroke_celluloid_api_Stroke_ [.l (l.map Strk.e), .f f_style_Right_2 0] [] = some ([.b (!l.all strkB)], []) := by
  obtain ⟨n, h1, h2⟩ := idxStrk_loop hl l [] rfl
  rw [w_slices_ContainsFunc___celluloid_api_Stroke_celluloid_api_Stroke_, w_slices_IndexFunc___celluloid_api_Stroke_celluloid_api_Stroke_]
  simp only [List.length_map]
  rw [show (0 : Int) = ((([] : List Strk).length : Nat) : Int) from rfl, h1]
  simp only [Option.bind_some, Option.bind_none, andB, orB, orB2, List.getD_cons_zero, List.getD_cons_succ, toB_b, toI_i, toS_s, toL_l, cond_true, cond_false, List.length_map]
  rw [← h2]; rfl
def listsB (l : List Fill) (m : List Strk) : Bool := decide (((l.length : Nat) : Int) ≤ 15) && (decide (((m.length : Nat) : Int) ≤ 15) && (l.all fillB && m.all strkB))
theorem right_c {l : List Fill} {m : List Strk} (hl : l.length ≤ 2 ^ 40) (hm : m.length ≤ 2 ^ 40) (hs : Shorts l) : cW f_style_Right [.l (l.map Fill.e), .l (m.map Strk.e)] [] = some ([.b (listsB l m)], []) := by
  rw [w_style_Right]
  simp only [anyFill_c hl hs, anyStrk_c hm, Bool.not_not, Option.bind_some, Option.bind_none, andB, orB, orB2, List.getD_cons_zero, List.getD_cons_succ, toB_b, toI_i, toS_s, toL_l, cond_true, cond_false, List.length_map]
  rfl
theorem qRight_loop2 {l : List Fill} {m : List Strk} (hm : m.length ≤ 2 ^ 40) : ∀ (rest pre : List Strk), m = pre ++ rest →
    rW f_celluloidref08_Right [] at_celluloidref08_Right_L2 (S_celluloidref08_Right_L2 (l.map Fill.e) (m.map Strk.e) pre.length) = some ([.b (decide (((l.length : Nat) : Int) ≤ 15) && (decide (((m.length : Nat) : Int) ≤ 15) && rest.all strkB))], [])
  | [], pre, h => by
    rw [w_celluloidref08_Right_L2]
    simp only [el_end h, Option.bind_some, Option.bind_none, andB, orB, orB2, List.getD_cons_zero, List.getD_cons_succ, toB_b, toI_i, toS_s, toL_l, cond_true, cond_false, List.length_map]
    rw [show decide (((l.length : Nat) : Int) < 16) = decide (((l.length : Nat) : Int) ≤ 15) by simp; omega, show decide (((m.length : Nat) : Int) < 16) = decide (((m.length : Nat) : Int) ≤ 15) by simp; omega]
    simp
  | x :: rest, pre, h => by
    obtain ⟨h1, h2, h3, h4, h5⟩ := el_step Strk.e h hm
    have hx := qStroke_c x
    rw [w_celluloidref08_Right_L2]
    unfold Strk.e at hx
    simp only [h1, h2, h3, h4, Strk.e, hx, List.all_cons, Option.bind_some, Option.bind_none, andB, orB, orB2, List.getD_cons_zero, List.getD_cons_succ, toB_b, toI_i, toS_s, toL_l, cond_true, cond_false, List.length_map]
    cases hf : strkB x with
    | false => simp
    | true => simpa [hf] using qRight_loop2 (l := l) hm rest _ h5
theorem qRight_loop {l : List Fill} {m : List Strk} (hl : l.length ≤ 2 ^ 40) (hm : m.length ≤ 2 ^ 40) (hs : Shorts l) : ∀ (rest pre : List Fill), l = pre ++ rest →
    rW f_celluloidref08_Right [] at_celluloidref08_Right_L0 (S_celluloidref08_Right_L0 (l.map Fill.e) (m.map Strk.e) pre.length) = some ([.b (decide (((l.length : Nat) : Int) ≤ 15) && (decide (((m.length : Nat) : Int) ≤ 15) && (rest.all fillB && m.all strkB)))], [])
  | [], pre, h => by
    rw [w_celluloidref08_Right_L0]; simp only [el_end h, Option.bind_some, Option.bind_none, andB, orB, orB2, List.getD_cons_zero, List.getD_cons_succ, toB_b, toI_i, toS_s, toL_l, cond_true, cond_false, List.length_map]
    exact qRight_loop2 (l := l) hm m [] rfl
  | x :: rest, pre, h => by
    obtain ⟨h1, h2, h3, h4, h5⟩ := el_step Fill.e h hl
    have hx := qFill_c x (hs x (by rw [h]; simp))
    rw [w_celluloidref08_Right_L0]
    unfold Fill.e at hx
    simp only [h1, h2, h3, h4, Fill.e, hx, List.all_cons, Option.bind_some, Option.bind_none, andB, orB, orB2, List.getD_cons_zero, List.getD_cons_succ, toB_b, toI_i, toS_s, toL_l, cond_true, cond_false, List.length_map]
    cases hf : fillB x with
    | false => simp
    | true => simpa [hf] using qRight_loop hl hm hs rest _ h5
theorem qRight_c {l : List Fill} {m : List Strk} (hl : l.length ≤ 2 ^ 40) (hm : m.length ≤ 2 ^ 40) (hs : Shorts l) : cW f_celluloidref08_Right [.l (l.map Fill.e), .l (m.map Strk.e)] [] = some ([.b (listsB l m)], []) := by
  rw [w_celluloidref08_Right]
  exact qRight_loop hl hm hs l [] rfl

/-! ### lists are equal -/
theorem qStrks_loop {l m : List Strk} (hl : l.length ≤ 2 ^ 40) : ∀ (r r' p p' : List Strk), l = p ++ r → m = p' ++ r' → p.length = p'.length → r.length = r'.length →
    rW f_celluloidref08_SameLists [] at_celluloidref08_SameLists_L2 (S_celluloidref08_SameLists_L2 (l.map Strk.e) (m.map Strk.e) p.length) = some ([.b (decide (r = r'))], [])
  | [], [], p, p', h, h', hp, hr => by
    rw [w_celluloidref08_SameLists_L2]; simp only [el_end h, Option.bind_some, Option.bind_none, andB, orB, orB2, List.getD_cons_zero, List.getD_cons_succ, toB_b, toI_i, toS_s, toL_l, cond_true, cond_false, List.length_map]; rfl
  | [], y :: r', p, p', h, h', hp, hr => by simp at hr
  | x :: r, [], p, p', h, h', hp, hr => by simp at hr
  | x :: r, y :: r', p, p', h, h', hp, hr => by
    have hm : m.length ≤ 2 ^ 40 := by rw [h']; rw [h] at hl; simp at hl hr ⊢; omega
    obtain ⟨h1, h2, h3, h4, h5⟩ := el_step Strk.e h hl
    obtain ⟨_, k2, k3, _, k5⟩ := el_step Strk.e h' hm
    rw [← hp] at k2 k3
    rw [w_celluloidref08_SameLists_L2]
    simp only [h1, h2, h3, h4, k2, k3, Strk.e, Option.bind_some, Option.bind_none, andB, orB, orB2, List.getD_cons_zero, List.getD_cons_succ, toB_b, toI_i, toS_s, toL_l, cond_true, cond_false, List.length_map]
    rw [strk_eq, list_eq_step p]
    cases h : decide (x = y) with
    | false => simp only [Bool.not_false, cond_true, Bool.false_and]
    | true =>
      rw [Bool.not_true, cond_false, Bool.true_and]
      exact qStrks_loop hl r r' _ _ h5 k5 (by simp [hp]) (by simpa using hr)
theorem list_eq_step' {α : Type} [DecidableEq α] (x y : α) (a b : List α) : decide (x :: a = y :: b) = (decide (x = y) && decide (a = b)) := list_eq_step ([] : List α) x y a b
theorem qFills_loop {l m : List Fill} (hl : l.length ≤ 2 ^ 40) (hs : Shorts l) {s t : List Strk} (hst : s.length = t.length) (hs2 : s.length ≤ 2 ^ 40) : ∀ (r r' p p' : List Fill), l = p ++ r → m = p' ++ r' → p.length = p'.length → r.length = r'.length →
    rW f_celluloidref08_SameLists [] at_celluloidref08_SameLists_L0 (S_celluloidref08_SameLists_L0 (l.map Fill.e) (m.map Fill.e) (s.map Strk.e) (t.map Strk.e) p.length) = some ([.b (decide (r = r') && decide (s = t))], [])
  | [], [], p, p', h, h', hp, hr => by
    rw [w_celluloidref08_SameLists_L0]; simp only [el_end h, Option.bind_some, Option.bind_none, andB, orB, orB2, List.getD_cons_zero, List.getD_cons_succ, toB_b, toI_i, toS_s, toL_l, cond_true, cond_false, List.length_map]
    exact qStrks_loop hs2 s t [] [] rfl rfl rfl hst
  | [], y :: r', p, p', h, h', hp, hr => by simp at hr
  | x :: r, [], p, p', h, h', hp, hr => by simp at hr
  | x :: r, y :: r', p, p', h, h', hp, hr => by
    have hm : m.length ≤ 2 ^ 40 := by rw [h']; rw [h] at hl; simp at hl hr ⊢; omega
    obtain ⟨h1, h2, h3, h4, h5⟩ := el_step Fill.e h hl
    obtain ⟨_, k2, k3, _, k5⟩ := el_step Fill.e h' hm
    rw [← hp] at k2 k3
    have hx := qSame_c x y (hs x (by rw [h]; simp))
    rw [w_celluloidref08_SameLists_L0]
    simp only [Fill.e, List.cons_append, List.nil_append] at hx
    simp only [h1, h2, h3, h4, k2, k3, Fill.e, hx, Option.bind_some, Option.bind_none, andB, orB, orB2, List.getD_cons_zero, List.getD_cons_succ, toB_b, toI_i, toS_s, toL_l, cond_true, cond_false, List.length_map]
    rw [list_eq_step']
    cases h : decide (x = y) with
    | false => simp only [Bool.not_false, cond_true, Bool.false_and]
    | true =>
      rw [Bool.not_true, cond_false, Bool.true_and]
      exact qFills_loop hl hs hst hs2 r r' _ _ h5 k5 (by simp [hp]) (by simpa using hr)
theorem sameLists_c {l m : List Fill} (hl : l.length ≤ 2 ^ 40) (hs : Shorts l) {s t : List Strk} (hs2 : s.length ≤ 2 ^ 40) : cW f_celluloidref08_SameLists [.l (l.map Fill.e), .l (m.map Fill.e), .l (s.map Strk.e), .l (t.map Strk.e)] [] = some ([.b (decide (l = m) && decide (s = t))], []) := by
  rw [w_celluloidref08_SameLists]
  simp only [Option.bind_some, Option.bind_none, andB, orB, orB2, List.getD_cons_zero, List.getD_cons_succ, toB_b, toI_i, toS_s, toL_l, cond_true, cond_false, List.length_map]
  by_cases h1 : l.length = m.length
  · by_cases h2 : s.length = t.length
    · rw [show ((((l.length : Nat) : Int) != ((m.length : Nat) : Int)) || (((s.length : Nat) : Int) != ((t.length : Nat) : Int))) = false by simp [h1, h2], cond_false]
      exact qFills_loop hl hs h2 hs2 l m [] [] rfl rfl rfl h1
    · rw [show ((((l.length : Nat) : Int) != ((m.length : Nat) : Int)) || (((s.length : Nat) : Int) != ((t.length : Nat) : Int))) = true by simp [h1]; omega, cond_true, decide_eq_false (p := s = t) (fun e => h2 (by rw [e])), Bool.and_false]
  · rw [show ((((l.length : Nat) : Int) != ((m.length : Nat) : Int)) || (((s.length : Nat) : Int) != ((t.length : Nat) : Int))) = true by simp; omega, cond_true, decide_eq_false (p := l = m) (fun e => h1 (by rw [e])), Bool.false_and]
theorem small_loop {l : List Fill} {m : List Strk} (hl : l.length ≤ 9223372036854775807) : ∀ (rest pre : List Fill), l = pre ++ rest →
    rW f_celluloidref08_Small [] at_celluloidref08_Small_L0 (S_celluloidref08_Small_L0 (l.map Fill.e) (m.map Strk.e) pre.length) = some ([.b (rest.all (fun f => decide (f.stops.length ≤ 20)) && (decide (l.length < 30) && decide (m.length < 30)))], [])
  | [], pre, h => by
    rw [w_celluloidref08_Small_L0]
    simp only [el_end h, Option.bind_some, Option.bind_none, andB, orB, orB2, List.getD_cons_zero, List.getD_cons_succ, toB_b, toI_i, toS_s, toL_l, cond_true, cond_false, List.length_map]
    rw [show decide (((l.length : Nat) : Int) < 30) = decide (l.length < 30) by simp; omega, show decide (((m.length : Nat) : Int) < 30) = decide (m.length < 30) by simp; omega]
    rfl
  | x :: rest, pre, h => by
    obtain ⟨h1, h2, h3, h4, h5⟩ := el_stepM Fill.e h hl
    rw [w_celluloidref08_Small_L0]
    simp only [h1, h2, h3, h4, Fill.e, List.all_cons, Option.bind_some, Option.bind_none, andB, orB, orB2, List.getD_cons_zero, List.getD_cons_succ, toB_b, toI_i, toS_s, toL_l, cond_true, cond_false, List.length_map]
    by_cases hx : x.stops.length ≤ 20
    · rw [decide_eq_false (p := ((x.stops.length : Nat) : Int) > 20) (by omega), decide_eq_true hx, cond_false, Bool.true_and]
      exact small_loop hl rest _ h5
    · rw [decide_eq_true (p := ((x.stops.length : Nat) : Int) > 20) (by omega), decide_eq_false hx, cond_true, Bool.false_and, Bool.false_and]
def smallB (l : List Fill) (m : List Strk) : Bool := l.all (fun f => decide (f.stops.length ≤ 20)) && (decide (l.length < 30) && decide (m.length < 30))
theorem small_c {l : List Fill} {m : List Strk} (hl : l.length ≤ 9223372036854775807) : cW f_celluloidref08_Small [.l (l.map Fill.e), .l (m.map Strk.e)] [] = some ([.b (smallB l m)], []) := by
  rw [w_celluloidref08_Small]
  exact small_loop hl l [] rfl
theorem smallB_r {l : List Fill} {m : List Strk} (h : smallB l m = true) : (∀ f, f ∈ l → f.stops.length ≤ 20) ∧ l.length < 30 ∧ m.length < 30 := by
  unfold smallB at h
  simpa using h
end Go.AI
