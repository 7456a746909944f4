/- Fills and lines: what is the same, what is right. -/
import Derived.Test.YtbaajplajjfgcaaGreatU08
import Derived.Test.YtbaajplajjfgcaaGreatW
import Derived.Test.YtbaajplajjfgcaaGreatP07
import Derived.Test.YtbaajplajjfgcaaGreatP02
import Derived.Test.YtbaajplajjfgcaaGreatAiL
set_option linter.unusedVariables false
set_option linter.unusedSimpArgs false
set_option maxRecDepth 100000
namespace Go.AI
open Go Go.Proofs

structure Stop where
  ratio : Int
  color : I4
  deriving DecidableEq
structure Fill where
  kind : Int
  color : I4
  mat : Mat
  spread : Int
  stops : List Stop
  id : Int
  deriving DecidableEq
structure Strk where
  width : Int
  color : I4
  deriving DecidableEq
def Stop.e (s : Stop) : List PV := [.i s.ratio, .i s.color.1, .i s.color.2.1, .i s.color.2.2.1, .i s.color.2.2.2]
def Strk.e (s : Strk) : List PV := [.i s.width, .i s.color.1, .i s.color.2.1, .i s.color.2.2.1, .i s.color.2.2.2]
def Fill.e (f : Fill) : List PV := [.i f.kind, .i f.color.1, .i f.color.2.1, .i f.color.2.2.1, .i f.color.2.2.2, .i f.mat.1, .i f.mat.2.1, .i f.mat.2.2.1, .i f.mat.2.2.2.1, .i f.mat.2.2.2.2.1, .i f.mat.2.2.2.2.2, .i f.spread, .l (f.stops.map Stop.e), .i f.id]

theorem rightK_c (c : I4) : cW f_field_RightRGBA [.i c.1, .i c.2.1, .i c.2.2.1, .i c.2.2.2] [] = some ([.b (rgbaB c)], []) := (rightK_ans c).c
theorem rightMatrix_c (a b c d x y : Int) : cW f_field_RightMatrix [.i a, .i b, .i c, .i d, .i x, .i y] [] = some ([.b (matB a b c d x y)], []) := (rightMatrix_ans a b c d x y).c
theorem i4_eq (a b : I4) : ((a.1 == b.1) && ((a.2.1 == b.2.1) && ((a.2.2.1 == b.2.2.1) && (a.2.2.2 == b.2.2.2)))) = decide (a = b) := by
  obtain ⟨a1, a2, a3, a4⟩ := a; obtain ⟨b1, b2, b3, b4⟩ := b
  rw [Bool.eq_iff_iff]; simp
theorem mat_eq (a b : Mat) : ((a.1 == b.1) && ((a.2.1 == b.2.1) && ((a.2.2.1 == b.2.2.1) && ((a.2.2.2.1 == b.2.2.2.1) && ((a.2.2.2.2.1 == b.2.2.2.2.1) && (a.2.2.2.2.2 == b.2.2.2.2.2)))))) = decide (a = b) := by
  obtain ⟨a1, a2, a3, a4, a5, a6⟩ := a; obtain ⟨b1, b2, b3, b4, b5, b6⟩ := b
  rw [Bool.eq_iff_iff]; simp
theorem stop_eq (a b : Stop) : ((a.ratio == b.ratio) && ((a.color.1 == b.color.1) && ((a.color.2.1 == b.color.2.1) && ((a.color.2.2.1 == b.color.2.2.1) && (a.color.2.2.2 == b.color.2.2.2))))) = decide (a = b) := by
  rw [i4_eq]; obtain ⟨a1, a2⟩ := a; obtain ⟨b1, b2⟩ := b
  rw [Bool.eq_iff_iff]; simp
theorem strk_eq (a b : Strk) : ((a.width == b.width) && ((a.color.1 == b.color.1) && ((a.color.2.1 == b.color.2.1) && ((a.color.2.2.1 == b.color.2.2.1) && (a.color.2.2.2 == b.color.2.2.2))))) = decide (a = b) := by
  rw [i4_eq]; obtain ⟨a1, a2⟩ := a; obtain ⟨b1, b2⟩ := b
  rw [Bool.eq_iff_iff]; simp
theorem fill_eq (a b : Fill) : ((a.kind == b.kind) && (decide (a.color = b.color) && (decide (a.mat = b.mat) && ((a.spread == b.spread) && ((a.id == b.id) && decide (a.stops = b.stops)))))) = decide (a = b) := by
  obtain ⟨a1, a2, a3, a4, a5, a6⟩ := a; obtain ⟨b1, b2, b3, b4, b5, b6⟩ := b
  rw [Bool.eq_iff_iff]; simp
  intros; exact and_comm

theorem list_eq_step {α : Type} [DecidableEq α] (pre : List α) (x y : α) (a b : List α) : decide (x :: a = y :: b) = (decide (x = y) && decide (a = b)) := by
  rw [Bool.eq_iff_iff]; simp

theorem eqStops_loop {l m : List Stop} (hl : l.length ≤ 2 ^ 40) : ∀ (r r' p p' : List Stop), l = p ++ r → m = p' ++ r' → p.length = p'.length → r.length = r'.length →
    rW f_slices_Equal___celluloid_api_Stop_celluloid_api_Stop_ [] at_slices_Equal___celluloid_api_Stop_celluloid_api_Stop__L0 (S_slices_Equal___celluloid_api_Stop_celluloid_api_Stop__L0 (l.map Stop.e) (m.map Stop.e) l.length p.length) = some ([.b (decide (r = r'))], [])
  | [], [], p, p', h, h', hp, hr => by
    rw [w_slices_Equal___celluloid_api_Stop_celluloid_api_Stop__L0]; simp only [el_end h, Option.bind_some, Option.bind_none, andB, orB, orB2, List.getD_cons_zero, List.getD_cons_succ, toB_b, toI_i, toS_s, toL_l, cond_true, cond_false, List.length_map]; rfl
  | x :: r, y :: r', p, p', h, h', hp, hr => by
    have hm : m.length ≤ 2 ^ 40 := by rw [h']; rw [h] at hl; simp at hl hr ⊢; omega
    obtain ⟨h1, h2, h3, h4, h5⟩ := el_step Stop.e h hl
    obtain ⟨_, k2, k3, _, k5⟩ := el_step Stop.e h' hm
    rw [← hp] at k2 k3
    rw [w_slices_Equal___celluloid_api_Stop_celluloid_api_Stop__L0]
    simp only [h1, h2, h3, h4, k2, k3, Stop.e, Option.bind_some, Option.bind_none, andB, orB, orB2, List.getD_cons_zero, List.getD_cons_succ, toB_b, toI_i, toS_s, toL_l, cond_true, cond_false, List.length_map]
    rw [stop_eq, list_eq_step p]
    cases h : decide (x = y) with
    | false => simp only [Bool.not_false, cond_true, Bool.false_and]
    | true =>
      rw [Bool.not_true, cond_false, Bool.true_and]
      exact eqStops_loop hl r r' _ _ h5 k5 (by simp [hp]) (by simpa using hr)
theorem eqStops_c {l m : List Stop} (hl : l.length ≤ 2 ^ 40) : cW f_slices_Equal___celluloid_api_Stop_celluloid_api_Stop_ [.l (l.map Stop.e), .l (m.map Stop.e)] [] = some ([.b (decide (l = m))], []) := by
  rw [w_slices_Equal___celluloid_api_Stop_celluloid_api_Stop_]
  simp only [List.length_map]
  by_cases h : l.length = m.length
  · rw [show (((l.length : Nat) : Int) != ((m.length : Nat) : Int)) = false by simp [h], cond_false]
    exact eqStops_loop hl l m [] [] rfl rfl rfl h
  · rw [show (((l.length : Nat) : Int) != ((m.length : Nat) : Int)) = true by simp [h]; omega, cond_true]
    rw [decide_eq_false (fun e => h (by rw [e]))]
theorem sameFill_c (a b : Fill) (hl : a.stops.length ≤ 2 ^ 40) : cW f_style_SameFill (a.e ++ b.e) [] = some ([.b (decide (a = b))], []) := by
  simp only [Fill.e, List.cons_append, List.nil_append]
  rw [w_style_SameFill]
  simp only [eqStops_c hl, Option.bind_some, Option.bind_none, andB, orB, orB2, List.getD_cons_zero, List.getD_cons_succ, toB_b, toI_i, toS_s, toL_l, cond_true, cond_false, List.length_map]
  rw [i4_eq, mat_eq, fill_eq]

def mB (m : Mat) : Bool := matB m.1 m.2.1 m.2.2.1 m.2.2.2.1 m.2.2.2.2.1 m.2.2.2.2.2
def stopB (s : Stop) (last : Int) : Bool := decide (s.ratio ≥ last) && (decide (s.ratio ≤ 255) && rgbaB s.color)
def stopsB : Int → List Stop → Bool
  | _, [] => true
  | last, s :: r => stopB s last && stopsB s.ratio r
def gradB (f : Fill) : Bool := mB f.mat && (decide (f.spread ≥ 0) && (decide (f.spread ≤ 2) && (decide (((f.stops.length : Nat) : Int) ≥ 1) && decide (((f.stops.length : Nat) : Int) ≤ 8))))
def kindS (k : Int) : Bool := k == 0
def kindP (k : Int) : Bool := k == 64 || k == 65
def kindG (k : Int) : Bool := k == 16 || k == 18
def fillB (f : Fill) : Bool :=
  bif kindS f.kind then rgbaB f.color && decide (f = ⟨0, f.color, (0, 0, 0, 0, 0, 0), 0, [], 0⟩)
  else bif kindP f.kind then mB f.mat && (decide (f.id ≥ 0) && (decide (f.id < 65536) && decide (f = ⟨f.kind, (0, 0, 0, 0), f.mat, 0, [], f.id⟩)))
  else bif kindG f.kind && decide (f = ⟨f.kind, (0, 0, 0, 0), f.mat, f.spread, f.stops, 0⟩) then stopsB 0 f.stops && gradB f
  else false
theorem stop_c (s : Stop) (last : Int) : cW f_style_stop (s.e ++ [.i last]) [] = some ([.b (stopB s last)], []) := by
  simp only [Stop.e, List.cons_append, List.nil_append]
  rw [w_style_stop]
  simp only [rightK_c, Option.bind_some, Option.bind_none, andB, orB, orB2, List.getD_cons_zero, List.getD_cons_succ, toB_b, toI_i, toS_s, toL_l, cond_true, cond_false, List.length_map]
  rfl
theorem picture_c (k : Int) : cW f_style_picture [.i k] [] = some ([.b (kindP k)], []) := by
  rw [w_style_picture]; simp only [Option.bind_some, Option.bind_none, andB, orB, orB2, List.getD_cons_zero, List.getD_cons_succ, toB_b, toI_i, toS_s, toL_l, cond_true, cond_false, List.length_map]; rfl
theorem gradient_c (k : Int) : cW f_style_gradient [.i k] [] = some ([.b (kindG k)], []) := by
  rw [w_style_gradient]; simp only [Option.bind_some, Option.bind_none, andB, orB, orB2, List.getD_cons_zero, List.getD_cons_succ, toB_b, toI_i, toS_s, toL_l, cond_true, cond_false, List.length_map]; rfl
theorem rightFill_loop (f : Fill) (hl : f.stops.length ≤ 2 ^ 40) : ∀ (rest pre : List Stop) (last : Int), f.stops = pre ++ rest →
    rW f_style_RightFill [] at_style_RightFill_L1 (S_style_RightFill_L1 last (f.stops.map Stop.e) f.stops.length pre.length f.kind f.color.1 f.color.2.1 f.color.2.2.1 f.color.2.2.2 f.mat.1 f.mat.2.1 f.mat.2.2.1 f.mat.2.2.2.1 f.mat.2.2.2.2.1 f.mat.2.2.2.2.2 f.spread (f.stops.map Stop.e) f.id) = some ([.b (stopsB last rest && gradB f)], [])
  | [], pre, last, h => by
    rw [w_style_RightFill_L1]
    simp only [el_end h, rightMatrix_c, Option.bind_some, Option.bind_none, andB, orB, orB2, List.getD_cons_zero, List.getD_cons_succ, toB_b, toI_i, toS_s, toL_l, cond_true, cond_false, List.length_map]
    rfl
  | x :: rest, pre, last, h => by
    obtain ⟨h1, h2, h3, h4, h5⟩ := el_step Stop.e h hl
    have hs := stop_c x last
    simp only [Stop.e, List.cons_append, List.nil_append] at hs
    rw [w_style_RightFill_L1]
    simp only [h1, h2, h3, h4, Stop.e, hs, Option.bind_some, Option.bind_none, andB, orB, orB2, List.getD_cons_zero, List.getD_cons_succ, toB_b, toI_i, toS_s, toL_l, cond_true, cond_false, List.length_map]
    unfold stopsB
    cases h : stopB x last with
    | false => simp only [Bool.not_false, cond_true, Bool.false_and]
    | true =>
      rw [Bool.not_true, cond_false, Bool.true_and]
      exact rightFill_loop f hl rest _ _ h5
theorem rightFill_c (f : Fill) (hl : f.stops.length ≤ 2 ^ 40) : cW f_style_RightFill f.e [] = some ([.b (fillB f)], []) := by
  have e1 := sameFill_c f ⟨0, f.color, (0, 0, 0, 0, 0, 0), 0, [], 0⟩ hl
  have e2 := sameFill_c f ⟨f.kind, (0, 0, 0, 0), f.mat, 0, [], f.id⟩ hl
  have e3 := sameFill_c f ⟨f.kind, (0, 0, 0, 0), f.mat, f.spread, f.stops, 0⟩ hl
  have el := rightFill_loop f hl f.stops [] 0 rfl
  simp only [Fill.e, List.cons_append, List.nil_append, List.map_nil] at e1 e2 e3 ⊢
  rw [w_style_RightFill]
  simp only [rightK_c, rightMatrix_c, picture_c, gradient_c, e1, e2, e3, Option.bind_some, Option.bind_none, andB, orB, orB2, List.getD_cons_zero, List.getD_cons_succ, toB_b, toI_i, toS_s, toL_l, cond_true, cond_false, List.length_map]
  unfold fillB
  show (bif kindS f.kind then _ else _) = _
  cases kindS f.kind with
  | true => rfl
  | false =>
    cases kindP f.kind with
    | true => rfl
    | false =>
      simp only [cond_false]
      cases kindG f.kind with
      | false => rfl
      | true =>
        cases h : decide (f = ⟨f.kind, (0, 0, 0, 0), f.mat, f.spread, f.stops, 0⟩) with
        | false => rfl
        | true => exact el
def strkB (s : Strk) : Bool := decide (s.width ≥ 0) && (decide (s.width < 65536) && rgbaB s.color)
theorem rightStroke_c (s : Strk) : cW f_style_RightStroke s.e [] = some ([.b (strkB s)], []) := by
  unfold Strk.e
  rw [w_style_RightStroke]
  simp only [rightK_c, Option.bind_some, Option.bind_none, andB, orB, orB2, List.getD_cons_zero, List.getD_cons_succ, toB_b, toI_i, toS_s, toL_l, cond_true, cond_false, List.length_map]; rfl
end Go.AI
set_option linter.unusedVariables false
set_option linter.unusedSimpArgs false
set_option maxRecDepth 100000
namespace Go.AI
open Go Go.Proofs

theorem right1_c (f : Fill) (hl : f.stops.length ≤ 2 ^ 40) : cW f_style_Right_1 f.e [] = some ([.b (!fillB f)], []) := by
  have h := rightFill_c f hl
  unfold Fill.e at h ⊢
  rw [w_style_Right_1]
  simp only [h, Option.bind_some, Option.bind_none, andB, orB, orB2, List.getD_cons_zero, List.getD_cons_succ, toB_b, toI_i, toS_s, toL_l, cond_true, cond_false, List.length_map]
theorem right2_c (s : Strk) : cW f_style_Right_2 s.e [] = some ([.b (!strkB s)], []) := by
  have h := rightStroke_c s
  unfold Strk.e at h ⊢
  rw [w_style_Right_2]
  simp only [h, Option.bind_some, Option.bind_none, andB, orB, orB2, List.getD_cons_zero, List.getD_cons_succ, toB_b, toI_i, toS_s, toL_l, cond_true, cond_false, List.length_map]
def Shorts (l : List Fill) : Prop := ∀ f, f ∈ l → f.stops.length ≤ 2 ^ 40
theorem idxFill_loop {l : List Fill} (hl : l.length ≤ 2 ^ 40) (hs : Shorts l) : ∀ (rest pre : List Fill), l = pre ++ rest → ∃ n : Int,
    rW f_slices_IndexFunc___celluloid_api_Fill_celluloid_api_Fill_ [] at_slices_IndexFunc___celluloid_api_Fill_celluloid_api_Fill__L0 (S_slices_IndexFunc___celluloid_api_Fill_celluloid_api_Fill__L0 (l.map Fill.e) l.length pre.length) = some ([.i n], []) ∧ decide (n ≥ 0) = !rest.all fillB
  | [], pre, h => by
    refine ⟨-1, ?_, rfl⟩
    rw [w_slices_IndexFunc___celluloid_api_Fill_celluloid_api_Fill__L0]; simp only [el_end h, Option.bind_some, Option.bind_none, andB, orB, orB2, List.getD_cons_zero, List.getD_cons_succ, toB_b, toI_i, toS_s, toL_l, cond_true, cond_false, List.length_map]
  | x :: rest, pre, h => by
    obtain ⟨h1, h2, h3, h4, h5⟩ := el_step Fill.e h hl
    have hx := right1_c x (hs x (by rw [h]; simp))
    rw [w_slices_IndexFunc___celluloid_api_Fill_celluloid_api_Fill__L0]
    unfold Fill.e at hx
    simp only [h1, h2, h3, h4, Fill.e, hx, List.all_cons, Option.bind_some, Option.bind_none, andB, orB, orB2, List.getD_cons_zero, List.getD_cons_succ, toB_b, toI_i, toS_s, toL_l, cond_true, cond_false, List.length_map]
    cases hf : fillB x with
    | false => exact ⟨_, rfl, by simp⟩
    | true => simpa [hf] using idxFill_loop hl hs rest _ h5
theorem anyFill_c {l : List Fill} (hl : l.length ≤ 2 ^ 40) (hs : Shorts l) : cW f_slices_ContainsFunc___celluloid_api_Fill_celluloid_api_Fill_ [.l (l.map Fill.e), .f f_style_Right_1 0] [] = some ([.b (!l.all fillB)], []) := by
  obtain ⟨n, h1, h2⟩ := idxFill_loop hl hs l [] rfl
  rw [w_slices_ContainsFunc___celluloid_api_Fill_celluloid_api_Fill_, w_slices_IndexFunc___celluloid_api_Fill_celluloid_api_Fill_]
  simp only [List.length_map]
  rw [show (0 : Int) = ((([] : List Fill).length : Nat) : Int) from rfl, h1]
  simp only [Option.bind_some, Option.bind_none, andB, orB, orB2, List.getD_cons_zero, List.getD_cons_succ, toB_b, toI_i, toS_s, toL_l, cond_true, cond_false, List.length_map]
  rw [← h2]; rfl
theorem idxStrk_loop {l : List Strk} (hl : l.length ≤ 2 ^ 40) : ∀ (rest pre : List Strk), l = pre ++ rest → ∃ n : Int,
    rW f_slices_IndexFunc___celluloid_api_Stroke_celluloid_api_Stroke_ [] at_slices_IndexFunc___celluloid_api_Stroke_celluloid_api_Stroke__L0 (S_slices_IndexFunc___celluloid_api_Stroke_celluloid_api_Stroke__L0 (l.map Strk.e) l.length pre.length) = some ([.i n], []) ∧ decide (n ≥ 0) = !rest.all strkB
  | [], pre, h => by
    refine ⟨-1, ?_, rfl⟩
    rw [w_slices_IndexFunc___celluloid_api_Stroke_celluloid_api_Stroke__L0]; simp only [el_end h, Option.bind_some, Option.bind_none, andB, orB, orB2, List.getD_cons_zero, List.getD_cons_succ, toB_b, toI_i, toS_s, toL_l, cond_true, cond_false, List.length_map]
  | x :: rest, pre, h => by
    obtain ⟨h1, h2, h3, h4, h5⟩ := el_step Strk.e h hl
    have hx := right2_c x
    rw [w_slices_IndexFunc___celluloid_api_Stroke_celluloid_api_Stroke__L0]
    unfold Strk.e at hx
    simp only [h1, h2, h3, h4, Strk.e, hx, List.all_cons, Option.bind_some, Option.bind_none, andB, orB, orB2, List.getD_cons_zero, List.getD_cons_succ, toB_b, toI_i, toS_s, toL_l, cond_true, cond_false, List.length_map]
    cases hf : strkB x with
    | false => exact ⟨_, rfl, by simp⟩
    | true => simpa [hf] using idxStrk_loop hl rest _ h5
theorem anyStrk_c {l : List Strk} (hl : l.length ≤ 2 ^ 40) : cW f_slices_ContainsFunc___celluloid_api_Stroke_celluloid_api_Stroke_ [.l (l.map Strk.e), .f f_style_Right_2 0] [] = some ([.b (!l.all strkB)], []) := by
  obtain ⟨n, h1, h2⟩ := idxStrk_loop hl l [] rfl
  rw [w_slices_ContainsFunc___celluloid_api_Stroke_celluloid_api_Stroke_, w_slices_IndexFunc___celluloid_api_Stroke_celluloid_api_Stroke_]
  simp only [List.length_map]
  rw [show (0 : Int) = ((([] : List Strk).length : Nat) : Int) from rfl, h1]
  simp only [Option.bind_some, Option.bind_none, andB, orB, orB2, List.getD_cons_zero, List.getD_cons_succ, toB_b, toI_i, toS_s, toL_l, cond_true, cond_false, List.length_map]
  rw [← h2]; rfl
def listsB (l : List Fill) (m : List Strk) : Bool := decide (((l.length : Nat) : Int) ≤ 15) && (decide (((m.length : Nat) : Int) ≤ 15) && (l.all fillB && m.all strkB))
theorem right_c {l : List Fill} {m : List Strk} (hl : l.length ≤ 2 ^ 40) (hm : m.length ≤ 2 ^ 40) (hs : Shorts l) : cW f_style_Right [.l (l.map Fill.e), .l (m.map Strk.e)] [] = some ([.b (listsB l m)], []) := by
  rw [w_style_Right]
  simp only [anyFill_c hl hs, anyStrk_c hm, Bool.not_not, Option.bind_some, Option.bind_none, andB, orB, orB2, List.getD_cons_zero, List.getD_cons_succ, toB_b, toI_i, toS_s, toL_l, cond_true, cond_false, List.length_map]
  rfl
/-! ### lists are equal -/
theorem list_eq_step' {α : Type} [DecidableEq α] (x y : α) (a b : List α) : decide (x :: a = y :: b) = (decide (x = y) && decide (a = b)) := list_eq_step ([] : List α) x y a b
theorem small_loop {l : List Fill} {m : List Strk} (hl : l.length ≤ 9223372036854775807) : ∀ (rest pre : List Fill), l = pre ++ rest →
    rW f_celluloidref08_Small [] at_celluloidref08_Small_L0 (S_celluloidref08_Small_L0 (l.map Fill.e) (m.map Strk.e) pre.length) = some ([.b (rest.all (fun f => decide (f.stops.length ≤ 20)) && (decide (l.length < 30) && decide (m.length < 30)))], [])
  | [], pre, h => by
    rw [w_celluloidref08_Small_L0]
    simp only [el_end h, Option.bind_some, Option.bind_none, andB, orB, orB2, List.getD_cons_zero, List.getD_cons_succ, toB_b, toI_i, toS_s, toL_l, cond_true, cond_false, List.length_map]
    rw [show decide (((l.length : Nat) : Int) < 30) = decide (l.length < 30) by simp; omega, show decide (((m.length : Nat) : Int) < 30) = decide (m.length < 30) by simp; omega]
    rfl
  | x :: rest, pre, h => by
    obtain ⟨h1, h2, h3, h4, h5⟩ := el_stepM Fill.e h hl
    rw [w_celluloidref08_Small_L0]
    simp only [h1, h2, h3, h4, Fill.e, List.all_cons, Option.bind_some, Option.bind_none, andB, orB, orB2, List.getD_cons_zero, List.getD_cons_succ, toB_b, toI_i, toS_s, toL_l, cond_true, cond_false, List.length_map]
    by_cases hx : x.stops.length ≤ 20
    · rw [decide_eq_false (p := ((x.stops.length : Nat) : Int) > 20) (by omega), decide_eq_true hx, cond_false, Bool.true_and]
      exact small_loop hl rest _ h5
    · rw [decide_eq_true (p := ((x.stops.length : Nat) : Int) > 20) (by omega), decide_eq_false hx, cond_true, Bool.false_and, Bool.false_and]
def smallB (l : List Fill) (m : List Strk) : Bool := l.all (fun f => decide (f.stops.length ≤ 20)) && (decide (l.length < 30) && decide (m.length < 30))
theorem small_c {l : List Fill} {m : List Strk} (hl : l.length ≤ 9223372036854775807) : cW f_celluloidref08_Small [.l (l.map Fill.e), .l (m.map Strk.e)] [] = some ([.b (smallB l m)], []) := by
  rw [w_celluloidref08_Small]
  exact small_loop hl l [] rfl
theorem smallB_r {l : List Fill} {m : List Strk} (h : smallB l m = true) : (∀ f, f ∈ l → f.stops.length ≤ 20) ∧ l.length < 30 ∧ m.length < 30 := by
  unfold smallB at h
  simpa using h
end Go.AI
set_option linter.unusedVariables false
set_option linter.unusedSimpArgs false
set_option maxRecDepth 100000
namespace Go.AI
open Go Go.Proofs

def oneS (n : Int) : List UInt8 := [UInt8.ofNat (n % 256).toNat]
def twoS (n : Int) : List UInt8 := [UInt8.ofNat (Int.tmod n 256 % 256).toNat, UInt8.ofNat (IntKind.wrap .i64 (Int.tdiv n 256) % 256).toNat]
theorem toBytes_oneS (n : Int) : toBytes (List.set [[PV.i 0]] 0 [PV.i (IntKind.wrap .u8 n)]) = oneS n := by
  rw [wrapU8]; rfl
theorem byteOf_c {s : List UInt8} (hs : s.length ≤ 500000000) (f n : Int) : cW f_style_byteOf [.s s, .i f, .i n] [] = some ([.s (s ++ oneS n), .i 0], []) := by
  rw [w_style_byteOf, toBytes_oneS, (putBytes_ans (t := oneS n) (by show _ + 1 ≤ _; omega) f).c]
  rfl
theorem littleB_two {n : Int} (h0 : 0 ≤ n) (h1 : n < 65536) : littleB n.toNat 2 = twoS n := by
  obtain ⟨k, rfl⟩ := Int.eq_ofNat_of_zero_le h0
  have e1 : (k : Int).tmod 256 = ((k % 256 : Nat) : Int) := rfl
  have e2 : (k : Int).tdiv 256 = ((k / 256 : Nat) : Int) := rfl
  unfold twoS
  rw [e1, e2, wrap64 (by omega) (by omega)]
  show [UInt8.ofNat (k / 256 ^ 0 % 256), UInt8.ofNat (k / 256 ^ 1 % 256)] = _
  have a : ((k % 256 : Nat) : Int) % 256 = ((k % 256 : Nat) : Int) := by omega
  have b : ((k / 256 : Nat) : Int) % 256 = ((k / 256 % 256 : Nat) : Int) := by omega
  rw [a, b, Int.toNat_natCast, Int.toNat_natCast, Nat.pow_zero, Nat.div_one, Nat.pow_one]
theorem putLittle2_c {s : List UInt8} (hs : s.length ≤ 500000000) (f : Int) {n : Int} (h0 : 0 ≤ n) (h1 : n < 65536) : cW f_bits_PutLittle [.s s, .i f, .i n, .i 2] [] = some ([.s (s ++ twoS n), .i 0, .i 0], []) := by
  rw [(putLittle_ans hs f n 2 (by omega)).c]
  unfold putLittleF encW
  rw [if_neg (by show ¬ (_ ∨ _); simp; omega)]
  simp only
  rw [show ((2 : Int).toNat) = 2 from rfl, littleB_two h0 h1]
def matS (m : Mat) : List UInt8 := (matW m.1 m.2.1 m.2.2.1 m.2.2.2.1 m.2.2.2.2.1 m.2.2.2.2.2 ([], 0)).1
theorem putMatF_ok {s : List UInt8} {m : Mat} (h : mB m = true) : putMatF s m.1 m.2.1 m.2.2.1 m.2.2.2.1 m.2.2.2.2.1 m.2.2.2.2.2 = (s ++ matS m, 0, 0) := by
  unfold putMatF
  unfold mB at h
  rw [if_pos h, mat_behind]; rfl
theorem putMat_c {s : List UInt8} (hs : s.length ≤ 450000000) (f : Int) {m : Mat} (h : mB m = true) : cW f_field_PutMatrix [.s s, .i f, .i m.1, .i m.2.1, .i m.2.2.1, .i m.2.2.2.1, .i m.2.2.2.2.1, .i m.2.2.2.2.2] [] = some ([.s (s ++ matS m), .i 0, .i 0], []) := by
  rw [(putMat_ans hs f _ _ _ _ _ _).c, putMatF_ok h]; rfl
theorem putK_c {s : List UInt8} (hs : s.length ≤ 450000000) (f : Int) {c : I4} (h : rgbaB c = true) : cW f_field_PutRGBA [.s s, .i f, .i c.1, .i c.2.1, .i c.2.2.1, .i c.2.2.2] [] = some ([.s (s ++ rgbaS c), .i 0, .i 0], []) := by
  rw [(putK_ans hs f c).c]; unfold putKF; rw [if_pos h]; rfl
theorem matS_len {m : Mat} (h : mB m = true) : (matS m).length ≤ 400 := by
  unfold mB at h
  obtain ⟨f1, f2, f3⟩ := matB_fits h
  have w1 := f1.wl; have w2 := f2.wl; have w3 := f3.wl
  unfold matS matW
  generalize (m.1 != 65536 || m.2.2.2.1 != 65536) = p
  generalize (m.2.1 != 0 || m.2.2.1 != 0) = q
  obtain ⟨o1, _, _, l1⟩ := flagW_ok p ([], 0) (ok_zero [])
  obtain ⟨o2, _, _, l2⟩ := optW_ok p [m.1, m.2.2.2.1] _ o1
  obtain ⟨o3, _, _, l3⟩ := flagW_ok q _ o2
  obtain ⟨o4, _, _, l4⟩ := optW_ok q [m.2.1, m.2.2.1] _ o3
  obtain ⟨o5, _, _, l5⟩ := nums_ok 5 [m.2.2.2.2.1, m.2.2.2.2.2] _ o4
  simp only [List.length_cons, List.length_nil] at l1 l2 l3 l4 l5
  show (nums 5 _ _).1.length ≤ _
  omega
def stopsS : List Stop → List UInt8
  | [] => []
  | s :: r => oneS s.ratio ++ (rgbaS s.color ++ stopsS r)
def fillS (f : Fill) : List UInt8 := oneS f.kind ++ (bif kindS f.kind then rgbaS f.color else bif kindP f.kind then twoS f.id ++ matS f.mat else matS f.mat ++ (oneS (64 * f.spread + f.stops.length) ++ stopsS f.stops))
def fillsS : List Fill → List UInt8
  | [] => []
  | f :: r => fillS f ++ fillsS r
def strkS (s : Strk) : List UInt8 := twoS s.width ++ rgbaS s.color
def strksS : List Strk → List UInt8
  | [] => []
  | f :: r => strkS f ++ strksS r
def listsS (l : List Fill) (m : List Strk) : List UInt8 := oneS l.length ++ (fillsS l ++ (oneS m.length ++ strksS m))
theorem stopsS_len : ∀ l : List Stop, (stopsS l).length = 5 * l.length
  | [] => rfl
  | s :: r => by simp only [stopsS, List.length_append, stopsS_len r, List.length_cons]; show 1 + (4 + _) = _; omega
theorem stopsB_cons {s : Stop} {r : List Stop} {last : Int} (h : stopsB last (s :: r) = true) : rgbaB s.color = true ∧ stopsB s.ratio r = true ∧ s.ratio ≥ last ∧ s.ratio ≤ 255 := by
  unfold stopsB stopB at h
  simp only [Bool.and_eq_true, decide_eq_true_eq] at h
  exact ⟨h.1.2.2, h.2, h.1.1, h.1.2.1⟩
/-- what is right of a kind -/
theorem fillB_solid {f : Fill} (h : fillB f = true) (k : kindS f.kind = true) : rgbaB f.color = true ∧ f = ⟨0, f.color, (0, 0, 0, 0, 0, 0), 0, [], 0⟩ := by
  unfold fillB at h; rw [k, cond_true] at h
  simpa using h
theorem fillB_pic {f : Fill} (h : fillB f = true) (k : kindS f.kind = false) (k' : kindP f.kind = true) : mB f.mat = true ∧ 0 ≤ f.id ∧ f.id < 65536 ∧ f = ⟨f.kind, (0, 0, 0, 0), f.mat, 0, [], f.id⟩ := by
  unfold fillB at h; rw [k, cond_false, k', cond_true] at h
  simpa using h
theorem fillB_grad {f : Fill} (h : fillB f = true) (k : kindS f.kind = false) (k' : kindP f.kind = false) : kindG f.kind = true ∧ f = ⟨f.kind, (0, 0, 0, 0), f.mat, f.spread, f.stops, 0⟩ ∧ stopsB 0 f.stops = true ∧ mB f.mat = true ∧ 0 ≤ f.spread ∧ f.spread ≤ 2 ∧ 1 ≤ f.stops.length ∧ f.stops.length ≤ 8 := by
  unfold fillB at h; rw [k, cond_false, k', cond_false] at h
  cases hg : (kindG f.kind && decide (f = ⟨f.kind, (0, 0, 0, 0), f.mat, f.spread, f.stops, 0⟩)) with
  | false => rw [hg] at h; cases h
  | true =>
    rw [hg, cond_true] at h
    simp only [Bool.and_eq_true, decide_eq_true_eq] at hg h
    obtain ⟨h1, h2⟩ := h
    unfold gradB at h2
    simp only [Bool.and_eq_true, decide_eq_true_eq] at h2
    exact ⟨hg.1, hg.2, h1, h2.1, h2.2.1, h2.2.2.1, by omega, by omega⟩
theorem fillS_len {f : Fill} (h : fillB f = true) : (fillS f).length ≤ 450 := by
  unfold fillS
  cases k : kindS f.kind with
  | true => simp only [cond_true, List.length_append]; show 1 + 4 ≤ _; omega
  | false =>
    cases k' : kindP f.kind with
    | true =>
      have := matS_len (fillB_pic h k k').1
      simp only [cond_true, cond_false, List.length_append]; show 1 + (2 + _) ≤ _; omega
    | false =>
      obtain ⟨_, _, _, hm, _, _, _, h8⟩ := fillB_grad h k k'
      have := matS_len hm
      simp only [cond_false, List.length_append, stopsS_len]; show 1 + (_ + (1 + _)) ≤ _; omega
theorem put_loop {l : List Stop} (hl : l.length ≤ 8) (o1 : List UInt8) (o2 : Int) : ∀ (rest pre : List Stop) (s : List UInt8) (last : Int), l = pre ++ rest → stopsB last rest = true → s.length + 5 * rest.length ≤ 440000000 →
    rW f_style_put [] at_style_put_L1 (S_style_put_L1 (l.map Stop.e) l.length pre.length s 0 o1 o2) = some ([.s (s ++ stopsS rest), .i 0], [])
  | [], pre, s, last, h, hb, hs => by
    rw [w_style_put_L1]
    simp only [el_end h, stopsS, List.append_nil, Option.bind_some, Option.bind_none, andB, orB, orB2, List.getD_cons_zero, List.getD_cons_succ, toB_b, toI_i, toS_s, toL_l, cond_true, cond_false, List.length_map]
  | x :: rest, pre, s, last, h, hb, hs => by
    obtain ⟨h1, h2, h3, h4, h5⟩ := el_step Stop.e h (Nat.le_trans hl (by decide))
    obtain ⟨hc, hr, _, _⟩ := stopsB_cons hb
    simp only [List.length_cons] at hs
    have e := putK_c (s := s ++ oneS x.ratio) (by simp [oneS]; omega) 0 hc
    rw [w_style_put_L1]
    simp only [h1, h2, h3, h4, Stop.e, byteOf_c (s := s) (by omega), e, Option.bind_some, Option.bind_none, andB, orB, orB2, List.getD_cons_zero, List.getD_cons_succ, toB_b, toI_i, toS_s, toL_l, cond_true, cond_false, List.length_map]
    have := put_loop hl o1 o2 rest _ (s ++ oneS x.ratio ++ rgbaS x.color) x.ratio h5 hr (by simp [oneS, rgbaS]; omega)
    simpa [stopsS] using this
theorem put_c {f : Fill} (h : fillB f = true) {s : List UInt8} (hs : s.length ≤ 430000000) (fr : Int) : cW f_style_put ([.s s, .i fr] ++ f.e) [] = some ([.s (s ++ fillS f), .i 0], []) := by
  simp only [Fill.e, List.cons_append, List.nil_append]
  rw [w_style_put]
  have hs1 : (s ++ oneS f.kind).length ≤ 430000001 := by simp [oneS]; omega
  simp only [byteOf_c (s := s) (by omega), picture_c, Option.bind_some, Option.bind_none, andB, orB, orB2, List.getD_cons_zero, List.getD_cons_succ, toB_b, toI_i, toS_s, toL_l, cond_true, cond_false, List.length_map]
  unfold fillS
  show (bif kindS f.kind then _ else _) = _
  cases k : kindS f.kind with
  | true =>
    rw [cond_true, cond_true, putK_c (by omega) 0 (fillB_solid h k).1]
    simp [toS_s, toI_i]
  | false =>
    cases k' : kindP f.kind with
    | true =>
      obtain ⟨hm, h0, h1, _⟩ := fillB_pic h k k'
      have e := putMat_c (s := s ++ oneS f.kind ++ twoS f.id) (by simp [oneS, twoS]; omega) 0 hm
      simp only [putLittle2_c (s := s ++ oneS f.kind) (by omega) 0 h0 h1, e, Option.bind_some, Option.bind_none, andB, orB, orB2, List.getD_cons_zero, List.getD_cons_succ, toB_b, toI_i, toS_s, toL_l, cond_true, cond_false, List.length_map]
      simp
    | false =>
      obtain ⟨_, _, hb, hm, h0, h2, _, h8⟩ := fillB_grad h k k'
      have hml := matS_len hm
      have e := putMat_c (s := s ++ oneS f.kind) (by omega) 0 hm
      have e2 := byteOf_c (s := s ++ oneS f.kind ++ matS f.mat) (by simp [oneS]; omega) 0 (64 * f.spread + f.stops.length)
      have e3 := put_loop h8 [] 0 f.stops [] (s ++ oneS f.kind ++ matS f.mat ++ oneS (64 * f.spread + f.stops.length)) 0 rfl hb (by simp [oneS]; omega)
      rw [show IntKind.wrap .i64 ((IntKind.wrap .i64 (f.spread * 64)) + ((f.stops.length : Nat) : Int)) = 64 * f.spread + f.stops.length by rw [wrap64 (n := f.spread * 64) (by omega) (by omega), wrap64 (by omega) (by omega)]; omega]
      simp only [e, e2, Option.bind_some, Option.bind_none, andB, orB, orB2, List.getD_cons_zero, List.getD_cons_succ, toB_b, toI_i, toS_s, toL_l, cond_true, cond_false, List.length_map]
      rw [show (0 : Int) = ((([] : List Stop).length : Nat) : Int) from rfl]
      rw [show (0 : Int) = ((([] : List Stop).length : Nat) : Int) from rfl] at e3
      rw [e3]
      simp
end Go.AI
set_option linter.unusedVariables false
set_option linter.unusedSimpArgs false
set_option maxRecDepth 100000
namespace Go.AI
open Go Go.Proofs

def col (σ : Rs) : I4 × Rs := if σ.2.2 ≠ 0 then ((0, 0, 0, 0), σ) else takeKF σ.1 σ.2.1
def mt (σ : Rs) : Mat × Rs := if σ.2.2 ≠ 0 then ((0, 0, 0, 0, 0, 0), σ) else takeMatF (beginP σ.1 σ.2.1)
def Keeps (σ τ : Rs) : Prop := τ.1 = [] ∨ τ.1 = σ.1
theorem Keeps.refl (σ : Rs) : Keeps σ σ := .inr rfl
theorem Keeps.trans {σ τ ρ : Rs} (h : Keeps σ τ) (k : Keeps τ ρ) : Keeps σ ρ := by
  rcases k with k | k
  · exact .inl k
  · rcases h with h | h
    · exact .inl (k.trans h)
    · exact .inr (k.trans h)
end Go.AI
set_option linter.unusedVariables false
set_option linter.unusedSimpArgs false
set_option maxRecDepth 100000
namespace Go.AI
open Go Go.Proofs

end Go.AI
set_option linter.unusedVariables false
set_option linter.unusedSimpArgs false
set_option maxRecDepth 100000
namespace Go.AI
open Go Go.Proofs

end Go.AI
set_option linter.unusedVariables false
set_option linter.unusedSimpArgs false
set_option maxRecDepth 100000
namespace Go.AI
open Go Go.Proofs

/-! ### it is the program's -/
end Go.AI
set_option linter.unusedVariables false
set_option linter.unusedSimpArgs false
set_option maxRecDepth 100000
namespace Go.AI
open Go Go.Proofs

end Go.AI
set_option linter.unusedVariables false
set_option linter.unusedSimpArgs false
set_option maxRecDepth 100000
namespace Go.AI
open Go Go.Proofs

end Go.AI
set_option linter.unusedVariables false
set_option linter.unusedSimpArgs false
set_option maxRecDepth 100000
namespace Go.AI
open Go Go.Proofs

theorem fillsS_len : ∀ {l : List Fill}, (∀ f, f ∈ l → fillB f = true) → (fillsS l).length ≤ 450 * l.length
  | [], _ => Nat.le_refl _
  | f :: r, h => by
    have a := fillS_len (h f (by simp))
    have b := fillsS_len (l := r) (fun g hg => h g (by simp [hg]))
    simp only [fillsS, List.length_append, List.length_cons]; omega
theorem strksS_len : ∀ l : List Strk, (strksS l).length = 6 * l.length
  | [] => rfl
  | f :: r => by simp only [strksS, strkS, List.length_append, strksS_len r, List.length_cons]; show 2 + 4 + _ = _; omega
theorem strkB_r {s : Strk} (h : strkB s = true) : 0 ≤ s.width ∧ s.width < 65536 ∧ rgbaB s.color = true := by
  unfold strkB at h; simpa using h
theorem Put_loop2 {m : List Strk} (hm : m.length ≤ 15) (o1 : List UInt8) (o2 : Int) : ∀ (rest pre : List Strk) (s : List UInt8), m = pre ++ rest → (∀ x, x ∈ m → strkB x = true) → s.length + 6 * rest.length ≤ 440000000 →
    rW f_style_Put [] at_style_Put_L2 (S_style_Put_L2 (m.map Strk.e) m.length pre.length s 0 o1 o2) = some ([.s (s ++ strksS rest), .i 0, .i 0], [])
  | [], pre, s, h, hb, hs => by
    rw [w_style_Put_L2]
    simp only [el_end h, strksS, List.append_nil, Option.bind_some, Option.bind_none, andB, orB, orB2, List.getD_cons_zero, List.getD_cons_succ, toB_b, toI_i, toS_s, toL_l, cond_true, cond_false, List.length_map]
  | x :: rest, pre, s, h, hb, hs => by
    obtain ⟨h1, h2, h3, h4, h5⟩ := el_step Strk.e h (Nat.le_trans hm (by decide))
    obtain ⟨w0, w1, hc⟩ := strkB_r (hb x (by rw [h]; simp))
    simp only [List.length_cons] at hs
    have e := putK_c (s := s ++ twoS x.width) (by simp [twoS]; omega) 0 hc
    rw [w_style_Put_L2]
    simp only [h1, h2, h3, h4, Strk.e, putLittle2_c (s := s) (by omega) 0 w0 w1, e, Option.bind_some, Option.bind_none, andB, orB, orB2, List.getD_cons_zero, List.getD_cons_succ, toB_b, toI_i, toS_s, toL_l, cond_true, cond_false, List.length_map]
    have := Put_loop2 hm o1 o2 rest _ (s ++ twoS x.width ++ rgbaS x.color) h5 hb (by simp [twoS, rgbaS]; omega)
    simpa [strksS, strkS] using this
theorem Put_loop {l : List Fill} {m : List Strk} (hl : l.length ≤ 15) (hm : m.length ≤ 15) (hf : ∀ x, x ∈ l → fillB x = true) (hb : ∀ x, x ∈ m → strkB x = true) (o1 : List UInt8) (o2 : Int) : ∀ (rest pre : List Fill) (s : List UInt8), l = pre ++ rest → s.length + 450 * rest.length ≤ 420000000 →
    rW f_style_Put [] at_style_Put_L0 (S_style_Put_L0 (m.map Strk.e) (l.map Fill.e) l.length pre.length s 0 o1 o2) = some ([.s (s ++ (fillsS rest ++ (oneS m.length ++ strksS m))), .i 0, .i 0], [])
  | [], pre, s, h, hs => by
    have e := Put_loop2 hm o1 o2 m [] (s ++ oneS m.length) rfl hb (by simp [oneS]; omega)
    rw [w_style_Put_L0]
    simp only [el_end h, byteOf_c (s := s) (by simp at hs; omega), Option.bind_some, Option.bind_none, andB, orB, orB2, List.getD_cons_zero, List.getD_cons_succ, toB_b, toI_i, toS_s, toL_l, cond_true, cond_false, List.length_map]
    simpa [fillsS] using e
  | x :: rest, pre, s, h, hs => by
    obtain ⟨h1, h2, h3, h4, h5⟩ := el_step Fill.e h (Nat.le_trans hl (by decide))
    have hx := hf x (by rw [h]; simp)
    have hxl := fillS_len hx
    simp only [List.length_cons] at hs
    have e := put_c hx (s := s) (by omega) 0
    rw [w_style_Put_L0]
    simp only [Fill.e, List.cons_append, List.nil_append] at e
    simp only [h1, h2, h3, h4, Fill.e, e, Option.bind_some, Option.bind_none, andB, orB, orB2, List.getD_cons_zero, List.getD_cons_succ, toB_b, toI_i, toS_s, toL_l, cond_true, cond_false, List.length_map]
    have := Put_loop hl hm hf hb o1 o2 rest _ (s ++ fillS x) h5 (by simp; omega)
    simpa [fillsS] using this
theorem listsB_r {l : List Fill} {m : List Strk} (h : listsB l m = true) : l.length ≤ 15 ∧ m.length ≤ 15 ∧ (∀ x, x ∈ l → fillB x = true) ∧ (∀ x, x ∈ m → strkB x = true) := by
  unfold listsB at h
  simp only [Bool.and_eq_true, decide_eq_true_eq, List.all_eq_true] at h
  exact ⟨by omega, by omega, h.2.2.1, h.2.2.2⟩
def putListsF (s : List UInt8) (l : List Fill) (m : List Strk) : Res := bif listsB l m then ([.s (s ++ listsS l m), .i 0, .i 0], []) else ([.s [], .i 0, .i 1], [])
theorem Put_c {l : List Fill} {m : List Strk} (hl : l.length ≤ 2 ^ 40) (hm : m.length ≤ 2 ^ 40) (hs : Shorts l) {s : List UInt8} (hb : s.length ≤ 400000000) (fr : Int) : cW f_style_Put [.s s, .i fr, .l (l.map Fill.e), .l (m.map Strk.e)] [] = some (putListsF s l m) := by
  rw [w_style_Put]
  simp only [right_c hl hm hs, byteOf_c (s := s) (by omega), Option.bind_some, Option.bind_none, andB, orB, orB2, List.getD_cons_zero, List.getD_cons_succ, toB_b, toI_i, toS_s, toL_l, cond_true, cond_false, List.length_map]
  unfold putListsF
  cases h : listsB l m with
  | false => rfl
  | true =>
    obtain ⟨h1, h2, h3, h4⟩ := listsB_r h
    have e := Put_loop h1 h2 h3 h4 [] 0 l [] (s ++ oneS l.length) rfl (by simp [oneS]; omega)
    simp only [Bool.not_true, cond_false, cond_true]
    simpa [listsS] using e
/-! ### the document's -/
end Go.AI
set_option linter.unusedVariables false
set_option linter.unusedSimpArgs false
set_option maxRecDepth 100000
namespace Go.AI
open Go Go.Proofs

end Go.AI
set_option linter.unusedVariables false
set_option linter.unusedSimpArgs false
set_option maxRecDepth 100000
namespace Go.AI
open Go Go.Proofs

/-- a reader that went on, over so many bytes at least -/
def Val (σ τ : Rs) (k : Nat) : Prop := σ.2.2 = 0 ∧ ∃ p q : Nat, σ.2.1 = p ∧ τ = (σ.1, (q : Int), 0) ∧ 8 * k + p ≤ q
theorem Val.trans {σ τ ρ : Rs} {k j : Nat} (h : Val σ τ k) (h' : Val τ ρ j) : Val σ ρ (k + j) := by
  obtain ⟨e, p, q, hp, rfl, hk⟩ := h
  obtain ⟨e', p', q', hp', rfl, hj⟩ := h'
  have : ((q : Nat) : Int) = ((p' : Nat) : Int) := hp'
  exact ⟨e, p, q', hp, rfl, by omega⟩
theorem Val.ok {σ τ : Rs} {k : Nat} (h : Val σ τ k) : τ.2.2 = 0 := by obtain ⟨_, _, _, _, rfl, _⟩ := h; rfl
end Go.AI
set_option linter.unusedVariables false
set_option linter.unusedSimpArgs false
set_option maxRecDepth 100000
namespace Go.AI
open Go Go.Proofs

end Go.AI
set_option linter.unusedVariables false
set_option linter.unusedSimpArgs false
set_option maxRecDepth 100000
namespace Go.AI
open Go Go.Proofs

theorem PWL.split {P : Program} {us : List LTy} : ∀ {ts : List LTy} {ps : List PV}, PWL P (ts ++ us) ps → ∃ a b, ps = a ++ b ∧ PWL P ts a ∧ PWL P us b
  | [], ps, h => ⟨[], ps, rfl, ⟨rfl, fun j hj => by simp at hj⟩, h⟩
  | t :: ts, ps, h => by
    obtain ⟨p, q, rfl, hp, hq⟩ := h.cons
    obtain ⟨a, b, rfl, ha, hb⟩ := PWL.split (ts := ts) hq
    refine ⟨p :: a, b, rfl, ?_, hb⟩
    refine ⟨by simp [ha.1], fun j hj => ?_⟩
    cases j with
    | zero => exact hp
    | succ j => simpa using ha.2 j (by simpa using hj)
theorem rows_of {α : Type} {P : Program} (e : α → List PV) (wf : α → Prop) {ts : List LTy} (h : ∀ x, PWL P ts x → ∃ a, x = e a ∧ wf a) : ∀ es : List (List PV), (∀ x, x ∈ es → PWL P ts x) → ∃ l : List α, es = l.map e ∧ ∀ a, a ∈ l → wf a
  | [], _ => ⟨[], rfl, fun a ha => by cases ha⟩
  | x :: es, hx => by
    obtain ⟨a, rfl, ha⟩ := h x (hx x (by simp))
    obtain ⟨l, rfl, hl⟩ := rows_of e wf h es (fun y hy => hx y (by simp [hy]))
    exact ⟨a :: l, rfl, fun b hb => by rcases List.mem_cons.1 hb with rfl | hb; exact ha; exact hl b hb⟩
def I4.wf (c : I4) : Prop := I64 c.1 ∧ (I64 c.2.1 ∧ (I64 c.2.2.1 ∧ I64 c.2.2.2))
def Mat.wf (m : Mat) : Prop := I64 m.1 ∧ (I64 m.2.1 ∧ (I64 m.2.2.1 ∧ (I64 m.2.2.2.1 ∧ (I64 m.2.2.2.2.1 ∧ I64 m.2.2.2.2.2))))
abbrev L4 : List LTy := [.int .i64, .int .i64, .int .i64, .int .i64]
theorem i4_of {P : Program} {x : List PV} (h : PWL P L4 x) : ∃ c : I4, x = [.i c.1, .i c.2.1, .i c.2.2.1, .i c.2.2.2] ∧ c.wf := by
  obtain ⟨p1, q1, rfl, h1, r1⟩ := h.cons
  obtain ⟨p2, q2, rfl, h2, r2⟩ := r1.cons
  obtain ⟨p3, q3, rfl, h3, r3⟩ := r2.cons
  obtain ⟨p4, q4, rfl, h4, r4⟩ := r3.cons
  obtain rfl := r4.nil
  obtain ⟨x1, rfl, w1⟩ := h1.i64_of
  obtain ⟨x2, rfl, w2⟩ := h2.i64_of
  obtain ⟨x3, rfl, w3⟩ := h3.i64_of
  obtain ⟨x4, rfl, w4⟩ := h4.i64_of
  exact ⟨(x1, x2, x3, x4), rfl, w1, w2, w3, w4⟩
theorem int_cons {P : Program} {ts : List LTy} {x : List PV} (h : PWL P (.int .i64 :: ts) x) : ∃ (n : Int) (q : List PV), x = .i n :: q ∧ I64 n ∧ PWL P ts q := by
  obtain ⟨p1, q1, rfl, h1, r1⟩ := h.cons
  obtain ⟨x1, rfl, w1⟩ := h1.i64_of
  exact ⟨x1, q1, rfl, w1, r1⟩
theorem sl_cons {α : Type} {P : Program} {t : TypeId} {us : List LTy} {e : α → List PV} {wf : α → Prop} (hl : leaves P t = some us) (he : ∀ x, PWL P us x → ∃ a, x = e a ∧ wf a) {ts : List LTy} {x : List PV} (h : PWL P (.sl t :: ts) x) :
    ∃ (l : List α) (q : List PV), x = .l (l.map e) :: q ∧ l.length ≤ maxLen ∧ (∀ a, a ∈ l → wf a) ∧ PWL P ts q := by
  obtain ⟨p1, q1, rfl, h1, r1⟩ := h.cons
  obtain ⟨es, ts, rfl, hl', hn, hx⟩ := h1.sl_of
  rw [hl] at hl'
  cases hl'
  obtain ⟨l, rfl, hw⟩ := rows_of e wf he es hx
  exact ⟨l, q1, rfl, by simpa using hn, hw, r1⟩
def Stop.wf (s : Stop) : Prop := I64 s.ratio ∧ s.color.wf
theorem stop_of {P : Program} (x : List PV) (h : PWL P (.int .i64 :: L4) x) : ∃ s : Stop, x = s.e ∧ s.wf := by
  obtain ⟨n, q, rfl, hn, r⟩ := int_cons h
  obtain ⟨c, rfl, hc⟩ := i4_of r
  exact ⟨⟨n, c⟩, rfl, hn, hc⟩
def Strk.wf (s : Strk) : Prop := I64 s.width ∧ s.color.wf
theorem strk_of {P : Program} (x : List PV) (h : PWL P (.int .i64 :: L4) x) : ∃ s : Strk, x = s.e ∧ s.wf := by
  obtain ⟨n, q, rfl, hn, r⟩ := int_cons h
  obtain ⟨c, rfl, hc⟩ := i4_of r
  exact ⟨⟨n, c⟩, rfl, hn, hc⟩
def Fill.wf (f : Fill) : Prop := I64 f.kind ∧ (f.color.wf ∧ (Mat.wf f.mat ∧ (I64 f.spread ∧ (f.stops.length ≤ maxLen ∧ ((∀ s, s ∈ f.stops → s.wf) ∧ I64 f.id)))))
abbrev LFill (t : TypeId) : List LTy := [.int .i64, .int .i64, .int .i64, .int .i64, .int .i64, .int .i64, .int .i64, .int .i64, .int .i64, .int .i64, .int .i64, .int .i64, .sl t, .int .i64]
theorem fill_of {P : Program} {t : TypeId} (ht : leaves P t = some (.int .i64 :: L4)) (x : List PV) (h : PWL P (LFill t) x) : ∃ f : Fill, x = f.e ∧ f.wf := by
  obtain ⟨x0, q, rfl, w0, h⟩ := int_cons h
  obtain ⟨x1, q, rfl, w1, h⟩ := int_cons h
  obtain ⟨x2, q, rfl, w2, h⟩ := int_cons h
  obtain ⟨x3, q, rfl, w3, h⟩ := int_cons h
  obtain ⟨x4, q, rfl, w4, h⟩ := int_cons h
  obtain ⟨x5, q, rfl, w5, h⟩ := int_cons h
  obtain ⟨x6, q, rfl, w6, h⟩ := int_cons h
  obtain ⟨x7, q, rfl, w7, h⟩ := int_cons h
  obtain ⟨x8, q, rfl, w8, h⟩ := int_cons h
  obtain ⟨x9, q, rfl, w9, h⟩ := int_cons h
  obtain ⟨x10, q, rfl, w10, h⟩ := int_cons h
  obtain ⟨x11, q, rfl, w11, h⟩ := int_cons h
  obtain ⟨l, q, rfl, hl, hw, h⟩ := sl_cons (e := Stop.e) ht stop_of h
  obtain ⟨x12, q, rfl, w12, h⟩ := int_cons h
  obtain rfl := h.nil
  exact ⟨⟨x0, (x1, x2, x3, x4), (x5, x6, x7, x8, x9, x10), x11, l, x12⟩, rfl, w0, ⟨w1, w2, w3, w4⟩, ⟨w5, w6, w7, w8, w9, w10⟩, w11, hl, hw, w12⟩
end Go.AI
