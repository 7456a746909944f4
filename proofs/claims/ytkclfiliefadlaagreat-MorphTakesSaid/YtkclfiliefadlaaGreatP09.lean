/- Records: what is the same, what is right. -/
import Derived.Test.YtkclfiliefadlaaGreatU09
import Derived.Test.YtkclfiliefadlaaGreatP08
import Derived.Test.YtkclfiliefadlaaGreatP07
set_option linter.unusedVariables false
set_option linter.unusedSimpArgs false
set_option maxRecDepth 100000
namespace Go.AI
open Go Go.Proofs

structure Rec where
  kind : Int
  x : Int
  y : Int
  cx : Int
  cy : Int
  left : Int
  right : Int
  line : Int
  fills : List Fill
  strks : List Strk
  deriving DecidableEq
def Rec.e (r : Rec) : List PV := [.i r.kind, .i r.x, .i r.y, .i r.cx, .i r.cy, .i r.left, .i r.right, .i r.line, .l (r.fills.map Fill.e), .l (r.strks.map Strk.e)]
/-- short enough -/
def Rec.sh (r : Rec) : Prop := r.fills.length ≤ 2 ^ 40 ∧ r.strks.length ≤ 2 ^ 40 ∧ Shorts r.fills
def intE (n : Int) : List PV := [.i n]
theorem idxInt_loop {l : List Int} (hl : l.length ≤ 2 ^ 40) (a b : Int) : ∀ (rest pre : List Int), l = pre ++ rest → ∃ n : Int,
    rW f_slices_IndexFunc___int_int_ [t_int, t_int] at_slices_IndexFunc___int_int__L0 (S_slices_IndexFunc___int_int__L0 (l.map intE) l.length pre.length a b) = some ([.i n], [(t_int, [.i a]), (t_int, [.i b])]) ∧ decide (n ≥ 0) = !rest.all (inB2 a b)
  | [], pre, h => by
    refine ⟨-1, ?_, rfl⟩
    rw [w_slices_IndexFunc___int_int__L0]; simp only [el_end h, Option.bind_some, Option.bind_none, andB, orB, orB2, List.getD_cons_zero, List.getD_cons_succ, toB_b, toI_i, toS_s, toL_l, cond_true, cond_false, List.length_map]
  | x :: rest, pre, h => by
    obtain ⟨h1, h2, h3, h4, h5⟩ := el_step intE h hl
    rw [w_slices_IndexFunc___int_int__L0]
    simp only [h1, h2, h3, h4, intE, w_shape_within_1, List.all_cons, Option.bind_some, Option.bind_none, andB, orB, orB2, List.getD_cons_zero, List.getD_cons_succ, toB_b, toI_i, toS_s, toL_l, cond_true, cond_false, List.length_map]
    cases hx : (decide (x < a) || decide (x > b)) with
    | true =>
      refine ⟨_, rfl, ?_⟩
      have : inB2 a b x = false := by
        unfold inB2
        simp only [Bool.or_eq_true, decide_eq_true_eq] at hx
        simp; omega
      rw [this]; simp
    | false =>
      have : inB2 a b x = true := by
        unfold inB2
        simp only [Bool.or_eq_false_iff, decide_eq_false_iff_not] at hx
        simp; omega
      rw [this, cond_false, Bool.true_and]
      exact idxInt_loop hl a b rest _ h5
theorem within_c {l : List Int} (hl : l.length ≤ 2 ^ 40) (a b : Int) : cW f_shape_within [.i a, .i b, .l (l.map intE)] [] = some ([.b (l.all (inB2 a b))], []) := by
  obtain ⟨n, h1, h2⟩ := idxInt_loop hl a b l [] rfl
  rw [w_shape_within]
  simp only [List.length_cons, List.length_nil]
  rw [w_slices_ContainsFunc___int_int_, w_slices_IndexFunc___int_int_]
  simp only [List.length_map]
  rw [show (0 : Int) = ((([] : List Int).length : Nat) : Int) from rfl, h1]
  simp only [Option.bind_some, Option.bind_none, andB, orB, orB2, List.getD_cons_zero, List.getD_cons_succ, toB_b, toI_i, toS_s, toL_l, cond_true, cond_false, List.length_map]
  rw [show decide (n ≥ ((([] : List Int).length : Nat) : Int)) = decide (n ≥ 0) from rfl, h2, Bool.not_not]
theorem within1_c (a b x : Int) : cW f_shape_within [.i a, .i b, .l (List.set [[PV.i 0]] 0 [PV.i x])] [] = some ([.b (inB2 a b x)], []) := by
  have := within_c (l := [x]) (by show (1 : Nat) ≤ _; decide) a b
  simpa [intE] using this
theorem within2_c (a b x y : Int) : cW f_shape_within [.i a, .i b, .l (List.set (List.set [[PV.i 0], [PV.i 0]] 0 [PV.i x]) 1 [PV.i y])] [] = some ([.b (inB2 a b x && inB2 a b y)], []) := by
  have := within_c (l := [x, y]) (by show (2 : Nat) ≤ _; decide) a b
  simpa [intE] using this
theorem in_c (n a b : Int) : cW f_celluloidref09_in [.i n, .i a, .i b] [] = some ([.b (inB2 a b n)], []) := by
  rw [w_celluloidref09_in]; simp only [Option.bind_some, Option.bind_none, andB, orB, orB2, List.getD_cons_zero, List.getD_cons_succ, toB_b, toI_i, toS_s, toL_l, cond_true, cond_false, List.length_map]; rfl
/-! ### the same -/
def numsEq (a b : Rec) : Bool := (a.kind == b.kind) && ((a.x == b.x) && ((a.y == b.y) && ((a.cx == b.cx) && ((a.cy == b.cy) && ((a.left == b.left) && ((a.right == b.right) && (a.line == b.line)))))))
theorem rec_eq (a b : Rec) : decide (a = b) = (numsEq a b && (decide (a.fills = b.fills) && decide (a.strks = b.strks))) := by
  obtain ⟨a1, a2, a3, a4, a5, a6, a7, a8, a9, a10⟩ := a; obtain ⟨b1, b2, b3, b4, b5, b6, b7, b8, b9, b10⟩ := b
  unfold numsEq
  rw [Bool.eq_iff_iff]; simp [and_assoc]
def Shs (l : List Rec) : Prop := ∀ r, r ∈ l → r.sh
theorem rsame_loop {l m : List Rec} (hl : l.length ≤ 2 ^ 40) (hs : Shs l) : ∀ (r r' p p' : List Rec), l = p ++ r → m = p' ++ r' → p.length = p'.length → r.length = r'.length →
    rW f_celluloidref09_Same [] at_celluloidref09_Same_L0 (S_celluloidref09_Same_L0 (l.map Rec.e) (m.map Rec.e) p.length) = some ([.b (decide (r = r'))], [])
  | [], [], p, p', h, h', hp, hr => by
    rw [w_celluloidref09_Same_L0]; simp only [el_end h, Option.bind_some, Option.bind_none, andB, orB, orB2, List.getD_cons_zero, List.getD_cons_succ, toB_b, toI_i, toS_s, toL_l, cond_true, cond_false, List.length_map]; rfl
  | [], y :: r', p, p', h, h', hp, hr => by simp at hr
  | x :: r, [], p, p', h, h', hp, hr => by simp at hr
  | x :: r, y :: r', p, p', h, h', hp, hr => by
    have hm : m.length ≤ 2 ^ 40 := by rw [h']; rw [h] at hl; simp at hl hr ⊢; omega
    obtain ⟨h1, h2, h3, h4, h5⟩ := el_step Rec.e h hl
    obtain ⟨_, k2, k3, _, k5⟩ := el_step Rec.e h' hm
    rw [← hp] at k2 k3
    have hx := hs x (by rw [h]; simp)
    have e := sameLists_c (l := x.fills) (m := y.fills) (s := x.strks) (t := y.strks) hx.1 hx.2.2 hx.2.1
    rw [w_celluloidref09_Same_L0]
    simp only [h1, h2, h3, h4, k2, k3, Rec.e, e, Option.bind_some, Option.bind_none, andB, orB, orB2, List.getD_cons_zero, List.getD_cons_succ, toB_b, toI_i, toS_s, toL_l, cond_true, cond_false, List.length_map]
    rw [list_eq_step', rec_eq]
    have hn : ((x.kind != y.kind) || ((x.x != y.x) || ((x.y != y.y) || ((x.cx != y.cx) || ((x.cy != y.cy) || ((x.left != y.left) || ((x.right != y.right) || (x.line != y.line)))))))) = !numsEq x y := by
      unfold numsEq; simp only [bne, Bool.not_and]
    rw [hn]
    cases numsEq x y with
    | false => simp only [Bool.not_false, cond_true, Bool.false_and]
    | true =>
      rw [Bool.not_true, cond_false, Bool.true_and]
      cases h : (decide (x.fills = y.fills) && decide (x.strks = y.strks)) with
      | false => simp only [Bool.not_false, cond_true, Bool.false_and]
      | true =>
        rw [Bool.not_true, cond_false, Bool.true_and]
        exact rsame_loop hl hs r r' _ _ h5 k5 (by simp [hp]) (by simpa using hr)
theorem rsame_c {l m : List Rec} (hl : l.length ≤ 2 ^ 40) (hs : Shs l) : cW f_celluloidref09_Same [.l (l.map Rec.e), .l (m.map Rec.e)] [] = some ([.b (decide (l = m))], []) := by
  rw [w_celluloidref09_Same]
  simp only [List.length_map]
  by_cases h : l.length = m.length
  · rw [show (((l.length : Nat) : Int) != ((m.length : Nat) : Int)) = false by simp [h], cond_false]
    exact rsame_loop hl hs l m [] [] rfl rfl rfl h
  · rw [show (((l.length : Nat) : Int) != ((m.length : Nat) : Int)) = true by simp [h]; omega, cond_true]
    rw [decide_eq_false (fun e => h (by rw [e]))]
end Go.AI
set_option linter.unusedVariables false
set_option linter.unusedSimpArgs false
set_option maxRecDepth 100000
namespace Go.AI
open Go Go.Proofs

def noSt (r : Rec) : Prop := r.left = 0 ∧ r.right = 0 ∧ r.line = 0
def noLi (r : Rec) : Prop := r.fills.length = 0 ∧ r.strks.length = 0
def noCt (r : Rec) : Prop := r.cx = 0 ∧ r.cy = 0
def noPt (r : Rec) : Prop := r.x = 0 ∧ r.y = 0
def inR (a b n : Int) : Prop := a ≤ n ∧ n ≤ b
instance (r : Rec) : Decidable (noSt r) := by unfold noSt; infer_instance
instance (r : Rec) : Decidable (noLi r) := by unfold noLi; infer_instance
instance (r : Rec) : Decidable (noCt r) := by unfold noCt; infer_instance
instance (r : Rec) : Decidable (noPt r) := by unfold noPt; infer_instance
instance (a b n : Int) : Decidable (inR a b n) := by unfold inR; infer_instance
def recB (r : Rec) (f s : Int) : Bool :=
  bif r.kind == 1 then decide (noSt r ∧ noLi r ∧ noCt r ∧ inR (-1048576) 1048576 r.x ∧ inR (-1048576) 1048576 r.y)
  else bif r.kind == 2 then decide (noLi r ∧ noCt r ∧ noPt r ∧ (r.left ≥ 0 ∨ r.right ≥ 0 ∨ r.line ≥ 0) ∧ inR (-1) f r.left ∧ inR (-1) f r.right ∧ inR (-1) s r.line)
  else bif r.kind == 3 then decide (noSt r ∧ noCt r ∧ noPt r) && listsB r.fills r.strks
  else bif r.kind == 4 then decide (noSt r ∧ noLi r ∧ noCt r ∧ inR (-65536) 65535 r.x ∧ inR (-65536) 65535 r.y)
  else bif r.kind == 5 then decide (noSt r ∧ noLi r ∧ inR (-65536) 65535 r.x ∧ inR (-65536) 65535 r.y ∧ inR (-65536) 65535 r.cx ∧ inR (-65536) 65535 r.cy)
  else false
theorem inR_iff (a b n : Int) : inB2 a b n = true ↔ inR a b n := by unfold inB2 inR; simp
/-- the document's -/
theorem wrapS {a b : Nat} (ha : a ≤ 2 ^ 40) (hb : b ≤ 2 ^ 40) : decide (IntKind.wrap .i64 ((a : Int) + (b : Int)) > 0) = !(a == 0 && b == 0) := by
  have : (2 : Nat) ^ 40 = 1099511627776 := rfl
  rw [wrap64 (by omega) (by omega), Bool.eq_iff_iff]
  simp; omega
theorem one_c' (r : Rec) (h : r.sh) (f s : Int) : cW f_celluloidref09_one (r.e ++ [.i f, .i s]) [] = some ([.b (recB r f s)], []) := by
  simp only [Rec.e, List.cons_append, List.nil_append]
  rw [w_celluloidref09_one]
  simp only [in_c, qRight_c h.1 h.2.1 h.2.2, wrapS h.1 h.2.1, Option.bind_some, Option.bind_none, andB, orB, orB2, List.getD_cons_zero, List.getD_cons_succ, toB_b, toI_i, toS_s, toL_l, cond_true, cond_false, List.length_map]
  unfold recB
  cases k1 : (r.kind == 1) with
  | true =>
    simp only [cond_true]
    refine congrArg (fun b => some ([PV.b b], ([] : List BX))) ?_
    rw [Bool.eq_iff_iff]
    simp only [Bool.and_eq_true, Bool.or_eq_true, Bool.not_eq_true', Bool.or_eq_false_iff, bne_eq_false_iff_eq, Bool.not_eq_false', beq_iff_eq, decide_eq_true_eq, inR_iff]
    simp only [noSt, noLi, noCt]
  | false =>
    simp only [cond_false]
    cases k2 : (r.kind == 2) with
    | true =>
      simp only [cond_true]
      refine congrArg (fun b => some ([PV.b b], ([] : List BX))) ?_
      rw [Bool.eq_iff_iff]
      simp only [Bool.and_eq_true, Bool.or_eq_true, Bool.not_eq_true', Bool.or_eq_false_iff, bne_eq_false_iff_eq, Bool.not_eq_false', beq_iff_eq, decide_eq_true_eq, inR_iff]
      simp only [noPt, noLi, noCt]
      constructor
      · rintro ⟨d, ⟨e, g⟩, ⟨i, j⟩, k, l, m, n⟩; exact ⟨d, ⟨e, g⟩, ⟨i, j⟩, by omega, l, m, n⟩
      · rintro ⟨d, ⟨e, g⟩, ⟨i, j⟩, k, l, m, n⟩; exact ⟨d, ⟨e, g⟩, ⟨i, j⟩, by omega, l, m, n⟩
    | false =>
      simp only [cond_false]
      cases k3 : (r.kind == 3) with
      | true =>
        simp only [cond_true]
        refine congrArg (fun b => some ([PV.b b], ([] : List BX))) ?_
        rw [Bool.eq_iff_iff]
        simp only [Bool.and_eq_true, Bool.or_eq_true, Bool.not_eq_true', Bool.or_eq_false_iff, bne_eq_false_iff_eq, Bool.not_eq_false', beq_iff_eq, decide_eq_true_eq]
        simp only [noSt, noCt, noPt]
        constructor
        · rintro ⟨⟨a, b, c⟩, ⟨e, g⟩, ⟨i, j⟩, k⟩; exact ⟨⟨⟨a, b, c⟩, ⟨e, g⟩, i, j⟩, k⟩
        · rintro ⟨⟨⟨a, b, c⟩, ⟨e, g⟩, i, j⟩, k⟩; exact ⟨⟨a, b, c⟩, ⟨e, g⟩, ⟨i, j⟩, k⟩
      | false =>
        simp only [cond_false]
        cases k4 : (r.kind == 4) with
        | true =>
          simp only [cond_true]
          refine congrArg (fun b => some ([PV.b b], ([] : List BX))) ?_
          rw [Bool.eq_iff_iff]
          simp only [Bool.and_eq_true, Bool.or_eq_true, Bool.not_eq_true', Bool.or_eq_false_iff, bne_eq_false_iff_eq, Bool.not_eq_false', beq_iff_eq, decide_eq_true_eq, inR_iff]
          simp only [noSt, noLi, noCt]
        | false =>
          simp only [cond_false]
          cases k5 : (r.kind == 5) with
          | true =>
            simp only [cond_true]
            refine congrArg (fun b => some ([PV.b b], ([] : List BX))) ?_
            rw [Bool.eq_iff_iff]
            simp only [Bool.and_eq_true, Bool.or_eq_true, Bool.not_eq_true', Bool.or_eq_false_iff, bne_eq_false_iff_eq, Bool.not_eq_false', beq_iff_eq, decide_eq_true_eq, inR_iff]
            simp only [noSt, noLi]
          | false => rfl
/-! ### lists of records -/
end Go.AI
set_option linter.unusedVariables false
set_option linter.unusedSimpArgs false
set_option maxRecDepth 100000
namespace Go.AI
open Go Go.Proofs

/-- a reader of records -/
structure RS where
  σ : Rs
  fs : Int
  ss : Int
  a : Int
  b : Int
  l : List Rec
def RS.ok (x : RS) : Prop := LenOk x.σ ∧ x.l.length ≤ 100000
def plR (x : RS) (n : Int) : Int × RS := ((pl x.σ n).1, { x with σ := (pl x.σ n).2 })
def sgR (x : RS) (n : Int) : Int × RS := ((sg x.σ n).1, { x with σ := (sg x.σ n).2 })
def failX (x : RS) (e : Int) : RS := { x with σ := failR x.σ e }
def takeR (x : RS) (r : Rec) : RS := bif (x.σ.2.2 == 0) && (x.l.length == 512) then failX x 7 else { x with l := x.l ++ [r] }
theorem plR_len (x : RS) (n : Int) (h : LenOk x.σ) : LenOk (plR x n).2.σ := pl_len h n
theorem sgR_len (x : RS) (n : Int) (h : LenOk x.σ) : LenOk (sgR x n).2.σ := sg_len h n
theorem takeR_len (x : RS) (r : Rec) (h : LenOk x.σ) : LenOk (takeR x r).σ := by
  unfold takeR
  cases (x.σ.2.2 == 0) && (x.l.length == 512)
  · exact h
  · exact fail_len h 7
theorem takeR_n (x : RS) (r : Rec) : (takeR x r).l.length ≤ x.l.length + 1 := by
  unfold takeR
  cases (x.σ.2.2 == 0) && (x.l.length == 512)
  · show (x.l ++ [r]).length ≤ _; simp
  · show x.l.length ≤ _; omega
theorem plR_c (x : RS) (h : LenOk x.σ) (n : Int) : cW f___celluloid_shape_reader__plain [.u, .i n] [(t_shape_reader, [PV.s (x).σ.1, PV.i (x).σ.2.1, PV.i (x).σ.2.2, PV.i (x).fs, PV.i (x).ss, PV.i (x).a, PV.i (x).b, PV.l ((x).l.map Rec.e)])] = some ([.i (plR x n).1], [(t_shape_reader, [PV.s ((plR x n).2).σ.1, PV.i ((plR x n).2).σ.2.1, PV.i ((plR x n).2).σ.2.2, PV.i ((plR x n).2).fs, PV.i ((plR x n).2).ss, PV.i ((plR x n).2).a, PV.i ((plR x n).2).b, PV.l (((plR x n).2).l.map Rec.e)])]) := by
  rw [w___celluloid_shape_reader__plain]
  unfold plR pl
  by_cases he : x.σ.2.2 = 0
  · rw [show (x.σ.2.2 != 0) = false by simp [he], (plain_ans h x.σ.2.1 n).c, if_neg (by simp [he])]
    rfl
  · rw [show (x.σ.2.2 != 0) = true by simp [he], if_pos he]; rfl
theorem sgR_c (x : RS) (h : LenOk x.σ) (n : Int) : cW f___celluloid_shape_reader__signed [.u, .i n] [(t_shape_reader, [PV.s (x).σ.1, PV.i (x).σ.2.1, PV.i (x).σ.2.2, PV.i (x).fs, PV.i (x).ss, PV.i (x).a, PV.i (x).b, PV.l ((x).l.map Rec.e)])] = some ([.i (sgR x n).1], [(t_shape_reader, [PV.s ((sgR x n).2).σ.1, PV.i ((sgR x n).2).σ.2.1, PV.i ((sgR x n).2).σ.2.2, PV.i ((sgR x n).2).fs, PV.i ((sgR x n).2).ss, PV.i ((sgR x n).2).a, PV.i ((sgR x n).2).b, PV.l (((sgR x n).2).l.map Rec.e)])]) := by
  rw [w___celluloid_shape_reader__signed]
  unfold sgR sg
  by_cases he : x.σ.2.2 = 0
  · rw [show (x.σ.2.2 != 0) = false by simp [he], (signed_ans h x.σ.2.1 n).c, if_neg (by simp [he])]
    rfl
  · rw [show (x.σ.2.2 != 0) = true by simp [he], if_pos he]; rfl
theorem failX_c (x : RS) (e : Int) : cW f___celluloid_shape_reader__fail [.u, .i e] [(t_shape_reader, [PV.s (x).σ.1, PV.i (x).σ.2.1, PV.i (x).σ.2.2, PV.i (x).fs, PV.i (x).ss, PV.i (x).a, PV.i (x).b, PV.l ((x).l.map Rec.e)])] = some ([], [(t_shape_reader, [PV.s (failX x e).σ.1, PV.i (failX x e).σ.2.1, PV.i (failX x e).σ.2.2, PV.i (failX x e).fs, PV.i (failX x e).ss, PV.i (failX x e).a, PV.i (failX x e).b, PV.l ((failX x e).l.map Rec.e)])]) := by
  rw [w___celluloid_shape_reader__fail]
  unfold failX failR
  by_cases he : x.σ.2.2 = 0
  · rw [show (x.σ.2.2 == 0) = true by simp [he], if_pos he]; rfl
  · rw [show (x.σ.2.2 == 0) = false by simp [he], if_neg he]; rfl
theorem rec_row (l : List Rec) (r : Rec) : l.map Rec.e ++ List.set [[PV.i 0, PV.i 0, PV.i 0, PV.i 0, PV.i 0, PV.i 0, PV.i 0, PV.i 0, PV.l [], PV.l []]] 0 [PV.i r.kind, PV.i r.x, PV.i r.y, PV.i r.cx, PV.i r.cy, PV.i r.left, PV.i r.right, PV.i r.line, PV.l (r.fills.map Fill.e), PV.l (r.strks.map Strk.e)] = (l ++ [r]).map Rec.e := by
  rw [List.map_append]; rfl
theorem takeR_c (x : RS) (r : Rec) (h : x.l.length ≤ 1000000) : cW f___celluloid_shape_reader__take (.u :: r.e) [(t_shape_reader, [PV.s (x).σ.1, PV.i (x).σ.2.1, PV.i (x).σ.2.2, PV.i (x).fs, PV.i (x).ss, PV.i (x).a, PV.i (x).b, PV.l ((x).l.map Rec.e)])] = some ([], [(t_shape_reader, [PV.s (takeR x r).σ.1, PV.i (takeR x r).σ.2.1, PV.i (takeR x r).σ.2.2, PV.i (takeR x r).fs, PV.i (takeR x r).ss, PV.i (takeR x r).a, PV.i (takeR x r).b, PV.l ((takeR x r).l.map Rec.e)])]) := by
  simp only [Rec.e]
  rw [w___celluloid_shape_reader__take]
  simp only [failX_c, Option.bind_some, Option.bind_none, andB, orB, orB2, List.getD_cons_zero, List.getD_cons_succ, toB_b, toI_i, toS_s, toL_l, cond_true, cond_false, List.length_map]
  unfold takeR
  have e : (((x.l.length : Nat) : Int) == 512) = (x.l.length == 512) := by rw [Bool.eq_iff_iff]; simp; omega
  rw [e, rec_row, room1 _ _ (by omega)]
  cases (x.σ.2.2 == 0) && (x.l.length == 512) <;> rfl
def lineRec (x y : Int) : Rec := ⟨4, x, y, 0, 0, 0, 0, 0, [], []⟩
def edgeR (x : RS) : RS :=
  let s := plR x 1
  let m := plR s.2 4
  let n := m.1 + 2
  bif !(s.1 == 1) then
    let c1 := sgR m.2 n; let c2 := sgR c1.2 n; let c3 := sgR c2.2 n; let c4 := sgR c3.2 n
    takeR c4.2 ⟨5, c3.1, c4.1, c1.1, c2.1, 0, 0, 0, [], []⟩
  else
    let t := plR m.2 1
    bif t.1 == 1 then
      let p := sgR t.2 n; let q := sgR p.2 n
      takeR q.2 (lineRec p.1 q.1)
    else
      let u := plR t.2 1
      let p := sgR u.2 n
      bif u.1 == 1 then takeR p.2 (lineRec 0 p.1) else takeR p.2 (lineRec p.1 0)
theorem pl_rng (σ : Rs) (n : Nat) (hn : n ≤ 31) : 0 ≤ (pl σ n).1 ∧ (pl σ n).1 < 2 ^ n := by
  have hp : (0 : Int) < 2 ^ n := Int.pow_pos (by decide)
  unfold pl
  split
  · exact ⟨Int.le_refl _, hp⟩
  · rcases plainF_cases σ.1 σ.2.1 n with e | e | ⟨a, m, ha, hm, _, _, e⟩ <;> rw [e]
    · exact ⟨Int.le_refl _, hp⟩
    · exact ⟨Int.le_refl _, hp⟩
    · have := fieldN_lt σ.1 a m
      have hm' : n = m := by omega
      subst hm'
      exact ⟨Int.natCast_nonneg _, by show ((fieldN σ.1 a n : Nat) : Int) < 2 ^ n; exact_mod_cast this⟩
theorem edge_c (x : RS) (h : x.ok) : cW f___celluloid_shape_reader__edge [.u] [(t_shape_reader, [PV.s (x).σ.1, PV.i (x).σ.2.1, PV.i (x).σ.2.2, PV.i (x).fs, PV.i (x).ss, PV.i (x).a, PV.i (x).b, PV.l ((x).l.map Rec.e)])] = some ([], [(t_shape_reader, [PV.s (edgeR x).σ.1, PV.i (edgeR x).σ.2.1, PV.i (edgeR x).σ.2.2, PV.i (edgeR x).fs, PV.i (edgeR x).ss, PV.i (edgeR x).a, PV.i (edgeR x).b, PV.l ((edgeR x).l.map Rec.e)])]) := by
  have h1 := plR_len x 1 h.1
  have h2 := plR_len _ 4 h1
  have r4 := pl_rng (plR x 1).2.σ 4 (by decide)
  have hw : IntKind.wrap .i64 ((plR (plR x 1).2 4).1 + 2) = (plR (plR x 1).2 4).1 + 2 := by
    have : (plR (plR x 1).2 4).1 < 16 := r4.2
    have : 0 ≤ (plR (plR x 1).2 4).1 := r4.1
    exact wrap64 (by omega) (by omega)
  have hl : ∀ y : RS, y.l = x.l → y.l.length ≤ 1000000 := fun y e => by rw [e]; have := h.2; omega
  rw [w___celluloid_shape_reader__edge]
  unfold edgeR
  simp only [plR_c x h.1, plR_c _ h1, hw, Option.bind_some, Option.bind_none, andB, orB, orB2, List.getD_cons_zero, List.getD_cons_succ, toB_b, toI_i, toS_s, toL_l, cond_true, cond_false, List.length_map]
  cases ((plR x 1).1 == 1) with
  | false =>
    have g1 := sgR_len _ ((plR (plR x 1).2 4).1 + 2) h2
    have g2 := sgR_len _ ((plR (plR x 1).2 4).1 + 2) g1
    have g3 := sgR_len _ ((plR (plR x 1).2 4).1 + 2) g2
    have e := takeR_c (sgR (sgR (sgR (sgR (plR (plR x 1).2 4).2 ((plR (plR x 1).2 4).1 + 2)).2 ((plR (plR x 1).2 4).1 + 2)).2 ((plR (plR x 1).2 4).1 + 2)).2 ((plR (plR x 1).2 4).1 + 2)).2 ⟨5, (sgR (sgR (sgR (plR (plR x 1).2 4).2 ((plR (plR x 1).2 4).1 + 2)).2 ((plR (plR x 1).2 4).1 + 2)).2 ((plR (plR x 1).2 4).1 + 2)).1, (sgR (sgR (sgR (sgR (plR (plR x 1).2 4).2 ((plR (plR x 1).2 4).1 + 2)).2 ((plR (plR x 1).2 4).1 + 2)).2 ((plR (plR x 1).2 4).1 + 2)).2 ((plR (plR x 1).2 4).1 + 2)).1, (sgR (plR (plR x 1).2 4).2 ((plR (plR x 1).2 4).1 + 2)).1, (sgR (sgR (plR (plR x 1).2 4).2 ((plR (plR x 1).2 4).1 + 2)).2 ((plR (plR x 1).2 4).1 + 2)).1, 0, 0, 0, [], []⟩ (hl _ rfl)
    simp only [Rec.e, List.map_nil] at e
    simp only [sgR_c _ h2, sgR_c _ g1, sgR_c _ g2, sgR_c _ g3, e, Bool.and_true, Bool.true_and, Bool.and_false, Bool.false_and, Bool.or_true, Bool.true_or, Bool.or_false, Bool.false_or, Bool.not_true, Bool.not_false, Option.bind_some, Option.bind_none, andB, orB, orB2, List.getD_cons_zero, List.getD_cons_succ, toB_b, toI_i, toS_s, toL_l, cond_true, cond_false, List.length_map]
  | true =>
    have h3 := plR_len _ 1 h2
    simp only [plR_c _ h2, Bool.and_true, Bool.true_and, Bool.and_false, Bool.false_and, Bool.or_true, Bool.true_or, Bool.or_false, Bool.false_or, Bool.not_true, Bool.not_false, Option.bind_some, Option.bind_none, andB, orB, orB2, List.getD_cons_zero, List.getD_cons_succ, toB_b, toI_i, toS_s, toL_l, cond_true, cond_false, List.length_map]
    cases ((plR (plR (plR x 1).2 4).2 1).1 == 1) with
    | true =>
      have g1 := sgR_len _ ((plR (plR x 1).2 4).1 + 2) h3
      have e := takeR_c (sgR (sgR (plR (plR (plR x 1).2 4).2 1).2 ((plR (plR x 1).2 4).1 + 2)).2 ((plR (plR x 1).2 4).1 + 2)).2 (lineRec (sgR (plR (plR (plR x 1).2 4).2 1).2 ((plR (plR x 1).2 4).1 + 2)).1 (sgR (sgR (plR (plR (plR x 1).2 4).2 1).2 ((plR (plR x 1).2 4).1 + 2)).2 ((plR (plR x 1).2 4).1 + 2)).1) (hl _ rfl)
      simp only [Rec.e, lineRec, List.map_nil] at e
      simp only [sgR_c _ h3, sgR_c _ g1, e, lineRec, Bool.and_true, Bool.true_and, Bool.and_false, Bool.false_and, Bool.or_true, Bool.true_or, Bool.or_false, Bool.false_or, Bool.not_true, Bool.not_false, Option.bind_some, Option.bind_none, andB, orB, orB2, List.getD_cons_zero, List.getD_cons_succ, toB_b, toI_i, toS_s, toL_l, cond_true, cond_false, List.length_map]
    | false =>
      have h4 := plR_len _ 1 h3
      simp only [plR_c _ h3, Bool.and_true, Bool.true_and, Bool.and_false, Bool.false_and, Bool.or_true, Bool.true_or, Bool.or_false, Bool.false_or, Bool.not_true, Bool.not_false, Option.bind_some, Option.bind_none, andB, orB, orB2, List.getD_cons_zero, List.getD_cons_succ, toB_b, toI_i, toS_s, toL_l, cond_true, cond_false, List.length_map]
      have e1 := takeR_c (sgR (plR (plR (plR (plR x 1).2 4).2 1).2 1).2 ((plR (plR x 1).2 4).1 + 2)).2 (lineRec 0 (sgR (plR (plR (plR (plR x 1).2 4).2 1).2 1).2 ((plR (plR x 1).2 4).1 + 2)).1) (hl _ rfl)
      have e2 := takeR_c (sgR (plR (plR (plR (plR x 1).2 4).2 1).2 1).2 ((plR (plR x 1).2 4).1 + 2)).2 (lineRec (sgR (plR (plR (plR (plR x 1).2 4).2 1).2 1).2 ((plR (plR x 1).2 4).1 + 2)).1 0) (hl _ rfl)
      simp only [Rec.e, lineRec, List.map_nil] at e1 e2
      cases ((plR (plR (plR (plR x 1).2 4).2 1).2 1).1 == 1) with
      | true => simp only [sgR_c _ h4, e1, lineRec, Bool.and_true, Bool.true_and, Bool.and_false, Bool.false_and, Bool.or_true, Bool.true_or, Bool.or_false, Bool.false_or, Bool.not_true, Bool.not_false, Option.bind_some, Option.bind_none, andB, orB, orB2, List.getD_cons_zero, List.getD_cons_succ, toB_b, toI_i, toS_s, toL_l, cond_true, cond_false, List.length_map]
      | false => simp only [sgR_c _ h4, e2, lineRec, Bool.and_true, Bool.true_and, Bool.and_false, Bool.false_and, Bool.or_true, Bool.true_or, Bool.or_false, Bool.false_or, Bool.not_true, Bool.not_false, Option.bind_some, Option.bind_none, andB, orB, orB2, List.getD_cons_zero, List.getD_cons_succ, toB_b, toI_i, toS_s, toL_l, cond_true, cond_false, List.length_map]
def freshRec (l : List Fill) (m : List Strk) : Rec := ⟨3, 0, 0, 0, 0, 0, 0, 0, l, m⟩
def freshR (x : RS) : RS :=
  bif x.σ.2.2 != 0 then x else
    let t := takeF x.σ.1 x.σ.2.1
    let y : RS := { x with σ := t.2.2, fs := t.1.length, ss := t.2.1.length }
    let p := plR y 4
    let q := plR p.2 4
    takeR { q.2 with a := p.1, b := q.1 } (freshRec t.1 t.2.1)
theorem takeF_len {s : List UInt8} (h : s.length ≤ 2 ^ 40) (a : Int) : LenOk (takeF s a).2.2 := by
  have hσ : LenOk (s, a, 0) := h
  unfold takeF finT
  split
  · exact Nat.zero_le _
  · exact strksP_len _ _ (many_len (fillsP_len _ _ (many_len hσ)))
theorem fresh_c (x : RS) (h : x.ok) : cW f___celluloid_shape_reader__fresh [.u] [(t_shape_reader, [PV.s (x).σ.1, PV.i (x).σ.2.1, PV.i (x).σ.2.2, PV.i (x).fs, PV.i (x).ss, PV.i (x).a, PV.i (x).b, PV.l ((x).l.map Rec.e)])] = some ([], [(t_shape_reader, [PV.s (freshR x).σ.1, PV.i (freshR x).σ.2.1, PV.i (freshR x).σ.2.2, PV.i (freshR x).fs, PV.i (freshR x).ss, PV.i (freshR x).a, PV.i (freshR x).b, PV.l ((freshR x).l.map Rec.e)])]) := by
  rw [w___celluloid_shape_reader__fresh]
  unfold freshR
  cases he : (x.σ.2.2 != 0) with
  | true => rfl
  | false =>
    have ht := takeF_len h.1 x.σ.2.1
    have e1 := plR_c { x with σ := (takeF x.σ.1 x.σ.2.1).2.2, fs := (takeF x.σ.1 x.σ.2.1).1.length, ss := (takeF x.σ.1 x.σ.2.1).2.1.length } ht 4
    have h2 := plR_len { x with σ := (takeF x.σ.1 x.σ.2.1).2.2, fs := (takeF x.σ.1 x.σ.2.1).1.length, ss := (takeF x.σ.1 x.σ.2.1).2.1.length } 4 ht
    have e2 := plR_c _ h2 4
    have e3 := takeR_c { (plR (plR { x with σ := (takeF x.σ.1 x.σ.2.1).2.2, fs := (takeF x.σ.1 x.σ.2.1).1.length, ss := (takeF x.σ.1 x.σ.2.1).2.1.length } 4).2 4).2 with a := (plR { x with σ := (takeF x.σ.1 x.σ.2.1).2.2, fs := (takeF x.σ.1 x.σ.2.1).1.length, ss := (takeF x.σ.1 x.σ.2.1).2.1.length } 4).1, b := (plR (plR { x with σ := (takeF x.σ.1 x.σ.2.1).2.2, fs := (takeF x.σ.1 x.σ.2.1).1.length, ss := (takeF x.σ.1 x.σ.2.1).2.1.length } 4).2 4).1 } (freshRec (takeF x.σ.1 x.σ.2.1).1 (takeF x.σ.1 x.σ.2.1).2.1) (by have := h.2; show x.l.length ≤ _; omega)
    simp only [Rec.e, freshRec] at e3
    simp only [cond_false, Take_c h.1, encT, e1, e2, e3, freshRec, Option.bind_some, Option.bind_none, andB, orB, orB2, List.getD_cons_zero, List.getD_cons_succ, toB_b, toI_i, toS_s, toL_l, cond_true, cond_false, List.length_map]
end Go.AI
set_option linter.unusedVariables false
set_option linter.unusedSimpArgs false
set_option maxRecDepth 100000
namespace Go.AI
open Go Go.Proofs

def bitB (f : Int) (k : Nat) : Bool := f / 2 ^ k % 2 == 1
def anyB (f : Int) : Bool := bitB f 1 || (bitB f 2 || bitB f 3)
theorem flag_bits {f : Int} (h0 : 0 ≤ f) (h1 : f < 32) : (bitsOp .and .i64 f 1 != 0) = bitB f 0 ∧ (bitsOp .and .i64 f 2 != 0) = bitB f 1 ∧ (bitsOp .and .i64 f 4 != 0) = bitB f 2 ∧ (bitsOp .and .i64 f 8 != 0) = bitB f 3 ∧ (bitsOp .and .i64 f 16 != 0) = bitB f 4 ∧ (bitsOp .and .i64 f 14 != 0) = anyB f := by
  have : ∀ k : Fin 32, (bitsOp .and .i64 ((k.1 : Nat) : Int) 1 != 0) = bitB ((k.1 : Nat) : Int) 0 ∧ (bitsOp .and .i64 ((k.1 : Nat) : Int) 2 != 0) = bitB ((k.1 : Nat) : Int) 1 ∧ (bitsOp .and .i64 ((k.1 : Nat) : Int) 4 != 0) = bitB ((k.1 : Nat) : Int) 2 ∧ (bitsOp .and .i64 ((k.1 : Nat) : Int) 8 != 0) = bitB ((k.1 : Nat) : Int) 3 ∧ (bitsOp .and .i64 ((k.1 : Nat) : Int) 16 != 0) = bitB ((k.1 : Nat) : Int) 4 ∧ (bitsOp .and .i64 ((k.1 : Nat) : Int) 14 != 0) = anyB ((k.1 : Nat) : Int) := by decide +kernel
  have := this ⟨f.toNat, by omega⟩
  rwa [show ((f.toNat : Nat) : Int) = f by omega] at this
def moveRec (x y : Int) : Rec := ⟨1, x, y, 0, 0, 0, 0, 0, [], []⟩
def setRec (l r n : Int) : Rec := ⟨2, 0, 0, 0, 0, l, r, n, [], []⟩
/-- the parts of several -/
def mvR (x : RS) (f : Int) : (Int × Int) × RS := bif bitB f 0 then (((sgR (plR x 5).2 (plR x 5).1).1, (sgR (sgR (plR x 5).2 (plR x 5).1).2 (plR x 5).1).1), (sgR (sgR (plR x 5).2 (plR x 5).1).2 (plR x 5).1).2) else ((0, 0), x)
def stR (c : Bool) (x : RS) (n : Int) : Int × RS := bif c then plR x n else (-1, x)
def chR (x : RS) (mx my l r n : Int) : RS := bif (x.σ.2.2 == 0) && (!(inB2 (-1048576) 1048576 mx && inB2 (-1048576) 1048576 my) || (decide ((bif decide (r > l) then r else l) > x.fs) || decide (n > x.ss))) then failX x 3 else x
def endR (x : RS) (f mx my l r n : Int) : RS :=
  let y := bif bitB f 0 then takeR x (moveRec mx my) else x
  bif anyB f then takeR y (setRec l r n) else y
def s4R (x : RS) (f mx my l r n : Int) : RS := endR (chR (bif bitB f 4 then freshR x else x) mx my l r n) f mx my l r n
def s3R (x : RS) (f mx my l r : Int) : RS := s4R (stR (bitB f 3) x x.b).2 f mx my l r (stR (bitB f 3) x x.b).1
def s2R (x : RS) (f mx my l : Int) : RS := s3R (stR (bitB f 2) x x.a).2 f mx my l (stR (bitB f 2) x x.a).1
def s1R (x : RS) (f mx my : Int) : RS := s2R (stR (bitB f 1) x x.a).2 f mx my (stR (bitB f 1) x x.a).1
def sevR (x : RS) (f kind : Int) : RS := bif (bitB f 4 && (kind != 0)) || (anyB f && (kind == 2)) then failX x 3 else s1R (mvR x f).2 f (mvR x f).1.1 (mvR x f).1.2
theorem stR_ok {c : Bool} {x : RS} (h : x.ok) (n : Int) : (stR c x n).2.ok := by
  unfold stR; cases c
  · exact h
  · exact ⟨plR_len x n h.1, h.2⟩
theorem mvR_ok {x : RS} (h : x.ok) (f : Int) : (mvR x f).2.ok := by
  unfold mvR; cases bitB f 0
  · exact h
  · exact ⟨sgR_len _ _ (sgR_len _ _ (plR_len _ _ h.1)), h.2⟩
theorem freshR_len {x : RS} (h : LenOk x.σ) : LenOk (freshR x).σ := by
  unfold freshR
  cases x.σ.2.2 != 0
  · refine takeR_len _ _ ?_
    exact plR_len _ _ (plR_len _ _ (takeF_len h x.σ.2.1))
  · exact h
theorem freshR_n (x : RS) : (freshR x).l.length ≤ x.l.length + 1 := by
  unfold freshR
  cases x.σ.2.2 != 0
  · exact takeR_n _ _
  · show x.l.length ≤ _; omega
theorem end_c (x : RS) (h : x.l.length ≤ 100010) {f : Int} (h0 : 0 ≤ f) (h1 : f < 32) (mx my l r n : Int) :
    rW f___celluloid_shape_reader__several [t_shape_reader] at___celluloid_shape_reader__several_C17 (S___celluloid_shape_reader__several_C17 f (x.l.map Rec.e) x.σ.1 x.σ.2.1 x.σ.2.2 x.fs x.ss x.a x.b [] [] 1 mx my 0 0 0 0 0 [] [] 2 0 0 0 0 l r n) = some ([], [(t_shape_reader, [PV.s (endR x f mx my l r n).σ.1, PV.i (endR x f mx my l r n).σ.2.1, PV.i (endR x f mx my l r n).σ.2.2, PV.i (endR x f mx my l r n).fs, PV.i (endR x f mx my l r n).ss, PV.i (endR x f mx my l r n).a, PV.i (endR x f mx my l r n).b, PV.l ((endR x f mx my l r n).l.map Rec.e)])]) := by
  obtain ⟨b1, _, _, _, _, b14⟩ := flag_bits h0 h1
  have tail : ∀ y : RS, y.l.length ≤ 1000000 → rW f___celluloid_shape_reader__several [t_shape_reader] at___celluloid_shape_reader__several_C19 (S___celluloid_shape_reader__several_C19 f (y.l.map Rec.e) y.σ.1 y.σ.2.1 y.σ.2.2 y.fs y.ss y.a y.b [] [] 2 0 0 0 0 l r n) = some ([], [(t_shape_reader, [PV.s (bif anyB f then takeR y (setRec l r n) else y).σ.1, PV.i (bif anyB f then takeR y (setRec l r n) else y).σ.2.1, PV.i (bif anyB f then takeR y (setRec l r n) else y).σ.2.2, PV.i (bif anyB f then takeR y (setRec l r n) else y).fs, PV.i (bif anyB f then takeR y (setRec l r n) else y).ss, PV.i (bif anyB f then takeR y (setRec l r n) else y).a, PV.i (bif anyB f then takeR y (setRec l r n) else y).b, PV.l ((bif anyB f then takeR y (setRec l r n) else y).l.map Rec.e)])]) := by
    intro y hy
    have e := takeR_c y (setRec l r n) hy
    simp only [Rec.e, setRec, List.map_nil] at e
    rw [w___celluloid_shape_reader__several_C19, b14]
    cases anyB f with
    | true => simp only [e, setRec, Option.bind_some, Option.bind_none, andB, orB, orB2, List.getD_cons_zero, List.getD_cons_succ, toB_b, toI_i, toS_s, toL_l, cond_true, cond_false, List.length_map]
    | false => rfl
  have e := takeR_c x (moveRec mx my) (by omega)
  simp only [Rec.e, moveRec, List.map_nil] at e
  rw [w___celluloid_shape_reader__several_C17, b1]
  unfold endR
  cases bitB f 0 with
  | true =>
    simp only [e, Option.bind_some, Option.bind_none, andB, orB, orB2, List.getD_cons_zero, List.getD_cons_succ, toB_b, toI_i, toS_s, toL_l, cond_true, cond_false, List.length_map]
    exact tail _ (by have := takeR_n x (moveRec mx my); show (takeR x (moveRec mx my)).l.length ≤ _; omega)
  | false => exact tail x (by omega)
theorem s4_c (x : RS) (h : x.ok) {f : Int} (h0 : 0 ≤ f) (h1 : f < 32) (mx my l r n : Int) :
    rW f___celluloid_shape_reader__several [t_shape_reader] at___celluloid_shape_reader__several_C13 (S___celluloid_shape_reader__several_C13 f (x.l.map Rec.e) x.σ.1 x.σ.2.1 x.σ.2.2 x.fs x.ss x.a x.b [] [] 1 mx my 0 0 0 0 0 [] [] 2 0 0 0 0 l r n) = some ([], [(t_shape_reader, [PV.s (s4R x f mx my l r n).σ.1, PV.i (s4R x f mx my l r n).σ.2.1, PV.i (s4R x f mx my l r n).σ.2.2, PV.i (s4R x f mx my l r n).fs, PV.i (s4R x f mx my l r n).ss, PV.i (s4R x f mx my l r n).a, PV.i (s4R x f mx my l r n).b, PV.l ((s4R x f mx my l r n).l.map Rec.e)])]) := by
  obtain ⟨_, _, _, _, b16, _⟩ := flag_bits h0 h1
  have tail : ∀ y : RS, y.l.length ≤ 100005 → rW f___celluloid_shape_reader__several [t_shape_reader] at___celluloid_shape_reader__several_C15 (S___celluloid_shape_reader__several_C15 f (y.l.map Rec.e) y.σ.1 y.σ.2.1 y.σ.2.2 y.fs y.ss y.a y.b [] [] 1 mx my 0 0 0 0 0 [] [] 2 0 0 0 0 l r n) = some ([], [(t_shape_reader, [PV.s (endR (chR y mx my l r n) f mx my l r n).σ.1, PV.i (endR (chR y mx my l r n) f mx my l r n).σ.2.1, PV.i (endR (chR y mx my l r n) f mx my l r n).σ.2.2, PV.i (endR (chR y mx my l r n) f mx my l r n).fs, PV.i (endR (chR y mx my l r n) f mx my l r n).ss, PV.i (endR (chR y mx my l r n) f mx my l r n).a, PV.i (endR (chR y mx my l r n) f mx my l r n).b, PV.l ((endR (chR y mx my l r n) f mx my l r n).l.map Rec.e)])]) := by
    intro y hy
    rw [w___celluloid_shape_reader__several_C15]
    simp only [within2_c, failX_c, Option.bind_some, Option.bind_none, andB, orB, orB2, List.getD_cons_zero, List.getD_cons_succ, toB_b, toI_i, toS_s, toL_l, cond_true, cond_false, List.length_map]
    unfold chR
    cases ((y.σ.2.2 == 0) && (!(inB2 (-1048576) 1048576 mx && inB2 (-1048576) 1048576 my) || (decide ((bif decide (r > l) then r else l) > y.fs) || decide (n > y.ss)))) with
    | true => exact end_c (failX y 3) (by show y.l.length ≤ _; omega) h0 h1 mx my l r n
    | false => exact end_c y (by omega) h0 h1 mx my l r n
  rw [w___celluloid_shape_reader__several_C13, b16]
  unfold s4R
  cases bitB f 4 with
  | true =>
    simp only [fresh_c x h, Option.bind_some, Option.bind_none, andB, orB, orB2, List.getD_cons_zero, List.getD_cons_succ, toB_b, toI_i, toS_s, toL_l, cond_true, cond_false, List.length_map]
    exact tail (freshR x) (by have := freshR_n x; have := h.2; omega)
  | false => exact tail x (by have := h.2; omega)
theorem s3_c (x : RS) (h : x.ok) {f : Int} (h0 : 0 ≤ f) (h1 : f < 32) (mx my l r : Int) :
    rW f___celluloid_shape_reader__several [t_shape_reader] at___celluloid_shape_reader__several_C11 (S___celluloid_shape_reader__several_C11 f (x.l.map Rec.e) x.σ.1 x.σ.2.1 x.σ.2.2 x.fs x.ss x.a x.b [] [] 1 mx my 0 0 0 0 0 [] [] 2 0 0 0 0 l r (-1)) = some ([], [(t_shape_reader, [PV.s (s3R x f mx my l r).σ.1, PV.i (s3R x f mx my l r).σ.2.1, PV.i (s3R x f mx my l r).σ.2.2, PV.i (s3R x f mx my l r).fs, PV.i (s3R x f mx my l r).ss, PV.i (s3R x f mx my l r).a, PV.i (s3R x f mx my l r).b, PV.l ((s3R x f mx my l r).l.map Rec.e)])]) := by
  obtain ⟨_, _, _, b8, _, _⟩ := flag_bits h0 h1
  have ho := stR_ok (c := bitB f 3) h x.b
  have e := s4_c (stR (bitB f 3) x x.b).2 ho h0 h1 mx my l r (stR (bitB f 3) x x.b).1
  rw [w___celluloid_shape_reader__several_C11, b8]
  unfold s3R
  unfold stR at e ⊢
  cases hc : bitB f 3 with
  | true =>
    rw [hc] at e
    simp only [plR_c x h.1, Option.bind_some, Option.bind_none, andB, orB, orB2, List.getD_cons_zero, List.getD_cons_succ, toB_b, toI_i, toS_s, toL_l, cond_true, cond_false, List.length_map]
    exact e
  | false => rw [hc] at e; exact e
theorem s2_c (x : RS) (h : x.ok) {f : Int} (h0 : 0 ≤ f) (h1 : f < 32) (mx my l : Int) :
    rW f___celluloid_shape_reader__several [t_shape_reader] at___celluloid_shape_reader__several_C9 (S___celluloid_shape_reader__several_C9 f (x.l.map Rec.e) x.σ.1 x.σ.2.1 x.σ.2.2 x.fs x.ss x.a x.b [] [] 1 mx my 0 0 0 0 0 [] [] 2 0 0 0 0 l (-1) (-1)) = some ([], [(t_shape_reader, [PV.s (s2R x f mx my l).σ.1, PV.i (s2R x f mx my l).σ.2.1, PV.i (s2R x f mx my l).σ.2.2, PV.i (s2R x f mx my l).fs, PV.i (s2R x f mx my l).ss, PV.i (s2R x f mx my l).a, PV.i (s2R x f mx my l).b, PV.l ((s2R x f mx my l).l.map Rec.e)])]) := by
  obtain ⟨_, _, b4, _, _, _⟩ := flag_bits h0 h1
  have ho := stR_ok (c := bitB f 2) h x.a
  have e := s3_c (stR (bitB f 2) x x.a).2 ho h0 h1 mx my l (stR (bitB f 2) x x.a).1
  rw [w___celluloid_shape_reader__several_C9, b4]
  unfold s2R
  unfold stR at e ⊢
  cases hc : bitB f 2 with
  | true =>
    rw [hc] at e
    simp only [plR_c x h.1, Option.bind_some, Option.bind_none, andB, orB, orB2, List.getD_cons_zero, List.getD_cons_succ, toB_b, toI_i, toS_s, toL_l, cond_true, cond_false, List.length_map]
    exact e
  | false => rw [hc] at e; exact e
theorem s1_c (x : RS) (h : x.ok) {f : Int} (h0 : 0 ≤ f) (h1 : f < 32) (mx my : Int) :
    rW f___celluloid_shape_reader__several [t_shape_reader] at___celluloid_shape_reader__several_C6 (S___celluloid_shape_reader__several_C6 f (x.l.map Rec.e) x.σ.1 x.σ.2.1 x.σ.2.2 x.fs x.ss x.a x.b [] [] 1 mx my 0 0 0 0 0) = some ([], [(t_shape_reader, [PV.s (s1R x f mx my).σ.1, PV.i (s1R x f mx my).σ.2.1, PV.i (s1R x f mx my).σ.2.2, PV.i (s1R x f mx my).fs, PV.i (s1R x f mx my).ss, PV.i (s1R x f mx my).a, PV.i (s1R x f mx my).b, PV.l ((s1R x f mx my).l.map Rec.e)])]) := by
  obtain ⟨_, b2, _, _, _, _⟩ := flag_bits h0 h1
  have ho := stR_ok (c := bitB f 1) h x.a
  have e := s2_c (stR (bitB f 1) x x.a).2 ho h0 h1 mx my (stR (bitB f 1) x x.a).1
  rw [w___celluloid_shape_reader__several_C6, b2]
  unfold s1R
  unfold stR at e ⊢
  cases hc : bitB f 1 with
  | true =>
    rw [hc] at e
    simp only [plR_c x h.1, Option.bind_some, Option.bind_none, andB, orB, orB2, List.getD_cons_zero, List.getD_cons_succ, toB_b, toI_i, toS_s, toL_l, cond_true, cond_false, List.length_map]
    exact e
  | false => rw [hc] at e; exact e
theorem sev_c (x : RS) (h : x.ok) {f : Int} (h0 : 0 ≤ f) (h1 : f < 32) (kind : Int) : cW f___celluloid_shape_reader__several [.u, .i f, .i kind] [(t_shape_reader, [PV.s (x).σ.1, PV.i (x).σ.2.1, PV.i (x).σ.2.2, PV.i (x).fs, PV.i (x).ss, PV.i (x).a, PV.i (x).b, PV.l ((x).l.map Rec.e)])] = some ([], [(t_shape_reader, [PV.s (sevR x f kind).σ.1, PV.i (sevR x f kind).σ.2.1, PV.i (sevR x f kind).σ.2.2, PV.i (sevR x f kind).fs, PV.i (sevR x f kind).ss, PV.i (sevR x f kind).a, PV.i (sevR x f kind).b, PV.l ((sevR x f kind).l.map Rec.e)])]) := by
  obtain ⟨b1, _, _, _, b16, b14⟩ := flag_bits h0 h1
  have ho := mvR_ok h f
  have e := s1_c (mvR x f).2 ho h0 h1 (mvR x f).1.1 (mvR x f).1.2
  rw [w___celluloid_shape_reader__several, b16, b14, b1]
  unfold sevR
  have hc : ∀ b c : Bool, ((bif b then (bif (kind != 0) then some [PV.b true] else (bif c then some [PV.b (kind == 2)] else some [PV.b false])) else (bif c then some [PV.b (kind == 2)] else some [PV.b false])) : Option (List PV)) = some [PV.b ((b && (kind != 0)) || (c && (kind == 2)))] := by
    intro b c; cases b <;> cases c <;> cases (kind != 0) <;> cases (kind == 2) <;> rfl
  rw [hc]
  simp only [Option.bind_some, Option.bind_none, andB, orB, orB2, List.getD_cons_zero, List.getD_cons_succ, toB_b, toI_i, toS_s, toL_l, cond_true, cond_false, List.length_map]
  cases ((bitB f 4 && (kind != 0)) || (anyB f && (kind == 2))) with
  | true => simp only [failX_c, Option.bind_some, Option.bind_none, andB, orB, orB2, List.getD_cons_zero, List.getD_cons_succ, toB_b, toI_i, toS_s, toL_l, cond_true, cond_false, List.length_map]
  | false =>
    have g1 := plR_len x 5 h.1
    have g2 := sgR_len (plR x 5).2 (plR x 5).1 g1
    unfold mvR at e ⊢
    cases hb : bitB f 0 with
    | true =>
      rw [hb] at e
      simp only [plR_c x h.1, sgR_c _ g1, sgR_c _ g2, Option.bind_some, Option.bind_none, andB, orB, orB2, List.getD_cons_zero, List.getD_cons_succ, toB_b, toI_i, toS_s, toL_l, cond_true, cond_false, List.length_map]
      exact e
    | false => rw [hb] at e; exact e
/-- the records, by rounds -/
def loopR (kind : Int) : Nat → RS → RS
  | 0, x => x
  | n + 1, x => bif x.σ.2.2 == 0 then
      (bif (plR x 1).1 == 1 then loopR kind n (edgeR (plR x 1).2)
       else bif (plR (plR x 1).2 5).1 == 0 then (plR (plR x 1).2 5).2
       else loopR kind n (sevR (plR (plR x 1).2 5).2 (plR (plR x 1).2 5).1 kind))
    else x
end Go.AI
set_option linter.unusedVariables false
set_option linter.unusedSimpArgs false
set_option maxRecDepth 100000
namespace Go.AI
open Go Go.Proofs

/-- what went on well went on forward -/
def Adv (σ τ : Rs) : Prop := τ.2.2 = 0 → σ.2.2 = 0 ∧ τ.1 = σ.1 ∧ σ.2.1 ≤ τ.2.1
theorem Adv.refl (σ : Rs) : Adv σ σ := fun h => ⟨h, rfl, Int.le_refl _⟩
theorem Adv.trans {σ τ ρ : Rs} (h : Adv σ τ) (k : Adv τ ρ) : Adv σ ρ := fun e => by
  obtain ⟨a, b, c⟩ := k e
  obtain ⟨a', b', c'⟩ := h a
  exact ⟨a', b.trans b', Int.le_trans c' c⟩
theorem pl_adv (σ : Rs) (n : Int) : Adv σ (pl σ n).2 := fun e => by
  obtain ⟨h1, h2, N, v, hn, _, _, _, hp⟩ := pl_val e
  rw [hp]; exact ⟨h1, rfl, by show σ.2.1 ≤ σ.2.1 + N; omega⟩
theorem pl_adv1 {σ : Rs} {n : Int} (hn : 0 < n) (e : (pl σ n).2.2.2 = 0) : σ.2.2 = 0 ∧ (pl σ n).2.1 = σ.1 ∧ σ.2.1 + n = (pl σ n).2.2.1 ∧ σ.2.1 + n ≤ 8 * (σ.1.length : Int) := by
  obtain ⟨h1, h2, N, v, hn', _, _, hl, hp⟩ := pl_val e
  rw [hp]; exact ⟨h1, rfl, by show σ.2.1 + n = σ.2.1 + N; omega, by omega⟩
theorem sg_adv (σ : Rs) (n : Int) : Adv σ (sg σ n).2 := fun e => by
  obtain ⟨h1, h2, N, hn, _, _, _, hp⟩ := sg_val e
  rw [hp]; exact ⟨h1, rfl, by show σ.2.1 ≤ σ.2.1 + N; omega⟩
theorem fail_adv (σ τ : Rs) {e : Int} (he : e ≠ 0) : Adv σ (failR τ e) := fun h => absurd h (failR_ne he)
theorem takeR_adv (x : RS) (r : Rec) : Adv x.σ (takeR x r).σ := by
  unfold takeR
  cases (x.σ.2.2 == 0) && (x.l.length == 512)
  · exact .refl _
  · exact fail_adv _ _ (by decide)
theorem plR_adv (x : RS) (n : Int) : Adv x.σ (plR x n).2.σ := pl_adv _ _
theorem sgR_adv (x : RS) (n : Int) : Adv x.σ (sgR x n).2.σ := sg_adv _ _
theorem takeF_adv (s : List UInt8) (a : Int) : Adv (s, a, 0) (takeF s a).2.2 := fun h => by
  unfold takeF finT at h ⊢
  split at h
  · rename_i e; exact absurd h e
  · rename_i e
    rw [if_neg e]
    obtain ⟨v, _⟩ := lists_val (σ := (s, a, 0)) (by simpa using e)
    obtain ⟨_, p, q, hp, hq, hk⟩ := v
    rw [hq]
    exact ⟨rfl, rfl, by show a ≤ (q : Int); have hp : a = (p : Int) := hp; omega⟩
theorem edgeR_adv (x : RS) : Adv x.σ (edgeR x).σ := by
  have a1 := plR_adv x 1
  have a2 := a1.trans (plR_adv (plR x 1).2 4)
  unfold edgeR
  dsimp only
  generalize (plR (plR x 1).2 4).1 + 2 = n
  cases (plR x 1).1 == 1 with
  | false =>
    have b1 := a2.trans (sgR_adv (plR (plR x 1).2 4).2 n)
    have b2 := b1.trans (sgR_adv (sgR (plR (plR x 1).2 4).2 n).2 n)
    have b3 := b2.trans (sgR_adv (sgR (sgR (plR (plR x 1).2 4).2 n).2 n).2 n)
    have b4 := b3.trans (sgR_adv (sgR (sgR (sgR (plR (plR x 1).2 4).2 n).2 n).2 n).2 n)
    exact b4.trans (takeR_adv _ _)
  | true =>
    have a3 := a2.trans (plR_adv (plR (plR x 1).2 4).2 1)
    simp only [Bool.not_true, cond_false]
    cases (plR (plR (plR x 1).2 4).2 1).1 == 1 with
    | true =>
      have b1 := a3.trans (sgR_adv (plR (plR (plR x 1).2 4).2 1).2 n)
      have b2 := b1.trans (sgR_adv (sgR (plR (plR (plR x 1).2 4).2 1).2 n).2 n)
      exact b2.trans (takeR_adv _ _)
    | false =>
      have a4 := a3.trans (plR_adv (plR (plR (plR x 1).2 4).2 1).2 1)
      have b1 := a4.trans (sgR_adv (plR (plR (plR (plR x 1).2 4).2 1).2 1).2 n)
      simp only [cond_false]
      cases (plR (plR (plR (plR x 1).2 4).2 1).2 1).1 == 1 with
      | true => exact b1.trans (takeR_adv _ _)
      | false => exact b1.trans (takeR_adv _ _)
theorem freshR_adv (x : RS) : Adv x.σ (freshR x).σ := by
  unfold freshR
  cases he : x.σ.2.2 != 0 with
  | true => exact .refl _
  | false =>
    have hz : x.σ.2.2 = 0 := by simpa using he
    have a1 := takeF_adv x.σ.1 x.σ.2.1
    have e : x.σ = (x.σ.1, x.σ.2.1, 0) := by rw [← hz]
    rw [← e] at a1
    dsimp only [cond_false]
    have a2 := a1.trans (plR_adv { x with σ := (takeF x.σ.1 x.σ.2.1).2.2, fs := (takeF x.σ.1 x.σ.2.1).1.length, ss := (takeF x.σ.1 x.σ.2.1).2.1.length } 4)
    have a3 := a2.trans (plR_adv (plR { x with σ := (takeF x.σ.1 x.σ.2.1).2.2, fs := (takeF x.σ.1 x.σ.2.1).1.length, ss := (takeF x.σ.1 x.σ.2.1).2.1.length } 4).2 4)
    exact a3.trans (takeR_adv { (plR (plR { x with σ := (takeF x.σ.1 x.σ.2.1).2.2, fs := (takeF x.σ.1 x.σ.2.1).1.length, ss := (takeF x.σ.1 x.σ.2.1).2.1.length } 4).2 4).2 with a := _, b := _ } _)
theorem stR_adv (c : Bool) (x : RS) (n : Int) : Adv x.σ (stR c x n).2.σ := by
  unfold stR; cases c
  · exact .refl _
  · exact plR_adv _ _
theorem mvR_adv (x : RS) (f : Int) : Adv x.σ (mvR x f).2.σ := by
  unfold mvR; cases bitB f 0
  · exact .refl _
  · exact ((plR_adv x 5).trans (sgR_adv (plR x 5).2 (plR x 5).1)).trans (sgR_adv (sgR (plR x 5).2 (plR x 5).1).2 (plR x 5).1)
theorem chR_adv (x : RS) (mx my l r n : Int) : Adv x.σ (chR x mx my l r n).σ := by
  unfold chR
  cases (x.σ.2.2 == 0) && (!(inB2 (-1048576) 1048576 mx && inB2 (-1048576) 1048576 my) || (decide ((bif decide (r > l) then r else l) > x.fs) || decide (n > x.ss)))
  · exact .refl _
  · exact fail_adv _ _ (by decide)
theorem endR_adv (x : RS) (f mx my l r n : Int) : Adv x.σ (endR x f mx my l r n).σ := by
  unfold endR
  dsimp only
  cases bitB f 0 <;> cases anyB f
  · exact .refl _
  · exact takeR_adv _ _
  · exact takeR_adv _ _
  · exact (takeR_adv x (moveRec mx my)).trans (takeR_adv (takeR x (moveRec mx my)) _)
theorem s1R_adv (x : RS) (f mx my : Int) : Adv x.σ (s1R x f mx my).σ := by
  unfold s1R s2R s3R s4R
  have a1 := stR_adv (bitB f 1) x x.a
  have a2 := a1.trans (stR_adv (bitB f 2) (stR (bitB f 1) x x.a).2 (stR (bitB f 1) x x.a).2.a)
  have a3 := a2.trans (stR_adv (bitB f 3) (stR (bitB f 2) (stR (bitB f 1) x x.a).2 (stR (bitB f 1) x x.a).2.a).2 (stR (bitB f 2) (stR (bitB f 1) x x.a).2 (stR (bitB f 1) x x.a).2.a).2.b)
  generalize (stR (bitB f 3) (stR (bitB f 2) (stR (bitB f 1) x x.a).2 (stR (bitB f 1) x x.a).2.a).2 (stR (bitB f 2) (stR (bitB f 1) x x.a).2 (stR (bitB f 1) x x.a).2.a).2.b) = y at a3 ⊢
  have a4 : Adv x.σ (bif bitB f 4 then freshR y.2 else y.2).σ := by
    cases bitB f 4
    · exact a3
    · exact a3.trans (freshR_adv y.2)
  generalize (bif bitB f 4 then freshR y.2 else y.2) = z at a4 ⊢
  have a5 := a4.trans (chR_adv z mx my (stR (bitB f 1) x x.a).1 (stR (bitB f 2) (stR (bitB f 1) x x.a).2 (stR (bitB f 1) x x.a).2.a).1 y.1)
  exact a5.trans (endR_adv _ _ _ _ _ _ _)
theorem sevR_adv (x : RS) (f kind : Int) : Adv x.σ (sevR x f kind).σ := by
  unfold sevR
  cases ((bitB f 4 && (kind != 0)) || (anyB f && (kind == 2)))
  · exact (mvR_adv x f).trans (s1R_adv (mvR x f).2 _ _ _)
  · exact fail_adv _ _ (by decide)
/-- how many there are -/
def Cnt (x : RS) : Prop := x.σ.2.2 = 0 → x.l.length ≤ 512
theorem takeR_cnt {x : RS} (h : Cnt x) (r : Rec) : Cnt (takeR x r) := by
  intro e
  obtain ⟨he, _, _⟩ := takeR_adv x r e
  have hl := h he
  unfold takeR at e ⊢
  rw [show (x.σ.2.2 == 0) = true by simpa using he, Bool.true_and] at e ⊢
  cases hc : (x.l.length == 512) with
  | true => rw [hc] at e; exact absurd e (failR_ne (by decide))
  | false =>
    have : x.l.length ≠ 512 := by simpa using hc
    show (x.l ++ [r]).length ≤ 512
    simp; omega
theorem cnt_of {x y : RS} (h : Cnt x) (a : Adv x.σ y.σ) (hl : y.l = x.l) : Cnt y := fun e => by rw [hl]; exact h (a e).1
theorem sgR_cnt {x : RS} (h : Cnt x) (n : Int) : Cnt (sgR x n).2 := cnt_of h (sgR_adv x n) rfl
theorem plR_cnt {x : RS} (h : Cnt x) (n : Int) : Cnt (plR x n).2 := cnt_of h (plR_adv x n) rfl
theorem edgeR_cnt {x : RS} (h : Cnt x) : Cnt (edgeR x) := by
  have c2 := plR_cnt (plR_cnt h 1) 4
  unfold edgeR
  dsimp only
  cases (plR x 1).1 == 1 with
  | false => exact takeR_cnt (sgR_cnt (sgR_cnt (sgR_cnt (sgR_cnt c2 _) _) _) _) _
  | true =>
    have c3 := plR_cnt c2 1
    simp only [Bool.not_true, cond_false]
    cases (plR (plR (plR x 1).2 4).2 1).1 == 1 with
    | true => exact takeR_cnt (sgR_cnt (sgR_cnt c3 _) _) _
    | false =>
      have c4 := plR_cnt c3 1
      simp only [cond_false]
      cases (plR (plR (plR (plR x 1).2 4).2 1).2 1).1 == 1 with
      | true => exact takeR_cnt (sgR_cnt c4 _) _
      | false => exact takeR_cnt (sgR_cnt c4 _) _
theorem freshR_cnt {x : RS} (h : Cnt x) : Cnt (freshR x) := by
  unfold freshR
  cases he : x.σ.2.2 != 0 with
  | true => exact h
  | false =>
    have hz : x.σ.2.2 = 0 := by simpa using he
    dsimp only [cond_false]
    refine takeR_cnt ?_ _
    exact fun _ => h hz
theorem stR_cnt {x : RS} (h : Cnt x) (c : Bool) (n : Int) : Cnt (stR c x n).2 := cnt_of h (stR_adv c x n) (by unfold stR; cases c <;> rfl)
theorem mvR_cnt {x : RS} (h : Cnt x) (f : Int) : Cnt (mvR x f).2 := cnt_of h (mvR_adv x f) (by unfold mvR; cases bitB f 0 <;> rfl)
theorem chR_l (x : RS) (mx my l r n : Int) : (chR x mx my l r n).l = x.l := by unfold chR; generalize (x.σ.2.2 == 0 && _) = c; cases c <;> rfl
theorem s1R_cnt {x : RS} (h : Cnt x) (f mx my : Int) : Cnt (s1R x f mx my) := by
  have c1 := stR_cnt h (bitB f 1) x.a
  have c2 := stR_cnt c1 (bitB f 2) (stR (bitB f 1) x x.a).2.a
  have c3 := stR_cnt c2 (bitB f 3) (stR (bitB f 2) (stR (bitB f 1) x x.a).2 (stR (bitB f 1) x x.a).2.a).2.b
  unfold s1R s2R s3R s4R
  generalize (stR (bitB f 3) (stR (bitB f 2) (stR (bitB f 1) x x.a).2 (stR (bitB f 1) x x.a).2.a).2 (stR (bitB f 2) (stR (bitB f 1) x x.a).2 (stR (bitB f 1) x x.a).2.a).2.b) = y at c3 ⊢
  have c4 : Cnt (bif bitB f 4 then freshR y.2 else y.2) := by
    cases bitB f 4
    · exact c3
    · exact freshR_cnt c3
  generalize (bif bitB f 4 then freshR y.2 else y.2) = z at c4 ⊢
  have c5 := cnt_of c4 (chR_adv z mx my (stR (bitB f 1) x x.a).1 (stR (bitB f 2) (stR (bitB f 1) x x.a).2 (stR (bitB f 1) x x.a).2.a).1 y.1) (chR_l ..)
  unfold endR
  dsimp only
  cases bitB f 0 <;> cases anyB f
  · exact c5
  · exact takeR_cnt c5 _
  · exact takeR_cnt c5 _
  · exact takeR_cnt (takeR_cnt c5 _) _
theorem sevR_cnt {x : RS} (h : Cnt x) (f kind : Int) : Cnt (sevR x f kind) := by
  unfold sevR
  cases ((bitB f 4 && (kind != 0)) || (anyB f && (kind == 2)))
  · exact s1R_cnt (mvR_cnt h f) _ _ _
  · exact cnt_of (x := x) h (fail_adv _ _ (by decide)) rfl
/-- lengths -/
theorem edgeR_len {x : RS} (h : LenOk x.σ) : LenOk (edgeR x).σ := by
  have h1 := plR_len x 1 h
  have h2 := plR_len _ 4 h1
  unfold edgeR
  dsimp only
  cases (plR x 1).1 == 1 with
  | false => exact takeR_len _ _ (sgR_len _ _ (sgR_len _ _ (sgR_len _ _ (sgR_len _ _ h2))))
  | true =>
    have h3 := plR_len _ 1 h2
    simp only [Bool.not_true, cond_false]
    cases (plR (plR (plR x 1).2 4).2 1).1 == 1 with
    | true => exact takeR_len _ _ (sgR_len _ _ (sgR_len _ _ h3))
    | false =>
      have h4 := plR_len _ 1 h3
      simp only [cond_false]
      cases (plR (plR (plR (plR x 1).2 4).2 1).2 1).1 == 1 with
      | true => exact takeR_len _ _ (sgR_len _ _ h4)
      | false => exact takeR_len _ _ (sgR_len _ _ h4)
theorem edgeR_n (x : RS) : (edgeR x).l.length ≤ x.l.length + 1 := by
  unfold edgeR
  dsimp only
  cases (plR x 1).1 == 1 with
  | false => exact takeR_n _ _
  | true =>
    simp only [Bool.not_true, cond_false]
    cases (plR (plR (plR x 1).2 4).2 1).1 == 1 with
    | true => exact takeR_n _ _
    | false =>
      simp only [cond_false]
      cases (plR (plR (plR (plR x 1).2 4).2 1).2 1).1 == 1 with
      | true => exact takeR_n _ _
      | false => exact takeR_n _ _
theorem stR_l (c : Bool) (x : RS) (n : Int) : (stR c x n).2.l = x.l := by unfold stR; cases c <;> rfl
theorem sevR_both {x : RS} (h : x.ok) (f kind : Int) : LenOk (sevR x f kind).σ ∧ (sevR x f kind).l.length ≤ x.l.length + 3 := by
  unfold sevR
  cases ((bitB f 4 && (kind != 0)) || (anyB f && (kind == 2))) with
  | true => exact ⟨fail_len h.1 3, by show x.l.length ≤ _; omega⟩
  | false =>
    simp only [cond_false]
    have m1 := mvR_ok h f
    have ml : (mvR x f).2.l = x.l := by unfold mvR; cases bitB f 0 <;> rfl
    generalize (mvR x f).1.1 = mx
    generalize (mvR x f).1.2 = my
    generalize (mvR x f).2 = y at m1 ml ⊢
    unfold s1R s2R s3R s4R
    have k1 := stR_ok (c := bitB f 1) m1 y.a
    have k2 := stR_ok (c := bitB f 2) k1 (stR (bitB f 1) y y.a).2.a
    have k3 := stR_ok (c := bitB f 3) k2 (stR (bitB f 2) (stR (bitB f 1) y y.a).2 (stR (bitB f 1) y y.a).2.a).2.b
    have kl : (stR (bitB f 3) (stR (bitB f 2) (stR (bitB f 1) y y.a).2 (stR (bitB f 1) y y.a).2.a).2 (stR (bitB f 2) (stR (bitB f 1) y y.a).2 (stR (bitB f 1) y y.a).2.a).2.b).2.l = x.l := by rw [stR_l, stR_l, stR_l, ml]
    generalize (stR (bitB f 3) (stR (bitB f 2) (stR (bitB f 1) y y.a).2 (stR (bitB f 1) y y.a).2.a).2 (stR (bitB f 2) (stR (bitB f 1) y y.a).2 (stR (bitB f 1) y y.a).2.a).2.b) = z at k3 kl ⊢
    have c4 : LenOk (bif bitB f 4 then freshR z.2 else z.2).σ ∧ (bif bitB f 4 then freshR z.2 else z.2).l.length ≤ x.l.length + 1 := by
      cases bitB f 4
      · exact ⟨k3.1, by show z.2.l.length ≤ _; rw [kl]; omega⟩
      · have := freshR_n z.2; rw [kl] at this; exact ⟨freshR_len k3.1, this⟩
    generalize (bif bitB f 4 then freshR z.2 else z.2) = u at c4 ⊢
    have c5 : ∀ mx my l r n, LenOk (chR u mx my l r n).σ := fun mx my l r n => by
      unfold chR
      generalize (u.σ.2.2 == 0 && _) = c
      cases c
      · exact c4.1
      · exact fail_len c4.1 3
    have c6 := chR_l u
    generalize hch : chR u mx my _ _ _ = v
    have v1 : LenOk v.σ := by rw [← hch]; exact c5 ..
    have v2 : v.l.length ≤ x.l.length + 1 := by rw [← hch, chR_l]; exact c4.2
    unfold endR
    dsimp only
    cases bitB f 0 <;> cases anyB f
    · exact ⟨v1, by show v.l.length ≤ _; omega⟩
    · exact ⟨takeR_len _ _ v1, by have := takeR_n v (setRec (stR (bitB f 1) y y.a).1 (stR (bitB f 2) (stR (bitB f 1) y y.a).2 (stR (bitB f 1) y y.a).2.a).1 z.1); show (takeR v _).l.length ≤ _; omega⟩
    · exact ⟨takeR_len _ _ v1, by have := takeR_n v (moveRec mx my); show (takeR v _).l.length ≤ _; omega⟩
    · refine ⟨takeR_len _ _ (takeR_len _ _ v1), ?_⟩
      have a := takeR_n v (moveRec mx my)
      have b := takeR_n (takeR v (moveRec mx my)) (setRec (stR (bitB f 1) y y.a).1 (stR (bitB f 2) (stR (bitB f 1) y y.a).2 (stR (bitB f 1) y y.a).2.a).1 z.1)
      show (takeR (takeR v _) _).l.length ≤ _
      omega
end Go.AI
set_option linter.unusedVariables false
set_option linter.unusedSimpArgs false
set_option maxRecDepth 100000
namespace Go.AI
open Go Go.Proofs

def finX (x : RS) : List Rec × Rs := if x.σ.2.2 ≠ 0 then ([], ([], 0, x.σ.2.2)) else (x.l, (x.σ.1, alignF x.σ.1 x.σ.2.1, 0))
def encX (r : List Rec × Rs) : Res := ([.l (r.1.map Rec.e), .s r.2.1, .i r.2.2.1, .i r.2.2.2], [])
theorem fin_c (x : RS) (h : LenOk x.σ) : (bif x.σ.2.2 != 0 then some ([PV.l [], PV.s [], PV.i 0, PV.i x.σ.2.2], ([] : List BX)) else (cW f_bits_Align [.s x.σ.1, .i x.σ.2.1] []).bind fun r => some ([PV.l (x.l.map Rec.e), PV.s (r.1.getD 0 PV.u).toS, PV.i (r.1.getD 1 PV.u).toI, PV.i 0], [])) = some (encX (finX x)) := by
  unfold finX
  by_cases he : x.σ.2.2 = 0
  · rw [show (x.σ.2.2 != 0) = false by simp [he], if_neg (by simp [he]), (align_ans h _).c]; rfl
  · rw [show (x.σ.2.2 != 0) = true by simp [he], if_pos he]; rfl
/-- rounds enough -/
def Fuel (n : Nat) (σ : Rs) : Prop := σ.2.2 = 0 → 1 ≤ n ∧ 8 * (σ.1.length : Int) - σ.2.1 + 1 ≤ n
theorem fuel_next {n : Nat} {σ τ : Rs} (h : Fuel (n + 1) σ) {ρ : Rs} (h1 : ρ = (pl σ 1).2) (h2 : Adv ρ τ) : Fuel n τ := fun e => by
  obtain ⟨a, b, c⟩ := h2 e
  rw [h1] at a b c
  obtain ⟨d, e1, e2, e3⟩ := pl_adv1 (by decide) a
  obtain ⟨f1, f2⟩ := h d
  rw [b, e1]
  omega
theorem pl5_rng (x : RS) : 0 ≤ (plR x 5).1 ∧ (plR x 5).1 < 32 := pl_rng x.σ 5 (by decide)
theorem take_rounds (kind : Int) (o1 : List UInt8) (o2 : Int) : ∀ (n : Nat) (x : RS), x.ok → x.l.length ≤ 600 → Cnt x → Fuel n x.σ →
    rW f_shape_TakeRecords [] at_shape_TakeRecords_L0 (S_shape_TakeRecords_L0 kind o1 o2 (x.l.map Rec.e) x.σ.1 x.σ.2.1 x.σ.2.2 x.fs x.ss x.a x.b) = some (encX (finX (loopR kind n x))) := by
  intro n
  induction n with
  | zero =>
    intro x h hl hc hf
    have he : x.σ.2.2 ≠ 0 := fun e => by have := (hf e).1; omega
    rw [w_shape_TakeRecords_L0, show (x.σ.2.2 == 0) = false by simpa using he]
    simp only [Option.bind_some, Option.bind_none, andB, orB, orB2, List.getD_cons_zero, List.getD_cons_succ, toB_b, toI_i, toS_s, toL_l, cond_true, cond_false, List.length_map]
    exact fin_c x h.1
  | succ n ih =>
    intro x h hl hc hf
    rw [w_shape_TakeRecords_L0]
    unfold loopR
    cases he : (x.σ.2.2 == 0) with
    | false =>
      simp only [Option.bind_some, Option.bind_none, andB, orB, orB2, List.getD_cons_zero, List.getD_cons_succ, toB_b, toI_i, toS_s, toL_l, cond_true, cond_false, List.length_map]
      exact fin_c x h.1
    | true =>
      have he' : x.σ.2.2 = 0 := by simpa using he
      have h1 := plR_len x 1 h.1
      have o1' : (plR x 1).2.ok := ⟨h1, h.2⟩
      have c1 := plR_cnt hc 1
      simp only [plR_c x h.1, Option.bind_some, Option.bind_none, andB, orB, orB2, List.getD_cons_zero, List.getD_cons_succ, toB_b, toI_i, toS_s, toL_l, cond_true, cond_false, List.length_map]
      cases hq : ((plR x 1).1 == 1) with
      | true =>
        simp only [edge_c _ o1', Option.bind_some, Option.bind_none, andB, orB, orB2, List.getD_cons_zero, List.getD_cons_succ, toB_b, toI_i, toS_s, toL_l, cond_true, cond_false, List.length_map]
        have a := edgeR_adv (plR x 1).2
        have cn := edgeR_cnt c1
        have ln := edgeR_n (plR x 1).2
        have ln' : (edgeR (plR x 1).2).l.length ≤ 513 := by
          have := hc he'
          have e2 : (plR x 1).2.l = x.l := rfl
          rw [e2] at ln; omega
        exact ih _ ⟨edgeR_len h1, by omega⟩ (by omega) cn (fuel_next hf rfl a)
      | false =>
        have h2 := plR_len _ 5 h1
        have o2' : (plR (plR x 1).2 5).2.ok := ⟨h2, h.2⟩
        have c2 := plR_cnt c1 5
        obtain ⟨r0, r1⟩ := pl5_rng (plR x 1).2
        simp only [plR_c _ h1, Option.bind_some, Option.bind_none, andB, orB, orB2, List.getD_cons_zero, List.getD_cons_succ, toB_b, toI_i, toS_s, toL_l, cond_true, cond_false, List.length_map]
        cases hz : ((plR (plR x 1).2 5).1 == 0) with
        | true =>
          simp only [Option.bind_some, Option.bind_none, andB, orB, orB2, List.getD_cons_zero, List.getD_cons_succ, toB_b, toI_i, toS_s, toL_l, cond_true, cond_false, List.length_map]
          exact fin_c _ h2
        | false =>
          simp only [sev_c _ o2' r0 r1, Option.bind_some, Option.bind_none, andB, orB, orB2, List.getD_cons_zero, List.getD_cons_succ, toB_b, toI_i, toS_s, toL_l, cond_true, cond_false, List.length_map]
          have a := (plR_adv (plR x 1).2 5).trans (sevR_adv (plR (plR x 1).2 5).2 (plR (plR x 1).2 5).1 kind)
          have cn := sevR_cnt c2 (plR (plR x 1).2 5).1 kind
          obtain ⟨le, ln⟩ := sevR_both o2' (plR (plR x 1).2 5).1 kind
          have ln' : (sevR (plR (plR x 1).2 5).2 (plR (plR x 1).2 5).1 kind).l.length ≤ 515 := by
            have := hc he'
            have e2 : (plR (plR x 1).2 5).2.l = x.l := rfl
            rw [e2] at ln; omega
          exact ih _ ⟨le, by omega⟩ (by omega) cn (fuel_next hf rfl a)
def startR (σ : Rs) (fs ss : Int) : RS :=
  let p := plR { σ := σ, fs := fs, ss := ss, a := 0, b := 0, l := [] } 4
  let q := plR p.2 4
  { q.2 with a := p.1, b := q.1 }
def okArg (fs ss kind : Int) : Bool := inB2 0 15 fs && (inB2 0 15 ss && inB2 0 2 kind)
def takeRecsX (s : List UInt8) (a fs ss kind : Int) : List Rec × Rs := finX (loopR kind (8 * s.length + 1) (startR (beginP s a) fs ss))
def takeRecsF (s : List UInt8) (a fs ss kind : Int) : List Rec × Rs := bif okArg fs ss kind then takeRecsX s a fs ss kind else ([], ([], 0, 1))
theorem start_ok {σ : Rs} (h : LenOk σ) (fs ss : Int) : LenOk (startR σ fs ss).σ ∧ (startR σ fs ss).l = [] ∧ Adv σ (startR σ fs ss).σ := by
  refine ⟨plR_len _ 4 (plR_len _ 4 h), rfl, ?_⟩
  exact (plR_adv { σ := σ, fs := fs, ss := ss, a := 0, b := 0, l := [] } 4).trans (plR_adv (plR { σ := σ, fs := fs, ss := ss, a := 0, b := 0, l := [] } 4).2 4)
theorem start_fuel {s : List UInt8} {a fs ss : Int} {σ : Rs} (hs : σ.1 = s) (ha : σ.2.2 = 0 → 0 ≤ σ.2.1) (h : LenOk σ) : Fuel (8 * s.length + 1) (startR σ fs ss).σ := fun e => by
  obtain ⟨x, y, z⟩ := (start_ok h fs ss).2.2 e
  have := ha x
  rw [y, hs]
  omega
theorem plain0 (s : List UInt8) (a : Int) : (plainF s a 0).2.2.2 = if rightB s a = true then 0 else 1 := by
  unfold plainF
  by_cases h : rightB s a = true
  · obtain ⟨h1, h2⟩ := rightB_iff.1 h
    rw [if_pos h, if_neg (by simp [h]), if_neg (by omega)]
  · rw [if_neg h, if_pos (by left; simpa using h)]
theorem TakeRecords_c {s : List UInt8} (h : s.length ≤ 2 ^ 40) (a fs ss kind : Int) : cW f_shape_TakeRecords [.s s, .i a, .i fs, .i ss, .i kind] [] = some (encX (takeRecsF s a fs ss kind)) := by
  rw [w_shape_TakeRecords]
  simp only [within2_c, within1_c, Option.bind_some, Option.bind_none, andB, orB, orB2, List.getD_cons_zero, List.getD_cons_succ, toB_b, toI_i, toS_s, toL_l, cond_true, cond_false, List.length_map]
  have hg : (!(inB2 0 15 fs && inB2 0 15 ss) || !inB2 0 2 kind) = !okArg fs ss kind := by
    unfold okArg; cases inB2 0 15 fs <;> cases inB2 0 15 ss <;> cases inB2 0 2 kind <;> rfl
  rw [hg]
  unfold takeRecsF
  cases okArg fs ss kind with
  | false => rfl
  | true =>
    have hb := (begin_len h a).1
    have e0 := plain0 s a
    have hp : (plainF s a 0).2.2.2 = (beginP s a).2.2 := e0
    have p1 := plR_c { σ := beginP s a, fs := fs, ss := ss, a := 0, b := 0, l := [] } hb 4
    have h1 := plR_len { σ := beginP s a, fs := fs, ss := ss, a := 0, b := 0, l := [] } 4 hb
    have p2 := plR_c _ h1 4
    obtain ⟨s1, s2, s3⟩ := start_ok hb fs ss
    have hr := take_rounds kind [] 0 (8 * s.length + 1) (startR (beginP s a) fs ss) ⟨s1, by rw [s2]; exact Nat.zero_le _⟩ (by rw [s2]; exact Nat.zero_le _) (fun _ => by rw [s2]; exact Nat.zero_le _)
      (start_fuel (a := a) rfl (fun e => by
        have hr : rightB s a = true := by
          have e : (beginP s a).2.2 = 0 := e
          unfold beginP at e
          by_cases hr : rightB s a = true
          · exact hr
          · rw [if_neg hr] at e; exact absurd e (by show (1 : Int) ≠ 0; decide)
        obtain ⟨q1, q2⟩ := rightB_iff.1 hr
        show 0 ≤ alignF s a
        unfold alignF; rw [if_pos hr]; omega) hb)
    have e1 : (beginP s a).1 = s := rfl
    have e2 : (beginP s a).2.1 = alignF s a := rfl
    dsimp only at p1
    rw [e1, e2] at p1
    simp only [Bool.not_true, cond_false, cond_true, (plain_ans h a 0).c, encF, hp, (align_ans h a).c, Option.bind_some, Option.bind_none, andB, orB, orB2, List.getD_cons_zero, List.getD_cons_succ, toB_b, toI_i, toS_s, toL_l, cond_true, cond_false, List.length_map]
    rw [show ([] : List (List PV)) = ([] : List Rec).map Rec.e from rfl]
    simp only [p1, p2, Option.bind_some, Option.bind_none, andB, orB, orB2, List.getD_cons_zero, List.getD_cons_succ, toB_b, toI_i, toS_s, toL_l, cond_true, cond_false, List.length_map]
    exact hr
end Go.AI
set_option linter.unusedVariables false
set_option linter.unusedSimpArgs false
set_option maxRecDepth 100000
namespace Go.AI
open Go Go.Proofs

/-- what stands in the records -/
def AllSh (x : RS) : Prop := Shs x.l
theorem takeR_sh {x : RS} (h : AllSh x) {r : Rec} (hr : r.sh) : AllSh (takeR x r) := by
  unfold takeR
  cases (x.σ.2.2 == 0) && (x.l.length == 512)
  · intro y hy
    rcases List.mem_append.1 hy with hy | hy
    · exact h y hy
    · rw [List.mem_singleton.1 hy]; exact hr
  · exact h
theorem sh_nil (k x y cx cy l r n : Int) : (⟨k, x, y, cx, cy, l, r, n, [], []⟩ : Rec).sh := ⟨Nat.zero_le _, Nat.zero_le _, fun f hf => by cases hf⟩
theorem edgeR_sh {x : RS} (h : AllSh x) : AllSh (edgeR x) := by
  unfold edgeR
  dsimp only
  cases (!((plR x 1).1 == 1)) with
  | true => exact takeR_sh (by exact h) (sh_nil _ _ _ _ _ _ _ _)
  | false =>
    simp only [cond_false]
    cases ((plR (plR (plR x 1).2 4).2 1).1 == 1) with
    | true => exact takeR_sh (by exact h) (sh_nil _ _ _ _ _ _ _ _)
    | false =>
      simp only [cond_false]
      cases ((plR (plR (plR (plR x 1).2 4).2 1).2 1).1 == 1) with
      | true => exact takeR_sh (by exact h) (sh_nil _ _ _ _ _ _ _ _)
      | false => exact takeR_sh (by exact h) (sh_nil _ _ _ _ _ _ _ _)
theorem freshR_sh {x : RS} (h : AllSh x) : AllSh (freshR x) := by
  unfold freshR
  cases (x.σ.2.2 != 0) with
  | true => exact h
  | false =>
    obtain ⟨n1, n2, _⟩ := takeF_n x.σ.1 x.σ.2.1
    exact takeR_sh (by exact h) ⟨Nat.le_trans n1 (by decide), Nat.le_trans n2 (by decide), takeF_shorts _ _⟩
theorem sh_of {x y : RS} (h : AllSh x) (e : y.l = x.l) : AllSh y := by unfold AllSh; rw [e]; exact h
theorem endR_sh {x : RS} (h : AllSh x) (f mx my l r n : Int) : AllSh (endR x f mx my l r n) := by
  unfold endR
  dsimp only
  have h1 : AllSh (bif bitB f 0 then takeR x (moveRec mx my) else x) := by
    cases bitB f 0
    · exact h
    · exact takeR_sh h (sh_nil _ _ _ _ _ _ _ _)
  cases anyB f
  · exact h1
  · exact takeR_sh h1 (sh_nil _ _ _ _ _ _ _ _)
theorem s1R_sh {x : RS} (h : AllSh x) (f mx my : Int) : AllSh (s1R x f mx my) := by
  unfold s1R s2R s3R s4R
  refine endR_sh (sh_of ?_ (chR_l _ _ _ _ _ _)) _ _ _ _ _ _
  have h3 : AllSh (stR (bitB f 3) (stR (bitB f 2) (stR (bitB f 1) x x.a).2 (stR (bitB f 1) x x.a).2.a).2 (stR (bitB f 2) (stR (bitB f 1) x x.a).2 (stR (bitB f 1) x x.a).2.a).2.b).2 := sh_of h (by rw [stR_l, stR_l, stR_l])
  cases bitB f 4
  · exact h3
  · exact freshR_sh h3
theorem sevR_sh {x : RS} (h : AllSh x) (f kind : Int) : AllSh (sevR x f kind) := by
  unfold sevR
  cases (bitB f 4 && (kind != 0)) || (anyB f && (kind == 2)) with
  | true => exact h
  | false => exact s1R_sh (sh_of h (by unfold mvR; cases bitB f 0 <;> rfl)) _ _ _
theorem loopR_sh (kind : Int) : ∀ (n : Nat) (x : RS), AllSh x → AllSh (loopR kind n x)
  | 0, x, h => h
  | n + 1, x, h => by
    unfold loopR
    cases (x.σ.2.2 == 0) with
    | false => exact h
    | true =>
      simp only [cond_true]
      cases ((plR x 1).1 == 1) with
      | true => exact loopR_sh kind n _ (edgeR_sh (by exact h))
      | false =>
        simp only [cond_false]
        cases ((plR (plR x 1).2 5).1 == 0) with
        | true => exact h
        | false => exact loopR_sh kind n _ (sevR_sh (by exact h) _ _)
theorem loopR_cnt (kind : Int) : ∀ (n : Nat) (x : RS), Cnt x → Cnt (loopR kind n x)
  | 0, x, h => h
  | n + 1, x, h => by
    unfold loopR
    cases (x.σ.2.2 == 0) with
    | false => exact h
    | true =>
      simp only [cond_true]
      cases ((plR x 1).1 == 1) with
      | true => exact loopR_cnt kind n _ (edgeR_cnt (plR_cnt h 1))
      | false =>
        simp only [cond_false]
        cases ((plR (plR x 1).2 5).1 == 0) with
        | true => exact plR_cnt (plR_cnt h 1) 5
        | false => exact loopR_cnt kind n _ (sevR_cnt (plR_cnt (plR_cnt h 1) 5) _ _)
theorem takeRecsX_sh (s : List UInt8) (a fs ss kind : Int) : (takeRecsX s a fs ss kind).1.length ≤ 512 ∧ Shs (takeRecsX s a fs ss kind).1 := by
  unfold takeRecsX finX
  split
  · exact ⟨Nat.zero_le _, fun r hr => by cases hr⟩
  · rename_i he
    exact ⟨loopR_cnt kind _ _ (fun _ => Nat.zero_le _) (by simpa using he), loopR_sh kind _ _ (fun r hr => by cases hr)⟩
end Go.AI
set_option linter.unusedVariables false
set_option linter.unusedSimpArgs false
set_option maxRecDepth 100000
namespace Go.AI
open Go Go.Proofs

theorem rect_len {σ : Rs} (h : LenOk σ) : LenOk (takeRectF σ).2 := by
  unfold takeRectF
  dsimp only
  split <;> exact done_len (tk_len 5 4 h) _
end Go.AI
set_option linter.unusedVariables false
set_option linter.unusedSimpArgs false
set_option maxRecDepth 100000
namespace Go.AI
open Go Go.Proofs

theorem qpl_c {σ : Rs} (h : LenOk σ) (n : Int) : cW f_celluloidref07_Plain [.s σ.1, .i σ.2.1, .i σ.2.2, .i n] [] = some ([.i (pl σ n).1, .s (pl σ n).2.1, .i (pl σ n).2.2.1, .i (pl σ n).2.2.2], []) := (qpl_ans h n).c
theorem qsg_c {σ : Rs} (h : LenOk σ) (n : Int) : cW f_celluloidref07_Signed [.s σ.1, .i σ.2.1, .i σ.2.2, .i n] [] = some ([.i (sg σ n).1, .s (sg σ n).2.1, .i (sg σ n).2.2.1, .i (sg σ n).2.2.2], []) := (qsg_ans h n).c
theorem sev9_loop {n : Int} {m : Nat} (hm : m ≤ 100) (o1 : List UInt8) (o2 o3 : Int) : ∀ (j : Nat) (pre : List Int) (σ : Rs), pre.length + j = m → LenOk σ →
    rW f_celluloidref09_several [] at_celluloidref09_several_L0 (S_celluloidref09_several_L0 m n pre.length (ints (pre ++ List.replicate j 0)) σ.1 σ.2.1 σ.2.2 o1 o2 o3) = some (.l (ints (pre ++ (sgs n j σ).1)) :: encS (sgs n j σ).2, [])
  | 0, pre, σ, h, _ => by
    rw [w_celluloidref09_several_L0, decide_eq_false (by omega)]; rfl
  | j + 1, pre, σ, h, hσ => by
    have e2 : IntKind.wrap .i64 ((pre.length : Int) + 1) = (((pre ++ [(sg σ n).1]).length : Nat) : Int) := by rw [wrap64 (by omega) (by omega)]; simp
    have hg : elemAt (ints (pre ++ List.replicate (j + 1) 0)) (pre.length : Int) = [.i 0] := by
      rw [ints_get (by simp)]; simp [List.getD]
    have hi : inB (pre.length : Int) (ints (pre ++ List.replicate (j + 1) 0)).length = true := by unfold inB; simp [ints_length]; omega
    have hd : decide (((pre.length : Nat) : Int) < ((m : Nat) : Int)) = true := decide_eq_true (by omega)
    rw [w_celluloidref09_several_L0]
    simp only [hd, qsg_c hσ n, hi, hg, e2, Int.toNat_natCast, Option.bind_some, Option.bind_none, andB, orB, orB2, List.getD_cons_zero, List.getD_cons_succ, toB_b, toI_i, toS_s, toL_l, cond_true, cond_false, List.length_map]
    rw [show putAt [PV.i 0] 0 [PV.i (sg σ n).1] = [PV.i (sg σ n).1] from rfl, List.replicate_succ, set_ints, show pre ++ (sg σ n).1 :: List.replicate j 0 = (pre ++ [(sg σ n).1]) ++ List.replicate j 0 by simp]
    have := sev9_loop (n := n) hm o1 o2 o3 j (pre ++ [(sg σ n).1]) (sg σ n).2 (by simp; omega) (sg_len hσ n)
    refine this.trans ?_
    simp [sgs, encS]
theorem several_c {σ : Rs} (hσ : LenOk σ) (m : Nat) (hm : m ≤ 100) (n M : Int) (hM : M = (m : Int)) : cW f_celluloidref09_several [.s σ.1, .i σ.2.1, .i σ.2.2, .i M, .i n] [] = some ([.l (ints (sgs n m σ).1), .s (sgs n m σ).2.1, .i (sgs n m σ).2.2.1, .i (sgs n m σ).2.2.2], []) := by
  subst hM
  rw [w_celluloidref09_several]
  have h : ((decide ((0 : Int) ≤ (m : Int))) && ((decide ((m : Int) ≤ (m : Int))) && (decide ((m : Int) ≤ 1073741824)))) = true := by simp; omega
  rw [h, cond_true, Int.toNat_natCast]
  have := sev9_loop (n := n) hm [] 0 0 m [] σ (by simp) hσ
  rw [show List.replicate m [PV.i 0] = ints ([] ++ List.replicate m 0) by simp [ints]]
  exact this
def moreR (x : RS) (r : Rec) : RS := { x with σ := bif (x.σ.2.2 == 0) && decide (x.l.length > 511) then (x.σ.1, x.σ.2.1, 7) else x.σ, l := x.l ++ [r] }
theorem moreR_n (x : RS) (r : Rec) : (moreR x r).l.length = x.l.length + 1 := by unfold moreR; simp
theorem more_c (x : RS) (r : Rec) (h : x.l.length ≤ 1000000) : cW f_celluloidref09_more ([.l (x.l.map Rec.e), .s x.σ.1, .i x.σ.2.1, .i x.σ.2.2] ++ r.e) [] = some ([.l ((moreR x r).l.map Rec.e), .s (moreR x r).σ.1, .i (moreR x r).σ.2.1, .i (moreR x r).σ.2.2], []) := by
  simp only [Rec.e, List.cons_append, List.nil_append]
  rw [w_celluloidref09_more]
  simp only [Option.bind_some, Option.bind_none, andB, orB, orB2, List.getD_cons_zero, List.getD_cons_succ, toB_b, toI_i, toS_s, toL_l, cond_true, cond_false, List.length_map]
  unfold moreR
  have e : decide (((x.l.length : Nat) : Int) > 511) = decide (x.l.length > 511) := by rw [Bool.eq_iff_iff]; simp; omega
  rw [e, rec_row, room1 _ _ (by omega)]
  cases (x.σ.2.2 == 0) && decide (x.l.length > 511) <;> rfl
def edgeQ (x : RS) : RS :=
  let s := plR x 1
  let m := plR s.2 4
  let n := m.1 + 2
  bif s.1 == 0 then
    let c1 := sgR m.2 n; let c2 := sgR c1.2 n; let c3 := sgR c2.2 n; let c4 := sgR c3.2 n
    moreR c4.2 ⟨5, c3.1, c4.1, c1.1, c2.1, 0, 0, 0, [], []⟩
  else
    let t := plR m.2 1
    bif t.1 == 1 then
      let p := sgR t.2 n; let q := sgR p.2 n
      moreR q.2 (lineRec p.1 q.1)
    else
      let u := plR t.2 1
      let p := sgR u.2 n
      bif u.1 == 1 then moreR p.2 (lineRec 0 p.1) else moreR p.2 (lineRec p.1 0)
theorem edgeQ_c (x : RS) (h : x.ok) : cW f_celluloidref09_edge [.l (x.l.map Rec.e), .s x.σ.1, .i x.σ.2.1, .i x.σ.2.2] [] = some ([.l ((edgeQ x).l.map Rec.e), .s (edgeQ x).σ.1, .i (edgeQ x).σ.2.1, .i (edgeQ x).σ.2.2], []) := by
  have h1 := plR_len x 1 h.1
  have h2 := plR_len _ 4 h1
  have r4 := pl_rng (plR x 1).2.σ 4 (by decide)
  have hw : IntKind.wrap .i64 ((pl (pl x.σ 1).2 4).1 + 2) = (pl (pl x.σ 1).2 4).1 + 2 := by
    have : (pl (pl x.σ 1).2 4).1 < 16 := r4.2
    have : 0 ≤ (pl (pl x.σ 1).2 4).1 := r4.1
    exact wrap64 (by omega) (by omega)
  have hl : ∀ y : RS, y.l = x.l → y.l.length ≤ 1000000 := fun y e => by rw [e]; have := h.2; omega
  have h1' : LenOk (pl x.σ 1).2 := h1
  have h2' : LenOk (pl (pl x.σ 1).2 4).2 := h2
  rw [w_celluloidref09_edge]
  simp only [qpl_c h.1, qpl_c h1', hw, Option.bind_some, Option.bind_none, andB, orB, orB2, List.getD_cons_zero, List.getD_cons_succ, toB_b, toI_i, toS_s, toL_l, cond_true, cond_false, List.length_map]
  have hs : ∀ (σ : Rs) (n : Int), sgs n 4 σ = ([(sg σ n).1, (sg (sg σ n).2 n).1, (sg (sg (sg σ n).2 n).2 n).1, (sg (sg (sg (sg σ n).2 n).2 n).2 n).1], (sg (sg (sg (sg σ n).2 n).2 n).2 n).2) := fun σ n => rfl
  have hs2 : ∀ (σ : Rs) (n : Int), sgs n 2 σ = ([(sg σ n).1, (sg (sg σ n).2 n).1], (sg (sg σ n).2 n).2) := fun σ n => rfl
  have hs1 : ∀ (σ : Rs) (n : Int), sgs n 1 σ = ([(sg σ n).1], (sg σ n).2) := fun σ n => rfl
  unfold edgeQ
  dsimp only
  have k0 : (plR x 1).1 = (pl x.σ 1).1 := rfl
  rw [k0]
  cases ((pl x.σ 1).1 == 0) with
  | true =>
    have e := more_c (sgR (sgR (sgR (sgR (plR (plR x 1).2 4).2 ((plR (plR x 1).2 4).1 + 2)).2 ((plR (plR x 1).2 4).1 + 2)).2 ((plR (plR x 1).2 4).1 + 2)).2 ((plR (plR x 1).2 4).1 + 2)).2 ⟨5, (sgR (sgR (sgR (plR (plR x 1).2 4).2 ((plR (plR x 1).2 4).1 + 2)).2 ((plR (plR x 1).2 4).1 + 2)).2 ((plR (plR x 1).2 4).1 + 2)).1, (sgR (sgR (sgR (sgR (plR (plR x 1).2 4).2 ((plR (plR x 1).2 4).1 + 2)).2 ((plR (plR x 1).2 4).1 + 2)).2 ((plR (plR x 1).2 4).1 + 2)).2 ((plR (plR x 1).2 4).1 + 2)).1, (sgR (plR (plR x 1).2 4).2 ((plR (plR x 1).2 4).1 + 2)).1, (sgR (sgR (plR (plR x 1).2 4).2 ((plR (plR x 1).2 4).1 + 2)).2 ((plR (plR x 1).2 4).1 + 2)).1, 0, 0, 0, [], []⟩ (hl _ rfl)
    simp only [Rec.e, List.map_nil, List.cons_append, List.nil_append] at e
    simp only [several_c h2' 4 (by decide) _ 4 rfl, hs, Option.bind_some, Option.bind_none, andB, orB, orB2, List.getD_cons_zero, List.getD_cons_succ, toB_b, toI_i, toS_s, toL_l, cond_true, cond_false, List.length_map]
    simp only [show ∀ a b c d : Int, (ints [a, b, c, d]).length = 4 from fun _ _ _ _ => rfl, show inB 0 4 = true from rfl, show inB 1 4 = true from rfl, show inB 2 4 = true from rfl, show inB 3 4 = true from rfl,
      show ∀ a b c d : Int, elemAt (ints [a, b, c, d]) 0 = [.i a] from fun _ _ _ _ => rfl, show ∀ a b c d : Int, elemAt (ints [a, b, c, d]) 1 = [.i b] from fun _ _ _ _ => rfl, show ∀ a b c d : Int, elemAt (ints [a, b, c, d]) 2 = [.i c] from fun _ _ _ _ => rfl, show ∀ a b c d : Int, elemAt (ints [a, b, c, d]) 3 = [.i d] from fun _ _ _ _ => rfl, Option.bind_some, Option.bind_none, andB, orB, orB2, List.getD_cons_zero, List.getD_cons_succ, toB_b, toI_i, toS_s, toL_l, cond_true, cond_false, List.length_map]
    have e' := e
    unfold sgR plR at e'
    dsimp only at e'
    rw [e']
    rfl
  | false =>
    have h3 := plR_len _ 1 h2
    have h3' : LenOk (pl (pl (pl x.σ 1).2 4).2 1).2 := h3
    simp only [qpl_c h2', Bool.and_true, Bool.true_and, Bool.and_false, Bool.false_and, Bool.or_true, Bool.true_or, Bool.or_false, Bool.false_or, Bool.not_true, Bool.not_false, Option.bind_some, Option.bind_none, andB, orB, orB2, List.getD_cons_zero, List.getD_cons_succ, toB_b, toI_i, toS_s, toL_l, cond_true, cond_false, List.length_map]
    have k1 : (plR (plR (plR x 1).2 4).2 1).1 = (pl (pl (pl x.σ 1).2 4).2 1).1 := rfl
    rw [k1]
    cases ((pl (pl (pl x.σ 1).2 4).2 1).1 == 1) with
    | true =>
      have e := more_c (sgR (sgR (plR (plR (plR x 1).2 4).2 1).2 ((plR (plR x 1).2 4).1 + 2)).2 ((plR (plR x 1).2 4).1 + 2)).2 (lineRec (sgR (plR (plR (plR x 1).2 4).2 1).2 ((plR (plR x 1).2 4).1 + 2)).1 (sgR (sgR (plR (plR (plR x 1).2 4).2 1).2 ((plR (plR x 1).2 4).1 + 2)).2 ((plR (plR x 1).2 4).1 + 2)).1) (hl _ rfl)
      simp only [Rec.e, lineRec, List.map_nil, List.cons_append, List.nil_append] at e
      simp only [several_c h3' 2 (by decide) _ 2 rfl, hs2, Option.bind_some, Option.bind_none, andB, orB, orB2, List.getD_cons_zero, List.getD_cons_succ, toB_b, toI_i, toS_s, toL_l, cond_true, cond_false, List.length_map]
      simp only [show ∀ a b : Int, (ints [a, b]).length = 2 from fun _ _ => rfl, show inB 0 2 = true from rfl, show inB 1 2 = true from rfl, show ∀ a b : Int, elemAt (ints [a, b]) 0 = [.i a] from fun _ _ => rfl, show ∀ a b : Int, elemAt (ints [a, b]) 1 = [.i b] from fun _ _ => rfl, Option.bind_some, Option.bind_none, andB, orB, orB2, List.getD_cons_zero, List.getD_cons_succ, toB_b, toI_i, toS_s, toL_l, cond_true, cond_false, List.length_map]
      have e' := e
      unfold sgR plR at e'
      dsimp only at e'
      rw [e']
      rfl
    | false =>
      have h4 := plR_len _ 1 h3
      have h4' : LenOk (pl (pl (pl (pl x.σ 1).2 4).2 1).2 1).2 := h4
      simp only [qpl_c h3', Bool.and_true, Bool.true_and, Bool.and_false, Bool.false_and, Bool.or_true, Bool.true_or, Bool.or_false, Bool.false_or, Bool.not_true, Bool.not_false, Option.bind_some, Option.bind_none, andB, orB, orB2, List.getD_cons_zero, List.getD_cons_succ, toB_b, toI_i, toS_s, toL_l, cond_true, cond_false, List.length_map]
      have k2 : (plR (plR (plR (plR x 1).2 4).2 1).2 1).1 = (pl (pl (pl (pl x.σ 1).2 4).2 1).2 1).1 := rfl
      rw [k2]
      have e1 := more_c (sgR (plR (plR (plR (plR x 1).2 4).2 1).2 1).2 ((plR (plR x 1).2 4).1 + 2)).2 (lineRec 0 (sgR (plR (plR (plR (plR x 1).2 4).2 1).2 1).2 ((plR (plR x 1).2 4).1 + 2)).1) (hl _ rfl)
      have e2 := more_c (sgR (plR (plR (plR (plR x 1).2 4).2 1).2 1).2 ((plR (plR x 1).2 4).1 + 2)).2 (lineRec (sgR (plR (plR (plR (plR x 1).2 4).2 1).2 1).2 ((plR (plR x 1).2 4).1 + 2)).1 0) (hl _ rfl)
      simp only [Rec.e, lineRec, List.map_nil, List.cons_append, List.nil_append] at e1 e2
      simp only [several_c h4' 1 (by decide) _ 1 rfl, hs1, Option.bind_some, Option.bind_none, andB, orB, orB2, List.getD_cons_zero, List.getD_cons_succ, toB_b, toI_i, toS_s, toL_l, cond_true, cond_false, List.length_map]
      simp only [show ∀ a : Int, (ints [a]).length = 1 from fun _ => rfl, show inB 0 1 = true from rfl, show ∀ a : Int, elemAt (ints [a]) 0 = [.i a] from fun _ => rfl, Option.bind_some, Option.bind_none, andB, orB, orB2, List.getD_cons_zero, List.getD_cons_succ, toB_b, toI_i, toS_s, toL_l, cond_true, cond_false, List.length_map]
      cases ((pl (pl (pl (pl x.σ 1).2 4).2 1).2 1).1 == 1) with
      | true =>
        have e' := e1
        unfold sgR plR at e'
        dsimp only at e'
        simp only [cond_true]
        rw [e']
        rfl
      | false =>
        have e' := e2
        unfold sgR plR at e'
        dsimp only at e'
        simp only [cond_false]
        rw [e']
        rfl
end Go.AI
set_option linter.unusedVariables false
set_option linter.unusedSimpArgs false
set_option maxRecDepth 100000
namespace Go.AI
open Go Go.Proofs

/-- five bits at once, or one by one -/
def five (σ : Rs) : Rs := (pl (pl (pl (pl (pl σ 1).2 1).2 1).2 1).2 1).2
theorem pl1_ok {s : List UInt8} {a : Nat} (h : a + 1 ≤ 8 * s.length) : pl (s, (a : Int), 0) 1 = (((bitN s a : Nat) : Int), (s, ((a + 1 : Nat) : Int), 0)) := by
  unfold pl plainF
  rw [if_neg (by simp)]
  have hr : rightB s (a : Int) = true := rightB_iff.2 ⟨by omega, by omega⟩
  dsimp only
  rw [if_neg (ng hr (by omega) (by omega)), if_neg (by omega), Int.toNat_natCast]
  refine Prod.ext ?_ (Prod.ext rfl (Prod.ext (by show (a : Int) + 1 = ((a + 1 : Nat) : Int); omega) rfl))
  show ((fieldN s a 1 : Nat) : Int) = _
  simp [fieldN]
theorem pl_short {s : List UInt8} {a n : Nat} (h0 : a ≤ 8 * s.length) (hn : n ≤ 31) (h : ¬ a + n ≤ 8 * s.length) : pl (s, (a : Int), 0) n = (0, ([], 0, 2)) := by
  unfold pl plainF
  rw [if_neg (by simp)]
  have hr : rightB s (a : Int) = true := rightB_iff.2 ⟨by omega, by omega⟩
  dsimp only
  rw [if_neg (ng hr (by omega) (by omega)), if_pos (by omega)]
theorem pl_bad {s : List UInt8} {a : Int} {n : Nat} (hn : n ≤ 31) (h : ¬ rightB s a = true) : pl (s, a, 0) n = (0, ([], 0, 1)) := by
  unfold pl plainF
  rw [if_neg (by simp)]
  dsimp only
  rw [if_pos (by left; simpa using h)]
theorem pl5_ok {s : List UInt8} {a : Nat} (h : a + 5 ≤ 8 * s.length) : pl (s, (a : Int), 0) 5 = (((16 * bitN s a + 8 * bitN s (a + 1) + 4 * bitN s (a + 2) + 2 * bitN s (a + 3) + bitN s (a + 4) : Nat) : Int), (s, ((a + 5 : Nat) : Int), 0)) := by
  unfold pl plainF
  rw [if_neg (by simp)]
  have hr : rightB s (a : Int) = true := rightB_iff.2 ⟨by omega, by omega⟩
  dsimp only
  rw [if_neg (ng hr (by omega) (by omega)), if_neg (by omega), Int.toNat_natCast]
  refine Prod.ext ?_ (Prod.ext rfl (Prod.ext (by show (a : Int) + 5 = ((a + 5 : Nat) : Int); omega) rfl))
  show ((fieldN s a 5 : Nat) : Int) = _
  simp only [fieldN, Nat.add_zero]
  congr 1
  omega
theorem bits_of5 {b0 b1 b2 b3 b4 : Nat} (h0 : b0 < 2) (h1 : b1 < 2) (h2 : b2 < 2) (h3 : b3 < 2) (h4 : b4 < 2) :
    bitB ((16 * b0 + 8 * b1 + 4 * b2 + 2 * b3 + b4 : Nat) : Int) 4 = ((b0 : Int) == 1) ∧ bitB ((16 * b0 + 8 * b1 + 4 * b2 + 2 * b3 + b4 : Nat) : Int) 3 = ((b1 : Int) == 1) ∧ bitB ((16 * b0 + 8 * b1 + 4 * b2 + 2 * b3 + b4 : Nat) : Int) 2 = ((b2 : Int) == 1) ∧ bitB ((16 * b0 + 8 * b1 + 4 * b2 + 2 * b3 + b4 : Nat) : Int) 1 = ((b3 : Int) == 1) ∧ bitB ((16 * b0 + 8 * b1 + 4 * b2 + 2 * b3 + b4 : Nat) : Int) 0 = ((b4 : Int) == 1) := by
  have : ∀ c0 c1 c2 c3 c4 : Fin 2, bitB ((16 * c0.1 + 8 * c1.1 + 4 * c2.1 + 2 * c3.1 + c4.1 : Nat) : Int) 4 = ((c0.1 : Int) == 1) ∧ bitB ((16 * c0.1 + 8 * c1.1 + 4 * c2.1 + 2 * c3.1 + c4.1 : Nat) : Int) 3 = ((c1.1 : Int) == 1) ∧ bitB ((16 * c0.1 + 8 * c1.1 + 4 * c2.1 + 2 * c3.1 + c4.1 : Nat) : Int) 2 = ((c2.1 : Int) == 1) ∧ bitB ((16 * c0.1 + 8 * c1.1 + 4 * c2.1 + 2 * c3.1 + c4.1 : Nat) : Int) 1 = ((c3.1 : Int) == 1) ∧ bitB ((16 * c0.1 + 8 * c1.1 + 4 * c2.1 + 2 * c3.1 + c4.1 : Nat) : Int) 0 = ((c4.1 : Int) == 1) := by decide +kernel
  exact this ⟨b0, h0⟩ ⟨b1, h1⟩ ⟨b2, h2⟩ ⟨b3, h3⟩ ⟨b4, h4⟩
/-- the flags: together, or one by one -/
theorem flags5 {σ : Rs} (he : σ.2.2 = 0) : (∃ b0 b1 b2 b3 b4 : Nat, b0 < 2 ∧ b1 < 2 ∧ b2 < 2 ∧ b3 < 2 ∧ b4 < 2 ∧ (pl σ 1).1 = (b0 : Int) ∧ (pl (pl σ 1).2 1).1 = (b1 : Int) ∧ (pl (pl (pl σ 1).2 1).2 1).1 = (b2 : Int) ∧ (pl (pl (pl (pl σ 1).2 1).2 1).2 1).1 = (b3 : Int) ∧ (pl (pl (pl (pl (pl σ 1).2 1).2 1).2 1).2 1).1 = (b4 : Int) ∧
      (pl σ 5) = (((16 * b0 + 8 * b1 + 4 * b2 + 2 * b3 + b4 : Nat) : Int), five σ) ∧ (five σ).2.2 = 0) ∨
    ((pl σ 5).1 = 0 ∧ (pl σ 5).2.2.2 ≠ 0 ∧ (five σ).2.2 = (pl σ 5).2.2.2) := by
  obtain ⟨s, a, e⟩ := σ
  obtain rfl : e = 0 := he
  have tail : ∀ (ρ : Rs), ρ.2.2 ≠ 0 → (pl ρ 1).2 = ρ := fun ρ h => by rw [pl_err h]
  by_cases hr : rightB s a = true
  · obtain ⟨r0, r1⟩ := rightB_iff.1 hr
    obtain ⟨n, rfl⟩ := Int.eq_ofNat_of_zero_le r0
    by_cases h5 : n + 5 ≤ 8 * s.length
    · left
      refine ⟨bitN s n, bitN s (n + 1), bitN s (n + 2), bitN s (n + 3), bitN s (n + 4), bitN_lt _ _, bitN_lt _ _, bitN_lt _ _, bitN_lt _ _, bitN_lt _ _, ?_⟩
      have e1 := pl1_ok (s := s) (a := n) (by omega)
      have e2 := pl1_ok (s := s) (a := n + 1) (by omega)
      have e3 := pl1_ok (s := s) (a := n + 1 + 1) (by omega)
      have e4 := pl1_ok (s := s) (a := n + 1 + 1 + 1) (by omega)
      have e5 := pl1_ok (s := s) (a := n + 1 + 1 + 1 + 1) (by omega)
      have e6 := pl5_ok (s := s) (a := n) h5
      unfold five
      rw [e1]; dsimp only
      rw [e2]; dsimp only
      rw [e3]; dsimp only
      rw [e4]; dsimp only
      rw [e5, e6]
      exact ⟨rfl, rfl, rfl, rfl, rfl, rfl, rfl⟩
    · right
      have e6 := pl_short (s := s) (a := n) (n := 5) (by omega) (by decide) h5
      rw [show ((5 : Nat) : Int) = 5 from rfl] at e6
      rw [e6]
      refine ⟨rfl, by show (2 : Int) ≠ 0; decide, ?_⟩
      show (five _).2.2 = 2
      have st : ∀ k : Nat, k ≤ 8 * s.length → ¬ k + 1 ≤ 8 * s.length → (pl (s, (k : Int), 0) 1).2 = ([], 0, 2) := fun k h1 h2 => by
        have := pl_short (s := s) (a := k) (n := 1) h1 (by decide) h2
        rw [show ((1 : Nat) : Int) = 1 from rfl] at this; rw [this]
      have t2 : (pl (([], 0, 2) : Rs) 1).2 = ([], 0, 2) := tail _ (by show (2 : Int) ≠ 0; decide)
      have ok : ∀ k : Nat, k + 1 ≤ 8 * s.length → (pl (s, (k : Int), 0) 1).2 = (s, ((k + 1 : Nat) : Int), 0) := fun k h => by rw [pl1_ok h]
      unfold five
      by_cases c1 : n + 1 ≤ 8 * s.length
      · rw [ok n c1]
        by_cases c2 : n + 1 + 1 ≤ 8 * s.length
        · rw [ok _ c2]
          by_cases c3 : n + 1 + 1 + 1 ≤ 8 * s.length
          · rw [ok _ c3]
            by_cases c4 : n + 1 + 1 + 1 + 1 ≤ 8 * s.length
            · rw [ok _ c4, st _ c4 (by omega)]
            · rw [st _ c3 c4, t2]
          · rw [st _ c2 c3, t2, t2]
        · rw [st _ c1 c2, t2, t2, t2]
      · rw [st _ (by omega) c1, t2, t2, t2, t2]
  · right
    have e6 := pl_bad (s := s) (a := a) (n := 5) (by decide) hr
    have e1 := pl_bad (s := s) (a := a) (n := 1) (by decide) hr
    rw [show ((5 : Nat) : Int) = 5 from rfl] at e6
    rw [show ((1 : Nat) : Int) = 1 from rfl] at e1
    rw [e6]
    refine ⟨rfl, by show (1 : Int) ≠ 0; decide, ?_⟩
    have t1 : (pl (([], 0, 1) : Rs) 1).2 = ([], 0, 1) := tail _ (by show (1 : Int) ≠ 0; decide)
    unfold five
    rw [e1]; dsimp only
    rw [t1, t1, t1, t1]
/-- the document's parts -/
def freshQ (x : RS) : RS :=
  let t := finT (listsP x.σ)
  let y : RS := { x with σ := t.2.2, fs := t.1.length, ss := t.2.1.length }
  let p := plR y 4
  let q := plR p.2 4
  moreR { q.2 with a := p.1, b := q.1 } (freshRec t.1 t.2.1)
def chQ (x : RS) (mx my l r n : Int) : RS := bif (x.σ.2.2 == 0) && (!(inB2 (-1048576) 1048576 mx && inB2 (-1048576) 1048576 my) || (decide (l > x.fs) || (decide (r > x.fs) || decide (n > x.ss)))) then { x with σ := (x.σ.1, x.σ.2.1, 3) } else x
def endQ (x : RS) (f mx my l r n : Int) : RS :=
  let y := bif bitB f 0 then moreR x (moveRec mx my) else x
  bif anyB f then moreR y (setRec l r n) else y
def s4Q (x : RS) (f mx my l r n : Int) : RS := endQ (chQ (bif bitB f 4 then freshQ x else x) mx my l r n) f mx my l r n
def s3Q (x : RS) (f mx my l r : Int) : RS := s4Q (stR (bitB f 3) x x.b).2 f mx my l r (stR (bitB f 3) x x.b).1
def s2Q (x : RS) (f mx my l : Int) : RS := s3Q (stR (bitB f 2) x x.a).2 f mx my l (stR (bitB f 2) x x.a).1
def s1Q (x : RS) (f mx my : Int) : RS := s2Q (stR (bitB f 1) x x.a).2 f mx my (stR (bitB f 1) x x.a).1
theorem move_ok (mx my : Int) : recB (moveRec mx my) 0 0 = (inB2 (-1048576) 1048576 mx && inB2 (-1048576) 1048576 my) := by
  unfold recB moveRec
  rw [show ((1 : Int) == 1) = true from rfl, cond_true, Bool.eq_iff_iff]
  simp only [decide_eq_true_eq, Bool.and_eq_true, inR_iff]
  simp [noSt, noLi, noCt]
theorem finT_len {σ : Rs} (h : LenOk σ) : LenOk (finT (listsP σ)).2.2 := by
  unfold finT
  split
  · exact Nat.zero_le _
  · exact strksP_len _ _ (many_len (fillsP_len _ _ (many_len h)))
/-- flags as the document has them -/
abbrev toldE (f : Int) (t0 t1 t2 t3 t4 : Int) : Prop := (bitB f 4 = (t0 == 1) ∧ bitB f 3 = (t1 == 1) ∧ bitB f 2 = (t2 == 1) ∧ bitB f 1 = (t3 == 1) ∧ bitB f 0 = (t4 == 1)) ∧ (0 ≤ t1 ∧ t1 ≤ 1) ∧ (0 ≤ t2 ∧ t2 ≤ 1) ∧ (0 ≤ t3 ∧ t3 ≤ 1)
theorem any_sum {f t0 t1 t2 t3 t4 : Int} (h : toldE f t0 t1 t2 t3 t4) : decide (IntKind.wrap .i64 (IntKind.wrap .i64 (t1 + t2) + t3) > 0) = anyB f := by
  obtain ⟨⟨_, h1, h2, h3, _⟩, a, b, c⟩ := h
  unfold anyB
  rw [h1, h2, h3, wrap64 (n := t1 + t2) (by omega) (by omega), wrap64 (by omega) (by omega), Bool.eq_iff_iff]
  simp; omega
theorem told_len (t0 t1 t2 t3 t4 : Int) : (ints [t0, t1, t2, t3, t4]).length = 5 := rfl
theorem told_at (t0 t1 t2 t3 t4 : Int) : elemAt (ints [t0, t1, t2, t3, t4]) 0 = [.i t0] ∧ elemAt (ints [t0, t1, t2, t3, t4]) 1 = [.i t1] ∧ elemAt (ints [t0, t1, t2, t3, t4]) 2 = [.i t2] ∧ elemAt (ints [t0, t1, t2, t3, t4]) 3 = [.i t3] ∧ elemAt (ints [t0, t1, t2, t3, t4]) 4 = [.i t4] := ⟨rfl, rfl, rfl, rfl, rfl⟩
theorem in5 : inB 0 5 = true ∧ inB 1 5 = true ∧ inB 2 5 = true ∧ inB 3 5 = true ∧ inB 4 5 = true := by decide
section
variable {f t0 t1 t2 t3 t4 : Int} (h : toldE f t0 t1 t2 t3 t4) (kind : Int) (o1 : List UInt8) (o2 o3 : Int)
include h
theorem q43 (x : RS) (hx : x.l.length ≤ 1000000) (l r n : Int) :
    rW f_celluloidref09_TakeRecords [] at_celluloidref09_TakeRecords_C43 (S_celluloidref09_TakeRecords_C43 x.fs x.ss kind x.a x.b (x.l.map Rec.e) (ints [t0, t1, t2, t3, t4]) x.σ.1 x.σ.2.1 x.σ.2.2 o1 o2 o3 2 0 0 0 0 l r n [] []) =
    rW f_celluloidref09_TakeRecords [] at_celluloidref09_TakeRecords_L0 (S_celluloidref09_TakeRecords_L0 x.fs x.ss kind x.a x.b ((bif anyB f then moreR x (setRec l r n) else x).l.map Rec.e) (bif anyB f then moreR x (setRec l r n) else x).σ.1 (bif anyB f then moreR x (setRec l r n) else x).σ.2.1 (bif anyB f then moreR x (setRec l r n) else x).σ.2.2 o1 o2 o3) := by
  have e := more_c x (setRec l r n) hx
  simp only [Rec.e, setRec, List.map_nil, List.cons_append, List.nil_append] at e
  obtain ⟨a0, a1, a2, a3, a4⟩ := told_at t0 t1 t2 t3 t4
  rw [w_celluloidref09_TakeRecords_C43]
  simp only [told_len, in5, a0, a1, a2, a3, a4, any_sum h, Option.bind_some, Option.bind_none, andB, orB, orB2, List.getD_cons_zero, List.getD_cons_succ, toB_b, toI_i, toS_s, toL_l, cond_true, cond_false, List.length_map]
  cases anyB f with
  | true => simp only [e, setRec, Option.bind_some, Option.bind_none, andB, orB, orB2, List.getD_cons_zero, List.getD_cons_succ, toB_b, toI_i, toS_s, toL_l, cond_true, cond_false, List.length_map]
  | false => rfl
end
end Go.AI
set_option linter.unusedVariables false
set_option linter.unusedSimpArgs false
set_option maxRecDepth 100000
namespace Go.AI
open Go Go.Proofs

noncomputable abbrev goQ (kind : Int) (o1 : List UInt8) (o2 o3 : Int) (x : RS) : Option Res := rW f_celluloidref09_TakeRecords [] at_celluloidref09_TakeRecords_L0 (S_celluloidref09_TakeRecords_L0 x.fs x.ss kind x.a x.b (x.l.map Rec.e) x.σ.1 x.σ.2.1 x.σ.2.2 o1 o2 o3)
section
variable {f t0 t1 t2 t3 t4 : Int} (h : toldE f t0 t1 t2 t3 t4) (kind : Int) (o1 : List UInt8) (o2 o3 : Int)
include h
theorem q43' (x : RS) (hx : x.l.length ≤ 1000000) (l r n : Int) :
    rW f_celluloidref09_TakeRecords [] at_celluloidref09_TakeRecords_C43 (S_celluloidref09_TakeRecords_C43 x.fs x.ss kind x.a x.b (x.l.map Rec.e) (ints [t0, t1, t2, t3, t4]) x.σ.1 x.σ.2.1 x.σ.2.2 o1 o2 o3 2 0 0 0 0 l r n [] []) =
    goQ kind o1 o2 o3 (bif anyB f then moreR x (setRec l r n) else x) := by
  rw [q43 h kind o1 o2 o3 x hx l r n]
  cases anyB f <;> rfl
theorem q41 (x : RS) (hx : x.l.length ≤ 100000) (mx my l r n : Int) :
    rW f_celluloidref09_TakeRecords [] at_celluloidref09_TakeRecords_C41 (S_celluloidref09_TakeRecords_C41 x.fs x.ss kind x.a x.b (x.l.map Rec.e) (ints [t0, t1, t2, t3, t4]) x.σ.1 x.σ.2.1 x.σ.2.2 o1 o2 o3 1 mx my 0 0 0 0 0 [] [] 2 0 0 0 0 l r n [] []) =
    goQ kind o1 o2 o3 (endQ x f mx my l r n) := by
  have e := more_c x (moveRec mx my) (by omega)
  simp only [Rec.e, moveRec, List.map_nil, List.cons_append, List.nil_append] at e
  obtain ⟨a0, a1, a2, a3, a4⟩ := told_at t0 t1 t2 t3 t4
  rw [w_celluloidref09_TakeRecords_C41]
  simp only [told_len, in5, a0, a1, a2, a3, a4, Option.bind_some, Option.bind_none, andB, orB, orB2, List.getD_cons_zero, List.getD_cons_succ, toB_b, toI_i, toS_s, toL_l, cond_true, cond_false, List.length_map]
  unfold endQ
  rw [← h.1.2.2.2.2]
  cases bitB f 0 with
  | true =>
    simp only [e, Option.bind_some, Option.bind_none, andB, orB, orB2, List.getD_cons_zero, List.getD_cons_succ, toB_b, toI_i, toS_s, toL_l, cond_true, cond_false, List.length_map]
    exact q43' h kind o1 o2 o3 (moreR x (moveRec mx my)) (by rw [moreR_n]; omega) l r n
  | false =>
    simp only [Option.bind_some, Option.bind_none, andB, orB, orB2, List.getD_cons_zero, List.getD_cons_succ, toB_b, toI_i, toS_s, toL_l, cond_true, cond_false, List.length_map]
    exact q43' h kind o1 o2 o3 x (by omega) l r n
theorem q39 (x : RS) (hx : x.l.length ≤ 100000) (mx my l r n : Int) :
    rW f_celluloidref09_TakeRecords [] at_celluloidref09_TakeRecords_C39 (S_celluloidref09_TakeRecords_C39 x.fs x.ss kind x.a x.b (x.l.map Rec.e) (ints [t0, t1, t2, t3, t4]) x.σ.1 x.σ.2.1 x.σ.2.2 o1 o2 o3 1 mx my 0 0 0 0 0 [] [] 2 0 0 0 0 l r n [] []) =
    goQ kind o1 o2 o3 (endQ (chQ x mx my l r n) f mx my l r n) := by
  have e := one_c' (moveRec mx my) ⟨by simp [moveRec], by simp [moveRec], fun f hf => absurd hf (by simp [moveRec])⟩ 0 0
  rw [move_ok] at e
  simp only [Rec.e, moveRec, List.map_nil, List.cons_append, List.nil_append] at e
  rw [w_celluloidref09_TakeRecords_C39]
  unfold chQ
  cases hc : (x.σ.2.2 == 0) with
  | false =>
    simp only [Option.bind_some, Option.bind_none, andB, orB, orB2, List.getD_cons_zero, List.getD_cons_succ, toB_b, toI_i, toS_s, toL_l, cond_true, cond_false, List.length_map]
    exact q41 h kind o1 o2 o3 x hx mx my l r n
  | true =>
    simp only [e, Option.bind_some, Option.bind_none, andB, orB, orB2, List.getD_cons_zero, List.getD_cons_succ, toB_b, toI_i, toS_s, toL_l, cond_true, cond_false, List.length_map]
    cases (!(inB2 (-1048576) 1048576 mx && inB2 (-1048576) 1048576 my) || (decide (l > x.fs) || (decide (r > x.fs) || decide (n > x.ss)))) with
    | false =>
      simp only [Option.bind_some, Option.bind_none, andB, orB, orB2, List.getD_cons_zero, List.getD_cons_succ, toB_b, toI_i, toS_s, toL_l, cond_true, cond_false, List.length_map]
      exact q41 h kind o1 o2 o3 x hx mx my l r n
    | true =>
      simp only [Option.bind_some, Option.bind_none, andB, orB, orB2, List.getD_cons_zero, List.getD_cons_succ, toB_b, toI_i, toS_s, toL_l, cond_true, cond_false, List.length_map]
      exact q41 h kind o1 o2 o3 { x with σ := (x.σ.1, x.σ.2.1, 3) } hx mx my l r n
theorem q33 (x : RS) (hx : x.ok) (hl : x.l.length ≤ 90000) (mx my l r n : Int) :
    rW f_celluloidref09_TakeRecords [] at_celluloidref09_TakeRecords_C33 (S_celluloidref09_TakeRecords_C33 x.fs x.ss kind x.a x.b (x.l.map Rec.e) (ints [t0, t1, t2, t3, t4]) x.σ.1 x.σ.2.1 x.σ.2.2 o1 o2 o3 1 mx my 0 0 0 0 0 [] [] 2 0 0 0 0 l r n [] []) =
    goQ kind o1 o2 o3 (s4Q x f mx my l r n) := by
  obtain ⟨a0, a1, a2, a3, a4⟩ := told_at t0 t1 t2 t3 t4
  rw [w_celluloidref09_TakeRecords_C33]
  simp only [told_len, in5, a0, a1, a2, a3, a4, Option.bind_some, Option.bind_none, andB, orB, orB2, List.getD_cons_zero, List.getD_cons_succ, toB_b, toI_i, toS_s, toL_l, cond_true, cond_false, List.length_map]
  unfold s4Q
  rw [← h.1.1]
  cases bitB f 4 with
  | false =>
    simp only [Option.bind_some, Option.bind_none, andB, orB, orB2, List.getD_cons_zero, List.getD_cons_succ, toB_b, toI_i, toS_s, toL_l, cond_true, cond_false, List.length_map]
    exact q39 h kind o1 o2 o3 x (by omega) mx my l r n
  | true =>
    have ht := finT_len hx.1
    have p1 := qpl_c ht 4
    have h2 := pl_len ht 4
    have p2 := qpl_c h2 4
    have e := more_c { σ := (pl (pl (finT (listsP x.σ)).2.2 4).2 4).2, fs := (finT (listsP x.σ)).1.length, ss := (finT (listsP x.σ)).2.1.length, a := (pl (finT (listsP x.σ)).2.2 4).1, b := (pl (pl (finT (listsP x.σ)).2.2 4).2 4).1, l := x.l } (freshRec (finT (listsP x.σ)).1 (finT (listsP x.σ)).2.1) (by show x.l.length ≤ _; omega)
    simp only [Rec.e, freshRec, List.cons_append, List.nil_append] at e
    simp only [rTake_q hx.1, lists_eq, encT, p1, p2, e, Option.bind_some, Option.bind_none, andB, orB, orB2, List.getD_cons_zero, List.getD_cons_succ, toB_b, toI_i, toS_s, toL_l, cond_true, cond_false, List.length_map]
    exact q39 h kind o1 o2 o3 (freshQ x) (by
      have : (freshQ x).l.length = x.l.length + 1 := by unfold freshQ; exact moreR_n _ _
      omega) mx my l r n
theorem q31 (x : RS) (hx : x.ok) (hl : x.l.length ≤ 90000) (mx my l r : Int) :
    rW f_celluloidref09_TakeRecords [] at_celluloidref09_TakeRecords_C31 (S_celluloidref09_TakeRecords_C31 x.fs x.ss kind x.a x.b (x.l.map Rec.e) (ints [t0, t1, t2, t3, t4]) x.σ.1 x.σ.2.1 x.σ.2.2 o1 o2 o3 1 mx my 0 0 0 0 0 [] [] 2 0 0 0 0 l r (-1) [] []) =
    goQ kind o1 o2 o3 (s3Q x f mx my l r) := by
  obtain ⟨a0, a1, a2, a3, a4⟩ := told_at t0 t1 t2 t3 t4
  rw [w_celluloidref09_TakeRecords_C31]
  simp only [told_len, in5, a0, a1, a2, a3, a4, Option.bind_some, Option.bind_none, andB, orB, orB2, List.getD_cons_zero, List.getD_cons_succ, toB_b, toI_i, toS_s, toL_l, cond_true, cond_false, List.length_map]
  unfold s3Q stR
  rw [← h.1.2.1]
  cases bitB f 3 with
  | false =>
    simp only [Option.bind_some, Option.bind_none, andB, orB, orB2, List.getD_cons_zero, List.getD_cons_succ, toB_b, toI_i, toS_s, toL_l, cond_true, cond_false, List.length_map]
    exact q33 h kind o1 o2 o3 x hx hl mx my l r (-1)
  | true =>
    have h2 := pl_len hx.1 x.b
    simp only [qpl_c hx.1, Option.bind_some, Option.bind_none, andB, orB, orB2, List.getD_cons_zero, List.getD_cons_succ, toB_b, toI_i, toS_s, toL_l, cond_true, cond_false, List.length_map]
    exact q33 h kind o1 o2 o3 (plR x x.b).2 ⟨h2, hx.2⟩ hl mx my l r (plR x x.b).1
theorem q29 (x : RS) (hx : x.ok) (hl : x.l.length ≤ 90000) (mx my l : Int) :
    rW f_celluloidref09_TakeRecords [] at_celluloidref09_TakeRecords_C29 (S_celluloidref09_TakeRecords_C29 x.fs x.ss kind x.a x.b (x.l.map Rec.e) (ints [t0, t1, t2, t3, t4]) x.σ.1 x.σ.2.1 x.σ.2.2 o1 o2 o3 1 mx my 0 0 0 0 0 [] [] 2 0 0 0 0 l (-1) (-1) [] []) =
    goQ kind o1 o2 o3 (s2Q x f mx my l) := by
  obtain ⟨a0, a1, a2, a3, a4⟩ := told_at t0 t1 t2 t3 t4
  rw [w_celluloidref09_TakeRecords_C29]
  simp only [told_len, in5, a0, a1, a2, a3, a4, Option.bind_some, Option.bind_none, andB, orB, orB2, List.getD_cons_zero, List.getD_cons_succ, toB_b, toI_i, toS_s, toL_l, cond_true, cond_false, List.length_map]
  unfold s2Q stR
  rw [← h.1.2.2.1]
  cases bitB f 2 with
  | false =>
    simp only [Option.bind_some, Option.bind_none, andB, orB, orB2, List.getD_cons_zero, List.getD_cons_succ, toB_b, toI_i, toS_s, toL_l, cond_true, cond_false, List.length_map]
    exact q31 h kind o1 o2 o3 x hx hl mx my l (-1)
  | true =>
    have h2 := pl_len hx.1 x.a
    simp only [qpl_c hx.1, Option.bind_some, Option.bind_none, andB, orB, orB2, List.getD_cons_zero, List.getD_cons_succ, toB_b, toI_i, toS_s, toL_l, cond_true, cond_false, List.length_map]
    exact q31 h kind o1 o2 o3 (plR x x.a).2 ⟨h2, hx.2⟩ hl mx my l (plR x x.a).1
theorem q27 (x : RS) (hx : x.ok) (hl : x.l.length ≤ 90000) (mx my : Int) :
    rW f_celluloidref09_TakeRecords [] at_celluloidref09_TakeRecords_C27 (S_celluloidref09_TakeRecords_C27 x.fs x.ss kind x.a x.b (x.l.map Rec.e) (ints [t0, t1, t2, t3, t4]) x.σ.1 x.σ.2.1 x.σ.2.2 o1 o2 o3 1 mx my 0 0 0 0 0 [] [] 2 0 0 0 0 (-1) (-1) (-1) [] []) =
    goQ kind o1 o2 o3 (s1Q x f mx my) := by
  obtain ⟨a0, a1, a2, a3, a4⟩ := told_at t0 t1 t2 t3 t4
  rw [w_celluloidref09_TakeRecords_C27]
  simp only [told_len, in5, a0, a1, a2, a3, a4, Option.bind_some, Option.bind_none, andB, orB, orB2, List.getD_cons_zero, List.getD_cons_succ, toB_b, toI_i, toS_s, toL_l, cond_true, cond_false, List.length_map]
  unfold s1Q stR
  rw [← h.1.2.2.2.1]
  cases bitB f 1 with
  | false =>
    simp only [Option.bind_some, Option.bind_none, andB, orB, orB2, List.getD_cons_zero, List.getD_cons_succ, toB_b, toI_i, toS_s, toL_l, cond_true, cond_false, List.length_map]
    exact q29 h kind o1 o2 o3 x hx hl mx my (-1)
  | true =>
    have h2 := pl_len hx.1 x.a
    simp only [qpl_c hx.1, Option.bind_some, Option.bind_none, andB, orB, orB2, List.getD_cons_zero, List.getD_cons_succ, toB_b, toI_i, toS_s, toL_l, cond_true, cond_false, List.length_map]
    exact q29 h kind o1 o2 o3 (plR x x.a).2 ⟨h2, hx.2⟩ hl mx my (plR x x.a).1
end
end Go.AI
set_option linter.unusedVariables false
set_option linter.unusedSimpArgs false
set_option maxRecDepth 100000
namespace Go.AI
open Go Go.Proofs

/-- the same, or the same error -/
def Sim (x y : RS) : Prop := x.σ.2.2 = y.σ.2.2 ∧ (x.σ.2.2 = 0 → x = y)
theorem Sim.refl (x : RS) : Sim x x := ⟨rfl, fun _ => rfl⟩
theorem sim_of {x y : RS} (h : x = y) : Sim x y := h ▸ Sim.refl x
theorem sim_err {x y : RS} {e : Int} (he : e ≠ 0) (hx : x.σ.2.2 = e) (hy : y.σ.2.2 = e) : Sim x y := ⟨hx.trans hy.symm, fun h => absurd (hx.symm.trans h) he⟩
theorem pl_keep {σ : Rs} (h : σ.2.2 ≠ 0) (n : Int) : (pl σ n).2.2.2 = σ.2.2 := by rw [pl_err h]
theorem moreR_keep {x : RS} (h : x.σ.2.2 ≠ 0) (r : Rec) : (moreR x r).σ = x.σ := by unfold moreR; rw [show (x.σ.2.2 == 0) = false by simpa using h]; rfl
theorem takeR_keep {x : RS} (h : x.σ.2.2 ≠ 0) (r : Rec) : (takeR x r).σ = x.σ := by unfold takeR; rw [show (x.σ.2.2 == 0) = false by simpa using h]; rfl
theorem take_more {x y : RS} (s : Sim x y) (c : Cnt x) (r : Rec) : Sim (takeR x r) (moreR y r) := by
  by_cases he : x.σ.2.2 = 0
  · have e := s.2 he
    subst e
    have hc := c he
    unfold takeR moreR
    rw [show (x.σ.2.2 == 0) = true by simpa using he]
    by_cases h : x.l.length = 512
    · rw [show (x.l.length == 512) = true by simpa using h, show decide (x.l.length > 511) = true by simp; omega]
      refine sim_err (e := 7) (by decide) ?_ rfl
      show (failR x.σ 7).2.2 = 7
      unfold failR; rw [if_pos he]
    · rw [show (x.l.length == 512) = false by simpa using h, show decide (x.l.length > 511) = false by simp; omega]
      exact sim_of rfl
  · have hy : y.σ.2.2 ≠ 0 := s.1 ▸ he
    refine sim_err he ?_ ?_
    · rw [takeR_keep he]
    · rw [moreR_keep hy]; exact s.1.symm
theorem bit1 (x : RS) : (!((plR x 1).1 == 1)) = ((plR x 1).1 == 0) := by
  have : 0 ≤ (plR x 1).1 ∧ (plR x 1).1 < 2 := pl_rng x.σ 1 (by decide)
  rw [Bool.eq_iff_iff]; simp; omega
theorem edge_sim {x : RS} (c : Cnt x) : Sim (edgeR x) (edgeQ x) := by
  unfold edgeR edgeQ
  dsimp only
  rw [bit1]
  cases ((plR x 1).1 == 0) with
  | true =>
    exact take_more (Sim.refl _) (sgR_cnt (sgR_cnt (sgR_cnt (sgR_cnt (plR_cnt (plR_cnt c 1) 4) _) _) _) _) _
  | false =>
    simp only [cond_false]
    cases ((plR (plR (plR x 1).2 4).2 1).1 == 1) with
    | true =>
      exact take_more (Sim.refl _) (sgR_cnt (sgR_cnt (plR_cnt (plR_cnt (plR_cnt c 1) 4) 1) _) _) _
    | false =>
      simp only [cond_false]
      have c4 := plR_cnt (plR_cnt (plR_cnt (plR_cnt c 1) 4) 1) 1
      cases ((plR (plR (plR (plR x 1).2 4).2 1).2 1).1 == 1) with
      | true => exact take_more (Sim.refl _) (sgR_cnt c4 _) _
      | false => exact take_more (Sim.refl _) (sgR_cnt c4 _) _
theorem many_err {σ : Rs} (h : σ.2.2 ≠ 0) : (manyP σ).2 = σ := by
  unfold manyP; rw [lit_err h]; rfl
theorem lists_err {σ : Rs} (h : σ.2.2 ≠ 0) : (listsP σ).2.2 = σ := by
  have e1 := many_err h
  have e2 : (fillsP (manyP σ).1.toNat (manyP σ).2).2 = σ := by rw [e1]; exact fillsP_err _ h
  have e3 : (manyP (fillsP (manyP σ).1.toNat (manyP σ).2).2).2 = σ := by rw [e2]; exact e1
  show (strksP _ (manyP (fillsP (manyP σ).1.toNat (manyP σ).2).2).2).2 = σ
  rw [e3]; exact strksP_err _ h
theorem freshQ_keep {x : RS} (h : x.σ.2.2 ≠ 0) : (freshQ x).σ.2.2 = x.σ.2.2 := by
  unfold freshQ
  dsimp only
  have e1 : (finT (listsP x.σ)).2.2.2.2 = x.σ.2.2 := by
    have e := lists_err h
    unfold finT
    rw [e, if_pos h]
  have e2 : ∀ (y : RS), y.σ.2.2 = x.σ.2.2 → (plR y 4).2.σ.2.2 = x.σ.2.2 := fun y hy => by
    show (pl y.σ 4).2.2.2 = _
    rw [pl_keep (by rw [hy]; exact h)]; exact hy
  rw [moreR_keep]
  · exact e2 _ (e2 _ e1)
  · show (plR (plR _ 4).2 4).2.σ.2.2 ≠ 0
    rw [e2 _ (e2 _ e1)]; exact h
theorem fresh_sim {x : RS} (c : Cnt x) : Sim (freshR x) (freshQ x) := by
  by_cases he : x.σ.2.2 = 0
  · have hσ : (x.σ.1, x.σ.2.1, (0 : Int)) = x.σ := by rw [← he]
    unfold freshR freshQ
    rw [show (x.σ.2.2 != 0) = false by simp [he]]
    simp only [cond_false]
    unfold takeF
    rw [hσ]
    refine take_more (Sim.refl _) ?_ _
    have c0 : Cnt { x with σ := (finT (listsP x.σ)).2.2, fs := (finT (listsP x.σ)).1.length, ss := (finT (listsP x.σ)).2.1.length } := by
      refine cnt_of c ?_ rfl
      have a := takeF_adv x.σ.1 x.σ.2.1
      unfold takeF at a
      rw [hσ] at a
      exact a
    exact plR_cnt (plR_cnt c0 4) 4
  · refine sim_err he ?_ (freshQ_keep he)
    unfold freshR
    rw [show (x.σ.2.2 != 0) = true by simpa using he]
    rfl
theorem ch_sim {x y : RS} (s : Sim x y) (mx my l r n : Int) : Sim (chR x mx my l r n) (chQ y mx my l r n) := by
  by_cases he : x.σ.2.2 = 0
  · have e := s.2 he
    subst e
    unfold chR chQ
    have hc : (decide ((bif decide (r > l) then r else l) > x.fs) || decide (n > x.ss)) = (decide (l > x.fs) || (decide (r > x.fs) || decide (n > x.ss))) := by
      rw [← Bool.or_assoc]
      congr 1
      cases hd : decide (r > l) <;> simp only [decide_eq_true_eq, decide_eq_false_iff_not] at hd <;> simp only [cond_true, cond_false] <;> rw [Bool.eq_iff_iff] <;> simp <;> omega
    rw [hc, he]
    generalize (((0 : Int) == 0) && _) = b
    cases b
    · exact Sim.refl _
    · refine sim_err (e := 3) (by decide) ?_ rfl
      show (failR x.σ 3).2.2 = 3
      unfold failR; rw [if_pos he]
  · have hy : y.σ.2.2 ≠ 0 := s.1 ▸ he
    unfold chR chQ
    rw [show (x.σ.2.2 == 0) = false by simpa using he, show (y.σ.2.2 == 0) = false by simpa using hy]
    exact s
theorem end_sim {x y : RS} (s : Sim x y) (c : Cnt x) (f mx my l r n : Int) : Sim (endR x f mx my l r n) (endQ y f mx my l r n) := by
  have h1 : Sim (bif bitB f 0 then takeR x (moveRec mx my) else x) (bif bitB f 0 then moreR y (moveRec mx my) else y) := by
    cases bitB f 0
    · exact s
    · exact take_more s c _
  have h2 : Cnt (bif bitB f 0 then takeR x (moveRec mx my) else x) := by
    cases bitB f 0
    · exact c
    · exact takeR_cnt c _
  unfold endR endQ
  dsimp only
  cases anyB f
  · exact h1
  · exact take_more h1 h2 _
theorem s1_sim {x : RS} (c : Cnt x) (f mx my : Int) : Sim (s1R x f mx my) (s1Q x f mx my) := by
  unfold s1R s1Q s2R s2Q s3R s3Q s4R s4Q
  have c1 := stR_cnt c (bitB f 1) x.a
  generalize (stR (bitB f 1) x x.a).1 = l
  revert c1
  generalize (stR (bitB f 1) x x.a).2 = x1
  intro c1
  have c2 := stR_cnt c1 (bitB f 2) x1.a
  generalize (stR (bitB f 2) x1 x1.a).1 = r
  revert c2
  generalize (stR (bitB f 2) x1 x1.a).2 = x2
  intro c2
  have c3 := stR_cnt c2 (bitB f 3) x2.b
  generalize (stR (bitB f 3) x2 x2.b).1 = n
  revert c3
  generalize (stR (bitB f 3) x2 x2.b).2 = x3
  intro c3
  have h4 : Sim (bif bitB f 4 then freshR x3 else x3) (bif bitB f 4 then freshQ x3 else x3) := by
    cases bitB f 4
    · exact Sim.refl _
    · exact fresh_sim c3
  have c4 : Cnt (bif bitB f 4 then freshR x3 else x3) := by
    cases bitB f 4
    · exact c3
    · exact freshR_cnt c3
  refine end_sim (ch_sim h4 mx my l r n) ?_ f mx my l r n
  exact cnt_of c4 (chR_adv _ _ _ _ _ _) (chR_l _ _ _ _ _ _)
end Go.AI
set_option linter.unusedVariables false
set_option linter.unusedSimpArgs false
set_option maxRecDepth 100000
namespace Go.AI
open Go Go.Proofs

theorem qfin_c (x y : RS) (s : Sim x y) (h : LenOk x.σ) : (bif y.σ.2.2 != 0 then some ([PV.l [], PV.s [], PV.i 0, PV.i y.σ.2.2], ([] : List BX)) else (cW f_celluloidref02_Align [.s y.σ.1, .i y.σ.2.1] []).bind fun r => some ([PV.l (y.l.map Rec.e), PV.s (r.1.getD 0 PV.u).toS, PV.i (r.1.getD 1 PV.u).toI, PV.i 0], [])) = some (encX (finX x)) := by
  unfold finX
  by_cases he : x.σ.2.2 = 0
  · have e := s.2 he
    subst e
    rw [show (x.σ.2.2 != 0) = false by simp [he], if_neg (by simp [he]), (ralign_ans h _).c]; rfl
  · have hy : y.σ.2.2 ≠ 0 := s.1 ▸ he
    rw [show (y.σ.2.2 != 0) = true by simpa using hy, if_pos he, ← s.1]; rfl
theorem sum5 {b0 b1 b2 b3 b4 : Nat} (h0 : b0 < 2) (h1 : b1 < 2) (h2 : b2 < 2) (h3 : b3 < 2) (h4 : b4 < 2) :
    (IntKind.wrap .i64 (IntKind.wrap .i64 (IntKind.wrap .i64 (IntKind.wrap .i64 (IntKind.wrap .i64 ((0 : Int) + (b0 : Int)) + (b1 : Int)) + (b2 : Int)) + (b3 : Int)) + (b4 : Int)) == (0 : Int)) = (((16 * b0 + 8 * b1 + 4 * b2 + 2 * b3 + b4 : Nat) : Int) == 0) := by
  rw [wrap64 (n := 0 + (b0 : Int)) (by omega) (by omega), wrap64 (n := 0 + (b0 : Int) + b1) (by omega) (by omega), wrap64 (n := 0 + (b0 : Int) + b1 + b2) (by omega) (by omega), wrap64 (n := 0 + (b0 : Int) + b1 + b2 + b3) (by omega) (by omega), wrap64 (by omega) (by omega), Bool.eq_iff_iff]
  simp; omega
theorem flags5' (σ : Rs) : (σ.2.2 = 0 ∧ ∃ b0 b1 b2 b3 b4 : Nat, b0 < 2 ∧ b1 < 2 ∧ b2 < 2 ∧ b3 < 2 ∧ b4 < 2 ∧ (pl σ 1).1 = (b0 : Int) ∧ (pl (pl σ 1).2 1).1 = (b1 : Int) ∧ (pl (pl (pl σ 1).2 1).2 1).1 = (b2 : Int) ∧ (pl (pl (pl (pl σ 1).2 1).2 1).2 1).1 = (b3 : Int) ∧ (pl (pl (pl (pl (pl σ 1).2 1).2 1).2 1).2 1).1 = (b4 : Int) ∧
      (pl σ 5) = (((16 * b0 + 8 * b1 + 4 * b2 + 2 * b3 + b4 : Nat) : Int), five σ) ∧ (five σ).2.2 = 0) ∨
    ((pl σ 5).1 = 0 ∧ (pl σ 5).2.2.2 ≠ 0 ∧ (five σ).2.2 = (pl σ 5).2.2.2) := by
  by_cases he : σ.2.2 = 0
  · rcases flags5 he with h | h
    · exact .inl ⟨he, h⟩
    · exact .inr h
  · right
    have e : ∀ n, pl σ n = (0, σ) := fun n => pl_err he n
    unfold five
    rw [e 5, e 1]; dsimp only
    rw [e 1]; dsimp only
    rw [e 1]; dsimp only
    rw [e 1]; dsimp only
    rw [e 1]
    exact ⟨rfl, he, rfl⟩
theorem told_of {b0 b1 b2 b3 b4 : Nat} (h0 : b0 < 2) (h1 : b1 < 2) (h2 : b2 < 2) (h3 : b3 < 2) (h4 : b4 < 2) : toldE ((16 * b0 + 8 * b1 + 4 * b2 + 2 * b3 + b4 : Nat) : Int) b0 b1 b2 b3 b4 := by
  refine ⟨bits_of5 h0 h1 h2 h3 h4, ⟨by omega, by omega⟩, ⟨by omega, by omega⟩, ⟨by omega, by omega⟩⟩
theorem kind_c {f t0 t1 t2 t3 t4 kind : Int} (h : toldE f t0 t1 t2 t3 t4) (hk : 0 ≤ kind ∧ kind ≤ 2) :
    (bif (t0 == 1) then some [PV.b (decide (kind > 0) || decide (IntKind.wrap .i64 (IntKind.wrap .i64 (t1 + t2) + t3) > 0) && decide (kind > 1))] else some [PV.b (decide (IntKind.wrap .i64 (IntKind.wrap .i64 (t1 + t2) + t3) > 0) && decide (kind > 1))]) = some [PV.b ((bitB f 4 && (kind != 0)) || (anyB f && (kind == 2)))] := by
  rw [any_sum h, ← h.1.1]
  have e1 : decide (kind > 0) = (kind != 0) := by rw [Bool.eq_iff_iff]; simp; omega
  have e2 : decide (kind > 1) = (kind == 2) := by rw [Bool.eq_iff_iff]; simp; omega
  rw [e1, e2]
  cases bitB f 4 <;> cases (kind != 0) <;> cases anyB f <;> cases (kind == 2) <;> rfl
theorem sgs2 (n : Int) (σ : Rs) : sgs n 2 σ = ([(sg σ n).1, (sg (sg σ n).2 n).1], (sg (sg σ n).2 n).2) := rfl
theorem sev_sim {x : RS} (c : Cnt x) {f kind : Int} (h : ((bitB f 4 && (kind != 0)) || (anyB f && (kind == 2))) = false) : Sim (sevR x f kind) (s1Q (mvR x f).2 f (mvR x f).1.1 (mvR x f).1.2) := by
  unfold sevR
  rw [h]
  exact s1_sim (mvR_cnt c f) _ _ _
theorem sev_fail {x : RS} (he : x.σ.2.2 = 0) {f kind : Int} (h : ((bitB f 4 && (kind != 0)) || (anyB f && (kind == 2))) = true) : (sevR x f kind).σ.2.2 = 3 := by
  unfold sevR
  rw [h]
  show (failR x.σ 3).2.2 = 3
  unfold failR; rw [if_pos he]
theorem edgeQ_st (x : RS) : ({ edgeQ x with fs := x.fs, ss := x.ss, a := x.a, b := x.b } : RS) = edgeQ x := by
  unfold edgeQ
  dsimp only
  cases ((plR x 1).1 == 0) with
  | true => rfl
  | false =>
    simp only [cond_false]
    cases ((plR (plR (plR x 1).2 4).2 1).1 == 1) with
    | true => rfl
    | false =>
      simp only [cond_false]
      cases ((plR (plR (plR (plR x 1).2 4).2 1).2 1).1 == 1) <;> rfl
theorem qtake_rounds (kind : Int) (hk : 0 ≤ kind ∧ kind ≤ 2) (o1 : List UInt8) (o2 o3 : Int) : ∀ (n : Nat) (x y : RS), Sim x y → x.ok → x.l.length ≤ 600 → Cnt x → Fuel n x.σ →
    goQ kind o1 o2 o3 y = some (encX (finX (loopR kind n x))) := by
  intro n
  induction n with
  | zero =>
    intro x y s h hl hc hf
    have he : x.σ.2.2 ≠ 0 := fun e => by have := (hf e).1; omega
    have hy : y.σ.2.2 ≠ 0 := s.1 ▸ he
    rw [goQ, w_celluloidref09_TakeRecords_L0, show (y.σ.2.2 == 0) = false by simpa using hy]
    simp only [Option.bind_some, Option.bind_none, andB, orB, orB2, List.getD_cons_zero, List.getD_cons_succ, toB_b, toI_i, toS_s, toL_l, cond_true, cond_false, List.length_map]
    exact qfin_c x y s h.1
  | succ n ih =>
    intro x y s h hl hc hf
    rw [goQ, w_celluloidref09_TakeRecords_L0]
    by_cases he : x.σ.2.2 = 0
    · have exy := s.2 he
      subst exy
      unfold loopR
      rw [show (x.σ.2.2 == 0) = true by simpa using he]
      have h1 := plR_len x 1 h.1
      have o1' : (plR x 1).2.ok := ⟨h1, h.2⟩
      have c1 := plR_cnt hc 1
      simp only [qpl_c h.1, Option.bind_some, Option.bind_none, andB, orB, orB2, List.getD_cons_zero, List.getD_cons_succ, toB_b, toI_i, toS_s, toL_l, cond_true, cond_false, List.length_map]
      cases hq : ((plR x 1).1 == 1) with
      | true =>
        have hq' : ((pl x.σ 1).1 == 1) = true := hq
        have e := edgeQ_c _ o1'
        have e1 : (plR x 1).2.σ = (pl x.σ 1).2 := rfl
        have e2 : (plR x 1).2.l = x.l := rfl
        rw [e1, e2] at e
        simp only [hq', e, Option.bind_some, Option.bind_none, andB, orB, orB2, List.getD_cons_zero, List.getD_cons_succ, toB_b, toI_i, toS_s, toL_l, cond_true, cond_false, List.length_map]
        have a := edgeR_adv (plR x 1).2
        have cn := edgeR_cnt c1
        have ln := edgeR_n (plR x 1).2
        have ln' : (edgeR (plR x 1).2).l.length ≤ 513 := by
          have := hc he
          rw [e2] at ln; omega
        have es := edge_sim c1
        have r := ih (edgeR (plR x 1).2) { edgeQ (plR x 1).2 with fs := x.fs, ss := x.ss, a := x.a, b := x.b } ?_ ⟨edgeR_len h1, by omega⟩ (by omega) cn (fuel_next hf rfl a)
        · exact r
        · have e3 : ({ edgeQ (plR x 1).2 with fs := x.fs, ss := x.ss, a := x.a, b := x.b } : RS) = edgeQ (plR x 1).2 := edgeQ_st _
          rw [e3]; exact es
      | false =>
        have hq' : ((pl x.σ 1).1 == 1) = false := hq
        have g1 := pl_len h.1 1
        have g2 := pl_len g1 1
        have g3 := pl_len g2 1
        have g4 := pl_len g3 1
        have g5 := pl_len g4 1
        have g6 := pl_len g5 1
        simp only [hq', qpl_c g1, qpl_c g2, qpl_c g3, qpl_c g4, qpl_c g5, Option.bind_some, Option.bind_none, andB, orB, orB2, List.getD_cons_zero, List.getD_cons_succ, toB_b, toI_i, toS_s, toL_l, cond_true, cond_false, List.length_map]
        have h2 := plR_len _ 5 h1
        have o2' : (plR (plR x 1).2 5).2.ok := ⟨h2, h.2⟩
        have c2 := plR_cnt c1 5
        rcases flags5' (pl x.σ 1).2 with ⟨_, b0, b1, b2, b3, b4, l0, l1, l2, l3, l4, v0, v1, v2, v3, v4, v5, v6⟩ | ⟨z1, z2, z3⟩
        · have tl := told_of l0 l1 l2 l3 l4
          have pe : plR (plR x 1).2 5 = (((16 * b0 + 8 * b1 + 4 * b2 + 2 * b3 + b4 : Nat) : Int), { x with σ := five (pl x.σ 1).2 }) := by
            unfold plR; dsimp only; rw [v5]
          rw [pe] at o2' c2
          have a1 : Adv (plR x 1).2.σ (five (pl x.σ 1).2) := by
            have := plR_adv (plR x 1).2 5
            rw [pe] at this; exact this
          rw [pe]
          dsimp only at o2' c2 ⊢
          rw [v0, v1, v2, v3, v4]
          rw [show (pl (pl (pl (pl (pl (pl x.σ 1).2 1).2 1).2 1).2 1).2 1).2 = five (pl x.σ 1).2 from rfl, sum5 l0 l1 l2 l3 l4, v6]
          generalize hf5 : ((16 * b0 + 8 * b1 + 4 * b2 + 2 * b3 + b4 : Nat) : Int) = f at tl o2' c2 ⊢
          generalize five (pl x.σ 1).2 = τ at v6 a1 o2' c2 ⊢
          cases hz : (f == 0) with
          | true =>
            have fin := qfin_c { x with σ := τ } { x with σ := τ } (Sim.refl _) o2'.1
            dsimp only at fin
            rw [v6] at fin
            simp only [Option.bind_some, Option.bind_none, andB, orB, orB2, List.getD_cons_zero, List.getD_cons_succ, toB_b, toI_i, toS_s, toL_l, cond_true, cond_false, List.length_map]
            exact fin
          | false =>
            simp only [show ((0 : Int) != 0) = false from rfl, Option.bind_some, Option.bind_none, andB, orB, orB2, List.getD_cons_zero, List.getD_cons_succ, toB_b, toI_i, toS_s, toL_l, cond_true, cond_false, List.length_map]
            rw [kind_c tl hk]
            simp only [Bool.or_false, Option.bind_some, Option.bind_none, andB, orB, orB2, List.getD_cons_zero, List.getD_cons_succ, toB_b, toI_i, toS_s, toL_l, cond_true, cond_false, List.length_map]
            cases hb : ((bitB f 4 && (kind != 0)) || (anyB f && (kind == 2))) with
            | true =>
              have e3 := sev_fail (x := { x with σ := τ }) v6 hb
              have e4 : loopR kind n (sevR { x with σ := τ } f kind) = sevR { x with σ := τ } f kind := by
                cases n with
                | zero => rfl
                | succ n => unfold loopR; rw [e3]; rfl
              rw [e4]
              unfold finX
              rw [e3]
              rfl
            | false =>
              have es := sev_sim c2 hb
              have a := a1.trans (sevR_adv { x with σ := τ } f kind)
              have cn := sevR_cnt c2 f kind
              obtain ⟨le, ln⟩ := sevR_both o2' f kind
              have ln' : (sevR { x with σ := τ } f kind).l.length ≤ 515 := by
                have := hc he
                have ln : (sevR { x with σ := τ } f kind).l.length ≤ x.l.length + 3 := ln
                omega
              have r := ih _ _ es ⟨le, by omega⟩ (by omega) cn (fuel_next hf rfl a)
              rw [← r]
              have hl' : x.l.length ≤ 90000 := by omega
              unfold mvR
              rw [← tl.1.2.2.2.2]
              cases bitB f 0 with
              | true =>
                have k1 := pl_len o2'.1 5
                have k2 := sg_len k1 (pl τ 5).1
                have k3 := sg_len k2 (pl τ 5).1
                have sv := several_c k1 2 (by decide) (pl τ 5).1 2 rfl
                rw [sgs2] at sv
                have p5 := qpl_c o2'.1 5
                rw [v6] at p5
                have q := q27 tl kind o1 o2 o3 { x with σ := (sg (sg (pl τ 5).2 (pl τ 5).1).2 (pl τ 5).1).2 } ⟨k3, h.2⟩ hl' (sg (pl τ 5).2 (pl τ 5).1).1 (sg (sg (pl τ 5).2 (pl τ 5).1).2 (pl τ 5).1).1
                simp only [p5, sv, Option.bind_some, Option.bind_none, andB, orB, orB2, List.getD_cons_zero, List.getD_cons_succ, toB_b, toI_i, toS_s, toL_l, cond_true, cond_false, List.length_map]
                exact q
              | false =>
                have q := q27 tl kind o1 o2 o3 { x with σ := τ } o2' hl' 0 0
                dsimp only at q
                rw [v6] at q
                simp only [Option.bind_some, Option.bind_none, andB, orB, orB2, List.getD_cons_zero, List.getD_cons_succ, toB_b, toI_i, toS_s, toL_l, cond_true, cond_false, List.length_map]
                exact q
        · have pz : ((plR (plR x 1).2 5).1 == 0) = true := by
            show ((pl (pl x.σ 1).2 5).1 == 0) = true
            rw [z1]; rfl
          rw [pz]
          rw [show (pl (pl (pl (pl (pl (pl x.σ 1).2 1).2 1).2 1).2 1).2 1).2 = five (pl x.σ 1).2 from rfl, z3]
          have zb : ((pl (pl x.σ 1).2 5).2.2.2 != 0) = true := by simpa using z2
          have fin := qfin_c (plR (plR x 1).2 5).2 (plR (plR x 1).2 5).2 (Sim.refl _) h2
          rw [show (plR (plR x 1).2 5).2.σ.2.2 = (pl (pl x.σ 1).2 5).2.2.2 from rfl, zb] at fin
          rw [zb]
          generalize (IntKind.wrap .i64 _ == (0 : Int)) = c
          cases c <;> simp only [Option.bind_some, Option.bind_none, andB, orB, orB2, List.getD_cons_zero, List.getD_cons_succ, toB_b, toI_i, toS_s, toL_l, cond_true, cond_false, List.length_map] <;> exact fin
    · have hy : y.σ.2.2 ≠ 0 := s.1 ▸ he
      rw [show (y.σ.2.2 == 0) = false by simpa using hy]
      have e0 : loopR kind (n + 1) x = x := by
        unfold loopR; rw [show (x.σ.2.2 == 0) = false by simpa using he]; rfl
      rw [e0]
      simp only [Option.bind_some, Option.bind_none, andB, orB, orB2, List.getD_cons_zero, List.getD_cons_succ, toB_b, toI_i, toS_s, toL_l, cond_true, cond_false, List.length_map]
      exact qfin_c x y s h.1
end Go.AI
set_option linter.unusedVariables false
set_option linter.unusedSimpArgs false
set_option maxRecDepth 100000
namespace Go.AI
open Go Go.Proofs

end Go.AI
set_option linter.unusedVariables false
set_option linter.unusedSimpArgs false
set_option maxRecDepth 100000
namespace Go.AI
open Go Go.Proofs

theorem qbegin_c {s : List UInt8} (h : s.length ≤ 2 ^ 40) (a : Int) : cW f_celluloidref07_Begin [.s s, .i a] [] = some ([.s (beginR s a).1, .i (beginR s a).2.1, .i (beginR s a).2.2], []) := (qbegin_ans h a).c
theorem start_sim (s : List UInt8) (a fs ss : Int) : Sim (startR (beginP s a) fs ss) (startR (beginR s a) fs ss) := by
  unfold beginP beginR
  by_cases hr : rightB s a = true
  · rw [if_pos hr, if_pos hr]; exact Sim.refl _
  · rw [if_neg hr, if_neg hr]
    have k : ∀ (σ : Rs), σ.2.2 = 1 → (startR σ fs ss).σ.2.2 = 1 := fun σ h => by
      have hn : σ.2.2 ≠ 0 := by rw [h]; decide
      show (pl (pl σ 4).2 4).2.2.2 = 1
      rw [pl_err hn]
      dsimp only
      rw [pl_err hn]; exact h
    exact sim_err (e := 1) (by decide) (k _ rfl) (k _ rfl)
theorem qTakeRecords_c {s : List UInt8} (h : s.length ≤ 2 ^ 40) (a fs ss kind : Int) (hk : 0 ≤ kind ∧ kind ≤ 2) : cW f_celluloidref09_TakeRecords [.s s, .i a, .i 0, .i fs, .i ss, .i kind] [] = some (encX (takeRecsX s a fs ss kind)) := by
  rw [w_celluloidref09_TakeRecords]
  have hb := (begin_len h a).1
  have hq := (begin_len h a).2
  have p1 := qpl_c hq 4
  have p2 := qpl_c (pl_len hq 4) 4
  obtain ⟨s1, s2, s3⟩ := start_ok hb fs ss
  have hr := qtake_rounds kind hk [] 0 0 (8 * s.length + 1) (startR (beginP s a) fs ss) (startR (beginR s a) fs ss) (start_sim s a fs ss) ⟨s1, by rw [s2]; exact Nat.zero_le _⟩ (by rw [s2]; exact Nat.zero_le _) (fun _ => by rw [s2]; exact Nat.zero_le _)
      (start_fuel (a := a) rfl (fun e => by
        have hr : rightB s a = true := by
          have e : (beginP s a).2.2 = 0 := e
          unfold beginP at e
          by_cases hr : rightB s a = true
          · exact hr
          · rw [if_neg hr] at e; exact absurd e (by show (1 : Int) ≠ 0; decide)
        obtain ⟨q1, q2⟩ := rightB_iff.1 hr
        show 0 ≤ alignF s a
        unfold alignF; rw [if_pos hr]; omega) hb)
  simp only [show ((0 : Int) == 0) = true from rfl, qbegin_c h, p1, p2, Option.bind_some, Option.bind_none, andB, orB, orB2, List.getD_cons_zero, List.getD_cons_succ, toB_b, toI_i, toS_s, toL_l, cond_true, cond_false, List.length_map]
  exact hr
end Go.AI
