/- Calls of plain functions that a scene's walk makes. -/
import Derived.Test.YtlahaamidmbajaaGreatT22i
set_option linter.unusedVariables false
set_option linter.unusedSimpArgs false
set_option maxRecDepth 100000
namespace Go.AI
open Go Go.RowKit Go.Proofs Go.Maps
def sameM : Nat → Int
  | 0 => 65536
  | 3 => 65536
  | _ => 0
def plainX : Nat → Int
  | 0 => 256
  | 1 => 256
  | 2 => 256
  | 3 => 256
  | _ => 0
abbrev ints6 (x : Nat → Int) : List AL := [.int .i64 (x 0), .int .i64 (x 1), .int .i64 (x 2), .int .i64 (x 3), .int .i64 (x 4), .int .i64 (x 5)]
abbrev ints8 (x : Nat → Int) : List AL := [.int .i64 (x 0), .int .i64 (x 1), .int .i64 (x 2), .int .i64 (x 3), .int .i64 (x 4), .int .i64 (x 5), .int .i64 (x 6), .int .i64 (x 7)]
theorem mat_agg {N : Nat → Prop} {hp : Array Obj} {β : GM} (x : Nat → Int) : VR Tryz.prog N hp β (.agg (ints6 x)) (.agg (matL x).toArray) :=
  VR.agg _ (matL x) rfl (fun i hi => cases6 (p := fun i => LR Tryz.prog N hp β ((ints6 x).getD i .dead) ((matL x).getD i undef)) ⟨rfl, rfl, rfl, rfl, rfl, rfl⟩ i hi)
theorem cx_agg {N : Nat → Prop} {hp : Array Obj} {β : GM} (x : Nat → Int) : VR Tryz.prog N hp β (.agg (ints8 x)) (.agg (cxLv x).toArray) :=
  VR.agg _ (cxLv x) rfl (fun i hi => cases8 (p := fun i => LR Tryz.prog N hp β ((ints8 x).getD i .dead) ((cxLv x).getD i undef)) ⟨rfl, rfl, rfl, rfl, rfl, rfl, rfl, rfl⟩ i hi)
theorem mat_inv {N : Nat → Prop} {hp : Array Obj} {β : GM} {x : Nat → Int} {v : Value} (h : VR Tryz.prog N hp β (.agg (ints6 x)) v) : v = .agg (matL x).toArray := by
  cases h with
  | agg _ vs hl h =>
    have hl : vs.length = 6 := hl
    have e : vs = matL x := by
      refine List.ext_getElem? (fun i => ?_)
      by_cases h3 : i < 6
      · rw [getD_some (d := undef) (by rw [hl]; exact h3), getD_some (d := undef) (show i < (matL x).length from h3)]
        have := h i h3
        revert this
        generalize vs.getD i undef = u
        exact cases6 (p := fun i => LR Tryz.prog N hp β ((ints6 x).getD i .dead) u → some u = some ((matL x).getD i undef)) ⟨fun h => congrArg some h, fun h => congrArg some h, fun h => congrArg some h, fun h => congrArg some h, fun h => congrArg some h, fun h => congrArg some h⟩ i h3
      · rw [List.getElem?_eq_none (by omega), List.getElem?_eq_none (by show 6 ≤ i; omega)]
    rw [e]
theorem cx_inv {N : Nat → Prop} {hp : Array Obj} {β : GM} {x : Nat → Int} {v : Value} (h : VR Tryz.prog N hp β (.agg (ints8 x)) v) : v = .agg (cxLv x).toArray := by
  cases h with
  | agg _ vs hl h =>
    have hl : vs.length = 8 := hl
    have e : vs = cxLv x := by
      refine List.ext_getElem? (fun i => ?_)
      by_cases h3 : i < 8
      · rw [getD_some (d := undef) (by rw [hl]; exact h3), getD_some (d := undef) (show i < (cxLv x).length from h3)]
        have := h i h3
        revert this
        generalize vs.getD i undef = u
        exact cases8 (p := fun i => LR Tryz.prog N hp β ((ints8 x).getD i .dead) u → some u = some ((cxLv x).getD i undef)) ⟨fun h => congrArg some h, fun h => congrArg some h, fun h => congrArg some h, fun h => congrArg some h, fun h => congrArg some h, fun h => congrArg some h, fun h => congrArg some h, fun h => congrArg some h⟩ i h3
      · rw [List.getElem?_eq_none (by omega), List.getElem?_eq_none (by show 8 ≤ i; omega)]
    rw [e]
def matE (y : Nat → Int) : List PV := [.i (y 0), .i (y 1), .i (y 2), .i (y 3), .i (y 4), .i (y 5)]
def cxE (y : Nat → Int) : List PV := [.i (y 0), .i (y 1), .i (y 2), .i (y 3), .i (y 4), .i (y 5), .i (y 6), .i (y 7)]
theorem Compose_s : callW Tryz.prog ann 96 (matE sameM ++ matE sameM) [] = some (matE sameM ++ [.i 0], []) := c_at 60 (by kernel_rfl)
theorem ComposeCx_s : callW Tryz.prog ann 97 (cxE plainX ++ cxE plainX) [] = some (cxE plainX, []) := c_at 60 (by kernel_rfl)
theorem same_calls (w : World) : Calls Tryz.prog 33 #[] w fun e w' => e = .returned (.agg (matL sameM).toArray) ∧ Bel w.heap.size w w' := by
  obtain ⟨m, hm⟩ := (callW_iff _ _).1 (show callW Tryz.prog ann 33 [] [] = _ from Same_c)
  refine (plain_calls (A := ann) (fn := Tryz.f33) (c := Tryz.f33.body.getD .skip) noCountT (noPrim rfl) hm Tryz.func33 (by kernel_rfl) (by kernel_rfl)
    (avs := []) (by kernel_rfl) (by kernel_rfl) (args := []) (w := w) rfl (fun i hi => absurd hi (Nat.not_lt_zero _))).mono ?_
  rintro e w' ⟨v, rfl, hb, vs, rfl, hvs⟩
  refine ⟨?_, hb⟩
  obtain ⟨h1, h2⟩ := hvs [.agg (ints6 sameM)] [] 0 (by kernel_rfl)
  match vs, h1 with
  | [v1], _ =>
    have e1 : v1 = _ := mat_inv (h2 0 (by simp))
    rw [e1]
    rfl
theorem plain_calls34 (w : World) : Calls Tryz.prog 34 #[] w fun e w' => e = .returned (.agg (cxLv plainX).toArray) ∧ Bel w.heap.size w w' := by
  obtain ⟨m, hm⟩ := (callW_iff _ _).1 (show callW Tryz.prog ann 34 [] [] = _ from Plain_c)
  refine (plain_calls (A := ann) (fn := Tryz.f34) (c := Tryz.f34.body.getD .skip) noCountT (noPrim rfl) hm Tryz.func34 (by kernel_rfl) (by kernel_rfl)
    (avs := []) (by kernel_rfl) (by kernel_rfl) (args := []) (w := w) rfl (fun i hi => absurd hi (Nat.not_lt_zero _))).mono ?_
  rintro e w' ⟨v, rfl, hb, vs, rfl, hvs⟩
  refine ⟨?_, hb⟩
  obtain ⟨h1, h2⟩ := hvs [.agg (ints8 plainX)] [] 0 (by kernel_rfl)
  match vs, h1 with
  | [v1], _ =>
    have e1 : v1 = _ := cx_inv (h2 0 (by simp))
    rw [e1]
    rfl
theorem compose_calls (w : World) : Calls Tryz.prog 96 #[.agg (matL sameM).toArray, .agg (matL sameM).toArray] w fun e w' => e = .returned (.tuple #[.agg (matL sameM).toArray, .int .i64 0]) ∧ Bel w.heap.size w w' := by
  obtain ⟨m, hm⟩ := (callW_iff _ _).1 Compose_s
  refine (plain_calls (A := ann) (fn := Tryz.f96) (c := Tryz.f96.body.getD .skip) noCountT (noPrim rfl) hm Tryz.func96 (by kernel_rfl) (by kernel_rfl)
    (avs := [.agg (ints6 sameM), .agg (ints6 sameM)]) (by kernel_rfl) (by kernel_rfl) (args := [.agg (matL sameM).toArray, .agg (matL sameM).toArray]) (w := w) rfl (fun i hi => ?_)).mono ?_
  · match i, hi with
    | 0, _ => exact mat_agg _
    | 1, _ => exact mat_agg _
  rintro e w' ⟨v, rfl, hb, vs, rfl, hvs⟩
  refine ⟨?_, hb⟩
  obtain ⟨h1, h2⟩ := hvs [.agg (ints6 sameM), .v (.int .i64 0)] [] 0 (by kernel_rfl)
  match vs, h1 with
  | [v1, v2], _ =>
    have e1 : v1 = _ := mat_inv (h2 0 (by simp))
    have e2 : v2 = .int .i64 0 := (h2 1 (by simp)).leaf
    rw [e1, e2]
    rfl
theorem composeCx_calls (w : World) : Calls Tryz.prog 97 #[.agg (cxLv plainX).toArray, .agg (cxLv plainX).toArray] w fun e w' => e = .returned (.agg (cxLv plainX).toArray) ∧ Bel w.heap.size w w' := by
  obtain ⟨m, hm⟩ := (callW_iff _ _).1 ComposeCx_s
  refine (plain_calls (A := ann) (fn := Tryz.f97) (c := Tryz.f97.body.getD .skip) noCountT (noPrim rfl) hm Tryz.func97 (by kernel_rfl) (by kernel_rfl)
    (avs := [.agg (ints8 plainX), .agg (ints8 plainX)]) (by kernel_rfl) (by kernel_rfl) (args := [.agg (cxLv plainX).toArray, .agg (cxLv plainX).toArray]) (w := w) rfl (fun i hi => ?_)).mono ?_
  · match i, hi with
    | 0, _ => exact cx_agg _
    | 1, _ => exact cx_agg _
  rintro e w' ⟨v, rfl, hb, vs, rfl, hvs⟩
  refine ⟨?_, hb⟩
  obtain ⟨h1, h2⟩ := hvs [.agg (ints8 plainX)] [] 0 (by kernel_rfl)
  match vs, h1 with
  | [v1], _ =>
    have e1 : v1 = _ := cx_inv (h2 0 (by simp))
    rw [e1]
    rfl
end Go.AI
