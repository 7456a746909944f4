/- Equations of the program's functions: each says what the interpreter answers for a call, by the answers one level below. -/
import Derived.Test.YtlahaamidmbajaaGreatAiM
import Derived.Test.YtlahaamidmbajaaGreatProg
import Derived.KernelRfl
set_option linter.unusedVariables false
set_option maxRecDepth 100000
namespace Go.AI
open Go Go.Proofs
def lookA : List (Nat × Nat × Keep) → Nat → Nat → Option Keep
  | [], _, _ => none
  | (f, k, kp) :: l, f', k' => bif Nat.beq f f' && Nat.beq k k' then some kp else lookA l f' k'
def loopTab : List (Nat × Nat × Keep) := [(14, 0, { slots := [(3, .any), (6, .pl 80), (7, .any), (8, .any)], boxes := [], r := 1000, own := [] }),
  (24, 0, { slots := [(1, .any), (6, .pl 3), (7, .any), (8, .any)], boxes := [(.n 1 0 0)], r := 1000, own := [] }),
  (24, 3, { slots := [(1, .any), (5, .any)], boxes := [(.n 1 0 0)], r := 2000, own := [] }),
  (30, 0, { slots := [(0, .pl 96), (1, .any), (2, .any), (6, .any), (8, .any), (9, .any), (10, .any)], boxes := [(.n 1 0 0), (.n 2 1 0)], r := 1000, own := [] }),
  (44, 0, { slots := [(0, .pl 169), (1, .pl 173), (5, .any)], boxes := [], r := 1000, own := [] }),
  (44, 2, { slots := [(0, .pl 169), (1, .pl 173), (6, .any)], boxes := [], r := 2000, own := [] }),
  (52, 0, { slots := [(1, .any), (3, .any)], boxes := [(.n 1 0 0)], r := 1000, own := [] }),
  (83, 0, { slots := [(2, .any), (3, .any), (5, .any)], boxes := [(.n 1 0 0), (.n 1 1 0)], r := 1000, own := [] }),
  (114, 0, { slots := [(0, .pl 176), (1, .pl 176), (5, .any)], boxes := [], r := 1000, own := [] }),
  (154, 0, { slots := [(0, .pl 231), (1, .pl 231), (12, .any), (13, .any)], boxes := [], r := 1000, own := [] }),
  (5, 0, { slots := [(1, .any), (7, .pl 82), (8, .pl 82), (9, .any), (10, .row 4), (42, .pl 80), (43, .any), (44, .any)], boxes := [], r := 1000, own := [] }),
  (5, 2, { slots := [(7, .pl 82), (8, .pl 82), (10, .row 4), (84, .any), (85, .any)], boxes := [], r := 2000, own := [] }),
  (5, 4, { slots := [(7, .pl 82), (8, .pl 82), (10, .row 4), (105, .pl 82), (106, .any), (107, .any)], boxes := [], r := 3000, own := [] }),
  (5, 6, { slots := [(7, .pl 82), (8, .pl 82), (10, .row 4), (15, .any), (16, .any), (105, .pl 82), (106, .any), (107, .any), (111, .pl 82), (112, .any), (113, .any)], boxes := [(.n 3001 2 0)], r := 4000, own := [] }),
  (5, 8, { slots := [(7, .pl 82), (10, .row 4), (144, .pl 82), (145, .any), (146, .any)], boxes := [], r := 5000, own := [] }),
  (5, 10, { slots := [(7, .pl 82), (10, .row 4), (20, .any), (21, .any), (144, .pl 82), (145, .any), (146, .any), (150, .pl 82), (151, .any), (152, .any)], boxes := [(.n 5001 2 0)], r := 6000, own := [] }),
  (10, 0, { slots := [(0, .pl 100), (1, .pl 100), (5, .any)], boxes := [], r := 1000, own := [] }),
  (15, 0, { slots := [(0, .pl 96), (3, .any), (4, .any)], boxes := [], r := 1000, own := [] }),
  (25, 0, { slots := [(0, .pl 80), (5, .any), (10, .pl 80), (11, .any), (12, .any)], boxes := [], r := 1000, own := [] }),
  (41, 0, { slots := [(0, .any), (1, .any), (3, .any), (27, .pl 176), (28, .any), (29, .any)], boxes := [], r := 1000, own := [] }),
  (45, 0, { slots := [(0, .any), (1, .any), (2, .pl 176), (3, .any), (9, .any)], boxes := [], r := 1000, own := [] }),
  (53, 0, { slots := [(1, .any), (3, .any)], boxes := [(.n 1 0 0)], r := 1000, own := [] }),
  (72, 1, { slots := [(1, .any), (3, .any), (68, .pl 231), (69, .any), (70, .any)], boxes := [(.n 1 0 0)], r := 1000, own := [] }),
  (115, 0, { slots := [(0, .pl 3), (1, .any), (7, .any), (8, .any)], boxes := [(.p 0), (.p 1)], r := 1000, own := [] }),
  (123, 0, { slots := [(0, .pl 173), (1, .any), (7, .any), (8, .any)], boxes := [], r := 1000, own := [] }),
  (155, 0, { slots := [(0, .pl 173), (1, .pl 173), (12, .any), (13, .any)], boxes := [], r := 1000, own := [] }),
  (11, 0, { slots := [(3, .row 100), (6, .pl 82), (7, .any), (8, .any)], boxes := [], r := 1000, own := [] }),
  (46, 0, { slots := [(0, .pl 176), (1, .any), (5, .any)], boxes := [], r := 1000, own := [] }),
  (81, 0, { slots := [(0, .pl 169), (1, .pl 173), (5, .any)], boxes := [], r := 1000, own := [] }),
  (85, 0, { slots := [(1, .any), (3, .any)], boxes := [(.n 1 0 0)], r := 1000, own := [] }),
  (116, 0, { slots := [(0, .pl 169), (1, .any), (7, .any), (8, .any)], boxes := [], r := 1000, own := [] }),
  (124, 0, { slots := [(2, .any), (3, .any), (23, .any), (24, .any)], boxes := [(.n 1 0 0), (.n 1 1 0)], r := 1000, own := [] }),
  (8, 0, { slots := [(4, .row 96), (12, .pl 80), (13, .any), (14, .any)], boxes := [], r := 1000, own := [] }),
  (13, 0, { slots := [(0, .pl 96), (5, .row 100), (6, .any), (7, .any)], boxes := [], r := 1000, own := [] }),
  (23, 0, { slots := [(1, .any), (2, .any), (4, .any), (36, .pl 80), (37, .any), (38, .any)], boxes := [(.n 1 0 0), (.n 1 1 0), (.n 2 15 0)], r := 1000, own := [((.n 1 1 0), 30), ((.n 1 1 0), 31), ((.n 1 1 0), 32), ((.n 1 1 0), 42), ((.n 1 1 0), 43), ((.n 1 1 0), 44), ((.n 1 1 0), 45), ((.n 1 1 0), 46), ((.n 1 1 0), 47), ((.n 1 1 0), 51), ((.n 1 1 0), 54), ((.n 2 15 0), 54)] }),
  (29, 0, { slots := [(0, .pl 96), (1, .any), (5, .any)], boxes := [], r := 1000, own := [] }),
  (51, 0, { slots := [(13, .pl 3), (14, .any), (15, .any)], boxes := [], r := 1000, own := [] }),
  (78, 1, { slots := [(1, .any), (3, .any)], boxes := [(.n 1 0 0)], r := 1000, own := [] }),
  (113, 0, { slots := [(0, .pl 169), (1, .pl 169), (2, .pl 173), (3, .pl 173), (9, .any)], boxes := [], r := 1000, own := [] }),
  (113, 2, { slots := [(2, .pl 173), (3, .pl 173), (10, .any)], boxes := [], r := 2000, own := [] }),
  (153, 0, { slots := [(2, .any), (3, .any), (5, .any)], boxes := [(.n 1 0 0), (.n 1 1 0)], r := 1000, own := [] })]
def cutTab : List (Nat × Nat × Keep) := [(26, 5, { slots := [(3, .any), (4, .any), (6, .any), (8, .any)], boxes := [(.n 1 0 0), (.n 1 1 0), (.n 1 2 0)], r := 1000, own := [] }),
  (26, 7, { slots := [(4, .any), (6, .any), (8, .any)], boxes := [(.n 1 0 0), (.n 1 1 0), (.n 1 2 0)], r := 2000, own := [] }),
  (26, 9, { slots := [(4, .any), (6, .any), (8, .any)], boxes := [(.n 1 0 0), (.n 1 1 0), (.n 1 2 0)], r := 3000, own := [] }),
  (26, 11, { slots := [(4, .any), (6, .any), (8, .any)], boxes := [(.n 1 0 0), (.n 1 1 0), (.n 1 2 0)], r := 4000, own := [] }),
  (26, 13, { slots := [(4, .any), (6, .any), (8, .any)], boxes := [(.n 1 0 0), (.n 1 1 0), (.n 1 2 0)], r := 5000, own := [] }),
  (30, 8, { slots := [(0, .pl 96), (1, .any), (2, .any), (6, .any), (8, .any), (9, .any), (10, .any), (11, .any)], boxes := [(.n 1 0 0), (.n 2 1 0), (.n 1001 4 0)], r := 2000, own := [] }),
  (30, 13, { slots := [(0, .pl 96), (1, .any), (2, .any), (6, .any), (8, .any), (9, .any), (10, .any), (12, .any)], boxes := [(.n 1 0 0), (.n 2 1 0), (.n 2000 2 0)], r := 3000, own := [] }),
  (30, 15, { slots := [(0, .pl 96), (1, .any), (2, .any), (6, .any), (8, .any), (9, .any), (10, .any), (12, .any)], boxes := [(.n 1 0 0), (.n 2 1 0), (.n 2000 2 0)], r := 4000, own := [] }),
  (30, 17, { slots := [(0, .pl 96), (1, .any), (2, .any), (6, .any), (8, .any), (9, .any), (10, .any), (12, .any)], boxes := [(.n 1 0 0), (.n 2 1 0), (.n 2000 2 0)], r := 5000, own := [] }),
  (30, 19, { slots := [(0, .pl 96), (1, .any), (2, .any), (6, .any), (8, .any), (9, .any), (10, .any), (12, .any)], boxes := [(.n 1 0 0), (.n 2 1 0), (.n 2000 2 0)], r := 6000, own := [] }),
  (30, 21, { slots := [(0, .pl 96), (1, .any), (2, .any), (6, .any), (8, .any), (9, .any), (10, .any), (12, .any)], boxes := [(.n 1 0 0), (.n 2 1 0), (.n 2000 2 0)], r := 7000, own := [] })]
def ann : Ann := { loop := lookA loopTab, cut := fun f k => bif Nat.beq f 12 || (Nat.beq f 16 || Nat.beq f 64) then some { slots := [], boxes := [.w 0], r := 0 } else lookA cutTab f k, ownT := fun t _ => Nat.beq t 9999, ownA := fun f e => false, ownR := fun f e => false, wrT := fun f _ => false }
noncomputable abbrev call (k : Nat) := callAt Tryz.prog ann k
noncomputable abbrev run (k : Nat) := runAt Tryz.prog ann k
noncomputable def cW : CallF := callW Tryz.prog ann
noncomputable def rW : FuncId → List TypeId → List Item → St → Option Res := runW Tryz.prog ann
theorem cW_fix (f : FuncId) (args : List PV) (bs : List BX) : cW f args bs = stepC Tryz.prog ann cW rW f args bs := callW_fix _ _ f args bs
theorem rW_fix (f : FuncId) (pts : List TypeId) (t : List Item) (st : St) : rW f pts t st = stepR Tryz.prog ann cW rW f pts t st := runW_fix _ _ f pts t st
theorem Ans.c {f : FuncId} {ps : List PV} {bs : List BX} {r : Res} (h : Ans (fun k => call k f ps bs) r) : cW f ps bs = some r := h.w
theorem c_at (n : Nat) {f : FuncId} {ps : List PV} {bs : List BX} {r : Res} (h : callAt Tryz.prog ann n f ps bs = some r) : cW f ps bs = some r := (callW_iff _ _).2 ⟨n, h⟩
def f_celluloidlaw22_SceneSteps : Nat := 5
def f_celluloidlaw22_refs : Nat := 8
def f_celluloidlaw22_awake : Nat := 9
def f_scene_Items : Nat := 12
def f_scene_Shows : Nat := 14
def f_scene_Of : Nat := 16
def f_celluloidref09_Right : Nat := 22
def f_celluloidlaw22_tref : Nat := 23
def f_celluloidref13_Right : Nat := 24
def f_scene_place : Nat := 26
def f_field_Same : Nat := 33
def f_field_Plain : Nat := 34
def f_celluloidref09_in : Nat := 42
def f_celluloidref07_Rect : Nat := 43
def f_celluloidref08_Right : Nat := 44
def f_celluloidref09_Records : Nat := 45
def f_celluloidref09_Small : Nat := 46
def f_celluloidref10_Small : Nat := 47
def f_celluloidref13_nothing : Nat := 48
def f_celluloidref13_place : Nat := 49
def f_celluloidref13_in : Nat := 50
def f_celluloidref07_RGBA : Nat := 51
def f_celluloidref10_Right : Nat := 52
def f_celluloidref11_Right : Nat := 53
def f_celluloidref13_step : Nat := 54
def f_celluloidref13_Tells : Nat := 57
def f_celluloidref09_Equal : Nat := 66
def f_celluloidref07_in : Nat := 77
def f_celluloidref08_Fill : Nat := 78
def f_celluloidref08_Stroke : Nat := 79
def f_celluloidref09_one : Nat := 80
def f_celluloidref08_Small : Nat := 81
def f_celluloidref10_Equal : Nat := 82
def f_celluloidref11_Equal : Nat := 83
def f_celluloidref07_Matrix : Nat := 84
def f_celluloidref07_Cx : Nat := 85
def f_celluloidref08_SameLists : Nat := 113
def f_celluloidref09_Same : Nat := 114
def f_celluloidref08_Same : Nat := 153
/- celluloid/field.Same -/
/- celluloid/celluloidref07.Matrix -/
theorem u_celluloidref07_Matrix (k : Nat) (a1 : Int) (a2 : Int) (a3 : Int) (a4 : Int) (a5 : Int) (a6 : Int) : call (k + 1) f_celluloidref07_Matrix [.i a1, .i a2, .i a3, .i a4, .i a5, .i a6] [] =
  ((call k f_celluloidref07_in [(PV.i a1), (PV.i (4194304 : Int))] []).bind fun r1 =>
   (bif (((r1).1.getD 0 PV.u)).toB then (call k f_celluloidref07_in [(PV.i a2), (PV.i (4194304 : Int))] []).bind fun r2 =>
   (bif (((r2).1.getD 0 PV.u)).toB then (call k f_celluloidref07_in [(PV.i a3), (PV.i (4194304 : Int))] []).bind fun r3 =>
   (bif (((r3).1.getD 0 PV.u)).toB then (call k f_celluloidref07_in [(PV.i a4), (PV.i (4194304 : Int))] []).bind fun r4 =>
   (bif (((r4).1.getD 0 PV.u)).toB then (call k f_celluloidref07_in [(PV.i a5), (PV.i (1048576 : Int))] []).bind fun r5 =>
   (bif (((r5).1.getD 0 PV.u)).toB then (call k f_celluloidref07_in [(PV.i a6), (PV.i (1048576 : Int))] []).bind fun r6 =>
   some [(PV.b (((r6).1.getD 0 PV.u)).toB)]
   else some [(PV.b false)])
   else some [(PV.b false)])
   else some [(PV.b false)])
   else some [(PV.b false)])
   else some [(PV.b false)])).bind fun r7 =>
  some ([(PV.b ((r7.getD 0 PV.u)).toB)], []) := by kernel_rfl
/- celluloid/field.Plain -/
/- celluloid/celluloidref07.in -/
theorem u_celluloidref07_in (k : Nat) (a1 : Int) (a2 : Int) : call (k + 1) f_celluloidref07_in [.i a1, .i a2] [] =
  ((bif (decide (a1 ≥ (IntKind.wrap .i64 ((0 : Int) - a2)))) then some [(PV.b (decide (a1 ≤ a2)))]
   else some [(PV.b false)])).bind fun r1 =>
  some ([(PV.b ((r1.getD 0 PV.u)).toB)], []) := by kernel_rfl
/- celluloid/celluloidref07.Cx -/
noncomputable def S_celluloidref07_Cx_L0 (x1 : Int) (x2 : Int) (x3 : Int) (x4 : Int) (x5 : Int) (x6 : Int) (x7 : Int) (x8 : Int) : St := mkSt [(1, .v (.ptr (.n 1 0 0) 0)), (3, .v (.int .i64 ((0 : Int))))] [((.n 1 0 0), .cells 64 [.int .i64 x1, .int .i64 x2, .int .i64 x3, .int .i64 x4, .int .i64 x5, .int .i64 x6, .int .i64 x7, .int .i64 x8])] 1000 22
noncomputable def at_celluloidref07_Cx_L0 : List Item := (atLoop Tryz.f85 0)
noncomputable def S_celluloidref07_Cx_L0_1 (x1 : Int) (x2 : Int) (x3 : Int) (x4 : Int) (x5 : Int) (x6 : Int) (x7 : Int) (x8 : Int) : St := mkSt [(1, .v (.ptr (.n 1 0 0) 0)), (3, .v (.int .i64 ((1 : Int))))] [((.n 1 0 0), .cells 64 [.int .i64 x1, .int .i64 x2, .int .i64 x3, .int .i64 x4, .int .i64 x5, .int .i64 x6, .int .i64 x7, .int .i64 x8])] 1000 22
noncomputable def S_celluloidref07_Cx_L0_2 (x1 : Int) (x2 : Int) (x3 : Int) (x4 : Int) (x5 : Int) (x6 : Int) (x7 : Int) (x8 : Int) : St := mkSt [(1, .v (.ptr (.n 1 0 0) 0)), (3, .v (.int .i64 ((2 : Int))))] [((.n 1 0 0), .cells 64 [.int .i64 x1, .int .i64 x2, .int .i64 x3, .int .i64 x4, .int .i64 x5, .int .i64 x6, .int .i64 x7, .int .i64 x8])] 1000 22
noncomputable def S_celluloidref07_Cx_L0_3 (x1 : Int) (x2 : Int) (x3 : Int) (x4 : Int) (x5 : Int) (x6 : Int) (x7 : Int) (x8 : Int) : St := mkSt [(1, .v (.ptr (.n 1 0 0) 0)), (3, .v (.int .i64 ((3 : Int))))] [((.n 1 0 0), .cells 64 [.int .i64 x1, .int .i64 x2, .int .i64 x3, .int .i64 x4, .int .i64 x5, .int .i64 x6, .int .i64 x7, .int .i64 x8])] 1000 22
noncomputable def S_celluloidref07_Cx_L0_4 (x1 : Int) (x2 : Int) (x3 : Int) (x4 : Int) (x5 : Int) (x6 : Int) (x7 : Int) (x8 : Int) : St := mkSt [(1, .v (.ptr (.n 1 0 0) 0)), (3, .v (.int .i64 ((4 : Int))))] [((.n 1 0 0), .cells 64 [.int .i64 x1, .int .i64 x2, .int .i64 x3, .int .i64 x4, .int .i64 x5, .int .i64 x6, .int .i64 x7, .int .i64 x8])] 1000 22
theorem u_celluloidref07_Cx (k : Nat) (a1 : Int) (a2 : Int) (a3 : Int) (a4 : Int) (a5 : Int) (a6 : Int) (a7 : Int) (a8 : Int) : call (k + 1) f_celluloidref07_Cx [.i a1, .i a2, .i a3, .i a4, .i a5, .i a6, .i a7, .i a8] [] =
  run k f_celluloidref07_Cx [] at_celluloidref07_Cx_L0 (S_celluloidref07_Cx_L0 (a1) (a2) (a3) (a4) (a5) (a6) (a7) (a8)) := by kernel_rfl
theorem u_celluloidref07_Cx_L0 (k : Nat) (x1 : Int) (x2 : Int) (x3 : Int) (x4 : Int) (x5 : Int) (x6 : Int) (x7 : Int) (x8 : Int) : run (k + 1) f_celluloidref07_Cx [] at_celluloidref07_Cx_L0 (S_celluloidref07_Cx_L0 x1 x2 x3 x4 x5 x6 x7 x8) =
  ((call k f_celluloidref07_in [(PV.i x1), (PV.i (512 : Int))] []).bind fun r1 =>
   (bif (!(((r1).1.getD 0 PV.u)).toB) then some [(PV.b true)]
   else (call k f_celluloidref07_in [(PV.i x5), (PV.i (255 : Int))] []).bind fun r2 =>
   some [(PV.b (!(((r2).1.getD 0 PV.u)).toB))])).bind fun r3 =>
  (bif ((r3.getD 0 PV.u)).toB then some ([(PV.b false)], [])
  else run k f_celluloidref07_Cx [] at_celluloidref07_Cx_L0 (S_celluloidref07_Cx_L0_1 (x1) (x2) (x3) (x4) (x5) (x6) (x7) (x8))) := by kernel_rfl
theorem u_celluloidref07_Cx_L0_1 (k : Nat) (x1 : Int) (x2 : Int) (x3 : Int) (x4 : Int) (x5 : Int) (x6 : Int) (x7 : Int) (x8 : Int) : run (k + 1) f_celluloidref07_Cx [] at_celluloidref07_Cx_L0 (S_celluloidref07_Cx_L0_1 x1 x2 x3 x4 x5 x6 x7 x8) =
  ((call k f_celluloidref07_in [(PV.i x2), (PV.i (512 : Int))] []).bind fun r4 =>
   (bif (!(((r4).1.getD 0 PV.u)).toB) then some [(PV.b true)]
   else (call k f_celluloidref07_in [(PV.i x6), (PV.i (255 : Int))] []).bind fun r5 =>
   some [(PV.b (!(((r5).1.getD 0 PV.u)).toB))])).bind fun r6 =>
  (bif ((r6.getD 0 PV.u)).toB then some ([(PV.b false)], [])
  else run k f_celluloidref07_Cx [] at_celluloidref07_Cx_L0 (S_celluloidref07_Cx_L0_2 (x1) (x2) (x3) (x4) (x5) (x6) (x7) (x8))) := by kernel_rfl
theorem u_celluloidref07_Cx_L0_2 (k : Nat) (x1 : Int) (x2 : Int) (x3 : Int) (x4 : Int) (x5 : Int) (x6 : Int) (x7 : Int) (x8 : Int) : run (k + 1) f_celluloidref07_Cx [] at_celluloidref07_Cx_L0 (S_celluloidref07_Cx_L0_2 x1 x2 x3 x4 x5 x6 x7 x8) =
  ((call k f_celluloidref07_in [(PV.i x3), (PV.i (512 : Int))] []).bind fun r7 =>
   (bif (!(((r7).1.getD 0 PV.u)).toB) then some [(PV.b true)]
   else (call k f_celluloidref07_in [(PV.i x7), (PV.i (255 : Int))] []).bind fun r8 =>
   some [(PV.b (!(((r8).1.getD 0 PV.u)).toB))])).bind fun r9 =>
  (bif ((r9.getD 0 PV.u)).toB then some ([(PV.b false)], [])
  else run k f_celluloidref07_Cx [] at_celluloidref07_Cx_L0 (S_celluloidref07_Cx_L0_3 (x1) (x2) (x3) (x4) (x5) (x6) (x7) (x8))) := by kernel_rfl
theorem u_celluloidref07_Cx_L0_3 (k : Nat) (x1 : Int) (x2 : Int) (x3 : Int) (x4 : Int) (x5 : Int) (x6 : Int) (x7 : Int) (x8 : Int) : run (k + 1) f_celluloidref07_Cx [] at_celluloidref07_Cx_L0 (S_celluloidref07_Cx_L0_3 x1 x2 x3 x4 x5 x6 x7 x8) =
  ((call k f_celluloidref07_in [(PV.i x4), (PV.i (512 : Int))] []).bind fun r10 =>
   (bif (!(((r10).1.getD 0 PV.u)).toB) then some [(PV.b true)]
   else (call k f_celluloidref07_in [(PV.i x8), (PV.i (255 : Int))] []).bind fun r11 =>
   some [(PV.b (!(((r11).1.getD 0 PV.u)).toB))])).bind fun r12 =>
  (bif ((r12.getD 0 PV.u)).toB then some ([(PV.b false)], [])
  else run k f_celluloidref07_Cx [] at_celluloidref07_Cx_L0 (S_celluloidref07_Cx_L0_4 (x1) (x2) (x3) (x4) (x5) (x6) (x7) (x8))) := by kernel_rfl
theorem u_celluloidref07_Cx_L0_4 (k : Nat) (x1 : Int) (x2 : Int) (x3 : Int) (x4 : Int) (x5 : Int) (x6 : Int) (x7 : Int) (x8 : Int) : run (k + 1) f_celluloidref07_Cx [] at_celluloidref07_Cx_L0 (S_celluloidref07_Cx_L0_4 x1 x2 x3 x4 x5 x6 x7 x8) =
  some ([(PV.b true)], []) := by kernel_rfl
/- celluloid/field.RightMatrix -/
/- celluloid/celluloidref07.Rect -/
theorem u_celluloidref07_Rect (k : Nat) (a1 : Int) (a2 : Int) (a3 : Int) (a4 : Int) : call (k + 1) f_celluloidref07_Rect [.i a1, .i a2, .i a3, .i a4] [] =
  ((call k f_celluloidref07_in [(PV.i a1), (PV.i (1048576 : Int))] []).bind fun r1 =>
   (bif (((r1).1.getD 0 PV.u)).toB then (call k f_celluloidref07_in [(PV.i a2), (PV.i (1048576 : Int))] []).bind fun r2 =>
   (bif (((r2).1.getD 0 PV.u)).toB then (call k f_celluloidref07_in [(PV.i a3), (PV.i (1048576 : Int))] []).bind fun r3 =>
   (bif (((r3).1.getD 0 PV.u)).toB then (call k f_celluloidref07_in [(PV.i a4), (PV.i (1048576 : Int))] []).bind fun r4 =>
   (bif (((r4).1.getD 0 PV.u)).toB then (bif (decide (a1 ≤ a2)) then some [(PV.b (decide (a3 ≤ a4)))]
   else some [(PV.b false)])
   else some [(PV.b false)])
   else some [(PV.b false)])
   else some [(PV.b false)])
   else some [(PV.b false)])).bind fun r5 =>
  some ([(PV.b ((r5.getD 0 PV.u)).toB)], []) := by kernel_rfl
/- celluloid/celluloidref07.RGBA -/
noncomputable def S_celluloidref07_RGBA_L0 (x1 : List (List PV)) (x2 : Int) (x3 : Int) : St := mkSt [(13, .v (.sl 3 x1)), (14, .v (.int .i64 x2)), (15, .v (.int .i64 x3))] [] 1000 26
noncomputable def at_celluloidref07_RGBA_L0 : List Item := (atLoop Tryz.f51 0)
theorem u_celluloidref07_RGBA (k : Nat) (a1 : Int) (a2 : Int) (a3 : Int) (a4 : Int) : call (k + 1) f_celluloidref07_RGBA [.i a1, .i a2, .i a3, .i a4] [] =
  run k f_celluloidref07_RGBA [] at_celluloidref07_RGBA_L0 (S_celluloidref07_RGBA_L0 ((List.set (List.set (List.set (List.set [[(PV.i (0 : Int))], [(PV.i (0 : Int))], [(PV.i (0 : Int))], [(PV.i (0 : Int))]] 0 [(PV.i a1)]) 1 [(PV.i a2)]) 2 [(PV.i a3)]) 3 [(PV.i a4)])) ((((List.length (List.set (List.set (List.set (List.set [[(PV.i (0 : Int))], [(PV.i (0 : Int))], [(PV.i (0 : Int))], [(PV.i (0 : Int))]] 0 [(PV.i a1)]) 1 [(PV.i a2)]) 2 [(PV.i a3)]) 3 [(PV.i a4)])) : Nat) : Int)) ((0 : Int))) := by kernel_rfl
theorem u_celluloidref07_RGBA_L0 (k : Nat) (x1 : List (List PV)) (x2 : Int) (x3 : Int) : run (k + 1) f_celluloidref07_RGBA [] at_celluloidref07_RGBA_L0 (S_celluloidref07_RGBA_L0 x1 x2 x3) =
  (bif (decide (x3 < x2)) then (bif (inB x3 (List.length x1)) then ((bif (decide ((((elemAt x1 x3).getD 0 PV.u)).toI < (0 : Int))) then some [(PV.b true)]
   else some [(PV.b (decide ((((elemAt x1 x3).getD 0 PV.u)).toI > (255 : Int))))])).bind fun r1 =>
  (bif ((r1.getD 0 PV.u)).toB then some ([(PV.b false)], [])
  else run k f_celluloidref07_RGBA [] at_celluloidref07_RGBA_L0 (S_celluloidref07_RGBA_L0 (x1) (x2) ((IntKind.wrap .i64 (x3 + (1 : Int))))))
  else none)
  else some ([(PV.b true)], [])) := by kernel_rfl
/- celluloid/field.RightRGBA -/
end Go.AI
