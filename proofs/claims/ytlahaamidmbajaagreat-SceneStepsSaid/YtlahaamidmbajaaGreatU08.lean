/- Equations of the program's functions, on. -/
import Derived.Test.YtlahaamidmbajaaGreatU
import Derived.KernelRfl
set_option linter.unusedVariables false
set_option maxRecDepth 100000
namespace Go.AI
open Go Go.Proofs
/- celluloid/style.Right -/
/- celluloid/celluloidref08.Right -/
noncomputable def S_celluloidref08_Right_L0 (x1 : List (List PV)) (x2 : List (List PV)) (x3 : Int) : St := mkSt [(0, .v (.sl 169 x1)), (1, .v (.sl 173 x2)), (5, .v (.int .i64 x3))] [] 1000 39
noncomputable def at_celluloidref08_Right_L0 : List Item := (atLoop Tryz.f44 0)
noncomputable def S_celluloidref08_Right_L2 (x1 : List (List PV)) (x2 : List (List PV)) (x3 : Int) : St := mkSt [(0, .v (.sl 169 x1)), (1, .v (.sl 173 x2)), (6, .v (.int .i64 x3))] [] 2000 39
noncomputable def at_celluloidref08_Right_L2 : List Item := (atLoop Tryz.f44 2)
theorem w_celluloidref08_Right (a1 : List (List PV)) (a2 : List (List PV)) : cW f_celluloidref08_Right [.l a1, .l a2] [] =
  rW f_celluloidref08_Right [] at_celluloidref08_Right_L0 (S_celluloidref08_Right_L0 (a1) (a2) ((0 : Int))) := by rw [cW_fix]; generalize cW = C; generalize rW = R; kernel_rfl
theorem w_celluloidref08_Right_L0 (x1 : List (List PV)) (x2 : List (List PV)) (x3 : Int) : rW f_celluloidref08_Right [] at_celluloidref08_Right_L0 (S_celluloidref08_Right_L0 x1 x2 x3) =
  (bif (decide (x3 < (((List.length x1) : Nat) : Int))) then (bif (inB x3 (List.length x1)) then (cW f_celluloidref08_Fill [(PV.i (((elemAt x1 x3).getD 0 PV.u)).toI), (PV.i (((elemAt x1 x3).getD 1 PV.u)).toI), (PV.i (((elemAt x1 x3).getD 2 PV.u)).toI), (PV.i (((elemAt x1 x3).getD 3 PV.u)).toI), (PV.i (((elemAt x1 x3).getD 4 PV.u)).toI), (PV.i (((elemAt x1 x3).getD 5 PV.u)).toI), (PV.i (((elemAt x1 x3).getD 6 PV.u)).toI), (PV.i (((elemAt x1 x3).getD 7 PV.u)).toI), (PV.i (((elemAt x1 x3).getD 8 PV.u)).toI), (PV.i (((elemAt x1 x3).getD 9 PV.u)).toI), (PV.i (((elemAt x1 x3).getD 10 PV.u)).toI), (PV.i (((elemAt x1 x3).getD 11 PV.u)).toI), (PV.l (((elemAt x1 x3).getD 12 PV.u)).toL), (PV.i (((elemAt x1 x3).getD 13 PV.u)).toI)] []).bind fun r1 =>
  (bif (!(((r1).1.getD 0 PV.u)).toB) then some ([(PV.b false)], [])
  else rW f_celluloidref08_Right [] at_celluloidref08_Right_L0 (S_celluloidref08_Right_L0 (x1) (x2) ((IntKind.wrap .i64 (x3 + (1 : Int))))))
  else none)
  else rW f_celluloidref08_Right [] at_celluloidref08_Right_L2 (S_celluloidref08_Right_L2 (x1) (x2) ((0 : Int)))) := by rw [rW_fix]; generalize cW = C; generalize rW = R; kernel_rfl
theorem w_celluloidref08_Right_L2 (x1 : List (List PV)) (x2 : List (List PV)) (x3 : Int) : rW f_celluloidref08_Right [] at_celluloidref08_Right_L2 (S_celluloidref08_Right_L2 x1 x2 x3) =
  (bif (decide (x3 < (((List.length x2) : Nat) : Int))) then (bif (inB x3 (List.length x2)) then (cW f_celluloidref08_Stroke [(PV.i (((elemAt x2 x3).getD 0 PV.u)).toI), (PV.i (((elemAt x2 x3).getD 1 PV.u)).toI), (PV.i (((elemAt x2 x3).getD 2 PV.u)).toI), (PV.i (((elemAt x2 x3).getD 3 PV.u)).toI), (PV.i (((elemAt x2 x3).getD 4 PV.u)).toI)] []).bind fun r2 =>
  (bif (!(((r2).1.getD 0 PV.u)).toB) then some ([(PV.b false)], [])
  else rW f_celluloidref08_Right [] at_celluloidref08_Right_L2 (S_celluloidref08_Right_L2 (x1) (x2) ((IntKind.wrap .i64 (x3 + (1 : Int))))))
  else none)
  else ((bif (decide ((((List.length x1) : Nat) : Int) < (16 : Int))) then some [(PV.b (decide ((((List.length x2) : Nat) : Int) < (16 : Int))))]
   else some [(PV.b false)])).bind fun r3 =>
  some ([(PV.b ((r3.getD 0 PV.u)).toB)], [])) := by rw [rW_fix]; generalize cW = C; generalize rW = R; kernel_rfl
/- celluloid/style.Right$1 -/
/- celluloid/style.RightStroke -/
/- celluloid/celluloidref08.Stroke -/
theorem w_celluloidref08_Stroke (a1 : Int) (a2 : Int) (a3 : Int) (a4 : Int) (a5 : Int) : cW f_celluloidref08_Stroke [.i a1, .i a2, .i a3, .i a4, .i a5] [] =
  ((bif (decide (a1 ≥ (0 : Int))) then (bif (decide (a1 < (65536 : Int))) then (cW f_celluloidref07_RGBA [(PV.i a2), (PV.i a3), (PV.i a4), (PV.i a5)] []).bind fun r1 =>
   some [(PV.b (((r1).1.getD 0 PV.u)).toB)]
   else some [(PV.b false)])
   else some [(PV.b false)])).bind fun r2 =>
  some ([(PV.b ((r2.getD 0 PV.u)).toB)], []) := by rw [cW_fix]; generalize cW = C; generalize rW = R; kernel_rfl
/- celluloid/style.SameFill -/
/- celluloid/style.stop -/
/- slices.Equal[[]celluloid/api.Stop,celluloid/api.Stop] -/
/- celluloid/style.RightFill -/
/- celluloid/style.picture -/
/- slices.IndexFunc[[]celluloid/api.Stroke,celluloid/api.Stroke] -/
/- slices.Equal[[]celluloid/api.Stroke,celluloid/api.Stroke] -/
/- slices.ContainsFunc[[]celluloid/api.Stroke,celluloid/api.Stroke] -/
/- celluloid/celluloidref08.Small -/
noncomputable def S_celluloidref08_Small_L0 (x1 : List (List PV)) (x2 : List (List PV)) (x3 : Int) : St := mkSt [(0, .v (.sl 169 x1)), (1, .v (.sl 173 x2)), (5, .v (.int .i64 x3))] [] 1000 27
noncomputable def at_celluloidref08_Small_L0 : List Item := (atLoop Tryz.f81 0)
theorem w_celluloidref08_Small (a1 : List (List PV)) (a2 : List (List PV)) : cW f_celluloidref08_Small [.l a1, .l a2] [] =
  rW f_celluloidref08_Small [] at_celluloidref08_Small_L0 (S_celluloidref08_Small_L0 (a1) (a2) ((0 : Int))) := by rw [cW_fix]; generalize cW = C; generalize rW = R; kernel_rfl
theorem w_celluloidref08_Small_L0 (x1 : List (List PV)) (x2 : List (List PV)) (x3 : Int) : rW f_celluloidref08_Small [] at_celluloidref08_Small_L0 (S_celluloidref08_Small_L0 x1 x2 x3) =
  (bif (decide (x3 < (((List.length x1) : Nat) : Int))) then (bif (inB x3 (List.length x1)) then (bif (decide ((((List.length (((elemAt x1 x3).getD 12 PV.u)).toL) : Nat) : Int) > (20 : Int))) then some ([(PV.b false)], [])
  else rW f_celluloidref08_Small [] at_celluloidref08_Small_L0 (S_celluloidref08_Small_L0 (x1) (x2) ((IntKind.wrap .i64 (x3 + (1 : Int))))))
  else none)
  else ((bif (decide ((((List.length x1) : Nat) : Int) < (30 : Int))) then some [(PV.b (decide ((((List.length x2) : Nat) : Int) < (30 : Int))))]
   else some [(PV.b false)])).bind fun r1 =>
  some ([(PV.b ((r1.getD 0 PV.u)).toB)], [])) := by rw [rW_fix]; generalize cW = C; generalize rW = R; kernel_rfl
/- slices.IndexFunc[[]celluloid/api.Fill,celluloid/api.Fill] -/
/- slices.ContainsFunc[[]celluloid/api.Fill,celluloid/api.Fill] -/
/- celluloid/style.Right$2 -/
/- celluloid/celluloidref08.Fill -/
noncomputable def S_celluloidref08_Fill_L1 (x1 : Int) (x2 : Int) (x3 : Int) (x4 : Int) (x5 : Int) (x6 : Int) (x7 : Int) (x8 : Int) (x9 : Int) (x10 : Int) (x11 : Int) (x12 : Int) (x13 : Int) (x14 : List (List PV)) (x15 : Int) : St := mkSt [(1, .v (.ptr (.n 1 0 0) 0)), (3, .v (.int .i64 x1))] [((.n 1 0 0), .cells 169 [.int .i64 x2, .int .i64 x3, .int .i64 x4, .int .i64 x5, .int .i64 x6, .int .i64 x7, .int .i64 x8, .int .i64 x9, .int .i64 x10, .int .i64 x11, .int .i64 x12, .int .i64 x13, .sl 231 x14, .int .i64 x15])] 1000 150
noncomputable def at_celluloidref08_Fill_L1 : List Item := (atLoop Tryz.f78 1)
theorem w_celluloidref08_Fill (a1 : Int) (a2 : Int) (a3 : Int) (a4 : Int) (a5 : Int) (a6 : Int) (a7 : Int) (a8 : Int) (a9 : Int) (a10 : Int) (a11 : Int) (a12 : Int) (a13 : List (List PV)) (a14 : Int) : cW f_celluloidref08_Fill [.i a1, .i a2, .i a3, .i a4, .i a5, .i a6, .i a7, .i a8, .i a9, .i a10, .i a11, .i a12, .l a13, .i a14] [] =
  (bif (a1 == (0 : Int)) then ((bif ((a6 == (0 : Int)) && ((a7 == (0 : Int)) && ((a8 == (0 : Int)) && ((a9 == (0 : Int)) && ((a10 == (0 : Int)) && (a11 == (0 : Int))))))) then (bif (a12 == (0 : Int)) then (bif (a14 == (0 : Int)) then (bif ((((List.length a13) : Nat) : Int) == (0 : Int)) then (cW f_celluloidref07_RGBA [(PV.i a2), (PV.i a3), (PV.i a4), (PV.i a5)] []).bind fun r1 =>
   some [(PV.b (((r1).1.getD 0 PV.u)).toB)]
   else some [(PV.b false)])
   else some [(PV.b false)])
   else some [(PV.b false)])
   else some [(PV.b false)])).bind fun r2 =>
  some ([(PV.b ((r2.getD 0 PV.u)).toB)], [])
  else (bif (a1 == (64 : Int)) then ((bif ((a2 == (0 : Int)) && ((a3 == (0 : Int)) && ((a4 == (0 : Int)) && (a5 == (0 : Int))))) then (bif (a12 == (0 : Int)) then (bif ((((List.length a13) : Nat) : Int) == (0 : Int)) then (bif (decide (a14 ≥ (0 : Int))) then (bif (decide (a14 < (65536 : Int))) then (cW f_celluloidref07_Matrix [(PV.i a6), (PV.i a7), (PV.i a8), (PV.i a9), (PV.i a10), (PV.i a11)] []).bind fun r3 =>
   some [(PV.b (((r3).1.getD 0 PV.u)).toB)]
   else some [(PV.b false)])
   else some [(PV.b false)])
   else some [(PV.b false)])
   else some [(PV.b false)])
   else some [(PV.b false)])).bind fun r4 =>
  some ([(PV.b ((r4.getD 0 PV.u)).toB)], [])
  else (bif (a1 == (65 : Int)) then ((bif ((a2 == (0 : Int)) && ((a3 == (0 : Int)) && ((a4 == (0 : Int)) && (a5 == (0 : Int))))) then (bif (a12 == (0 : Int)) then (bif ((((List.length a13) : Nat) : Int) == (0 : Int)) then (bif (decide (a14 ≥ (0 : Int))) then (bif (decide (a14 < (65536 : Int))) then (cW f_celluloidref07_Matrix [(PV.i a6), (PV.i a7), (PV.i a8), (PV.i a9), (PV.i a10), (PV.i a11)] []).bind fun r5 =>
   some [(PV.b (((r5).1.getD 0 PV.u)).toB)]
   else some [(PV.b false)])
   else some [(PV.b false)])
   else some [(PV.b false)])
   else some [(PV.b false)])
   else some [(PV.b false)])).bind fun r6 =>
  some ([(PV.b ((r6.getD 0 PV.u)).toB)], [])
  else (bif (a1 == (16 : Int)) then rW f_celluloidref08_Fill [] at_celluloidref08_Fill_L1 (S_celluloidref08_Fill_L1 ((0 : Int)) (a1) (a2) (a3) (a4) (a5) (a6) (a7) (a8) (a9) (a10) (a11) (a12) (a13) (a14))
  else (bif (a1 == (18 : Int)) then rW f_celluloidref08_Fill [] at_celluloidref08_Fill_L1 (S_celluloidref08_Fill_L1 ((0 : Int)) (a1) (a2) (a3) (a4) (a5) (a6) (a7) (a8) (a9) (a10) (a11) (a12) (a13) (a14))
  else some ([(PV.b false)], [])))))) := by rw [cW_fix]; generalize cW = C; generalize rW = R; kernel_rfl
theorem w_celluloidref08_Fill_L1 (x1 : Int) (x2 : Int) (x3 : Int) (x4 : Int) (x5 : Int) (x6 : Int) (x7 : Int) (x8 : Int) (x9 : Int) (x10 : Int) (x11 : Int) (x12 : Int) (x13 : Int) (x14 : List (List PV)) (x15 : Int) : rW f_celluloidref08_Fill [] at_celluloidref08_Fill_L1 (S_celluloidref08_Fill_L1 x1 x2 x3 x4 x5 x6 x7 x8 x9 x10 x11 x12 x13 x14 x15) =
  (bif (decide (x1 < (((List.length x14) : Nat) : Int))) then (bif (inB x1 (List.length x14)) then ((bif (decide ((((elemAt x14 x1).getD 0 PV.u)).toI < (0 : Int))) then some [(PV.b true)]
   else (bif (decide ((((elemAt x14 x1).getD 0 PV.u)).toI > (255 : Int))) then some [(PV.b true)]
   else (bif (decide (x1 > (0 : Int))) then (bif (inB (IntKind.wrap .i64 (x1 - (1 : Int))) (List.length x14)) then (bif (decide ((((elemAt x14 x1).getD 0 PV.u)).toI < (((elemAt x14 (IntKind.wrap .i64 (x1 - (1 : Int)))).getD 0 PV.u)).toI)) then some [(PV.b true)]
   else (bif (inB x1 (List.length x14)) then (cW f_celluloidref07_RGBA [(PV.i (((elemAt x14 x1).getD 1 PV.u)).toI), (PV.i (((elemAt x14 x1).getD 2 PV.u)).toI), (PV.i (((elemAt x14 x1).getD 3 PV.u)).toI), (PV.i (((elemAt x14 x1).getD 4 PV.u)).toI)] []).bind fun r8 =>
   some [(PV.b (!(((r8).1.getD 0 PV.u)).toB))]
   else none))
   else none)
   else (bif (inB x1 (List.length x14)) then (cW f_celluloidref07_RGBA [(PV.i (((elemAt x14 x1).getD 1 PV.u)).toI), (PV.i (((elemAt x14 x1).getD 2 PV.u)).toI), (PV.i (((elemAt x14 x1).getD 3 PV.u)).toI), (PV.i (((elemAt x14 x1).getD 4 PV.u)).toI)] []).bind fun r7 =>
   some [(PV.b (!(((r7).1.getD 0 PV.u)).toB))]
   else none))))).bind fun r9 =>
  (bif ((r9.getD 0 PV.u)).toB then some ([(PV.b false)], [])
  else rW f_celluloidref08_Fill [] at_celluloidref08_Fill_L1 (S_celluloidref08_Fill_L1 ((IntKind.wrap .i64 (x1 + (1 : Int)))) (x2) (x3) (x4) (x5) (x6) (x7) (x8) (x9) (x10) (x11) (x12) (x13) (x14) (x15)))
  else none)
  else ((bif ((x3 == (0 : Int)) && ((x4 == (0 : Int)) && ((x5 == (0 : Int)) && (x6 == (0 : Int))))) then (bif (x15 == (0 : Int)) then (bif (decide (x13 ≥ (0 : Int))) then (bif (decide (x13 < (3 : Int))) then (bif (decide ((((List.length x14) : Nat) : Int) > (0 : Int))) then (bif (decide ((((List.length x14) : Nat) : Int) < (9 : Int))) then (cW f_celluloidref07_Matrix [(PV.i x7), (PV.i x8), (PV.i x9), (PV.i x10), (PV.i x11), (PV.i x12)] []).bind fun r10 =>
   some [(PV.b (((r10).1.getD 0 PV.u)).toB)]
   else some [(PV.b false)])
   else some [(PV.b false)])
   else some [(PV.b false)])
   else some [(PV.b false)])
   else some [(PV.b false)])
   else some [(PV.b false)])).bind fun r11 =>
  some ([(PV.b ((r11.getD 0 PV.u)).toB)], [])) := by rw [rW_fix]; generalize cW = C; generalize rW = R; kernel_rfl
/- celluloid/celluloidref08.SameLists -/
noncomputable def S_celluloidref08_SameLists_L0 (x1 : List (List PV)) (x2 : List (List PV)) (x3 : List (List PV)) (x4 : List (List PV)) (x5 : Int) : St := mkSt [(0, .v (.sl 169 x1)), (1, .v (.sl 169 x2)), (2, .v (.sl 173 x3)), (3, .v (.sl 173 x4)), (9, .v (.int .i64 x5))] [] 1000 54
noncomputable def at_celluloidref08_SameLists_L0 : List Item := (atLoop Tryz.f113 0)
noncomputable def S_celluloidref08_SameLists_L2 (x1 : List (List PV)) (x2 : List (List PV)) (x3 : Int) : St := mkSt [(2, .v (.sl 173 x1)), (3, .v (.sl 173 x2)), (10, .v (.int .i64 x3))] [] 2000 54
noncomputable def at_celluloidref08_SameLists_L2 : List Item := (atLoop Tryz.f113 2)
theorem w_celluloidref08_SameLists (a1 : List (List PV)) (a2 : List (List PV)) (a3 : List (List PV)) (a4 : List (List PV)) : cW f_celluloidref08_SameLists [.l a1, .l a2, .l a3, .l a4] [] =
  ((bif ((((List.length a1) : Nat) : Int) != (((List.length a2) : Nat) : Int)) then some [(PV.b true)]
   else some [(PV.b ((((List.length a3) : Nat) : Int) != (((List.length a4) : Nat) : Int)))])).bind fun r1 =>
  (bif ((r1.getD 0 PV.u)).toB then some ([(PV.b false)], [])
  else rW f_celluloidref08_SameLists [] at_celluloidref08_SameLists_L0 (S_celluloidref08_SameLists_L0 (a1) (a2) (a3) (a4) ((0 : Int)))) := by rw [cW_fix]; generalize cW = C; generalize rW = R; kernel_rfl
theorem w_celluloidref08_SameLists_L0 (x1 : List (List PV)) (x2 : List (List PV)) (x3 : List (List PV)) (x4 : List (List PV)) (x5 : Int) : rW f_celluloidref08_SameLists [] at_celluloidref08_SameLists_L0 (S_celluloidref08_SameLists_L0 x1 x2 x3 x4 x5) =
  (bif (decide (x5 < (((List.length x1) : Nat) : Int))) then (bif (inB x5 (List.length x1)) then (bif (inB x5 (List.length x2)) then (cW f_celluloidref08_Same [(PV.i (((elemAt x1 x5).getD 0 PV.u)).toI), (PV.i (((elemAt x1 x5).getD 1 PV.u)).toI), (PV.i (((elemAt x1 x5).getD 2 PV.u)).toI), (PV.i (((elemAt x1 x5).getD 3 PV.u)).toI), (PV.i (((elemAt x1 x5).getD 4 PV.u)).toI), (PV.i (((elemAt x1 x5).getD 5 PV.u)).toI), (PV.i (((elemAt x1 x5).getD 6 PV.u)).toI), (PV.i (((elemAt x1 x5).getD 7 PV.u)).toI), (PV.i (((elemAt x1 x5).getD 8 PV.u)).toI), (PV.i (((elemAt x1 x5).getD 9 PV.u)).toI), (PV.i (((elemAt x1 x5).getD 10 PV.u)).toI), (PV.i (((elemAt x1 x5).getD 11 PV.u)).toI), (PV.l (((elemAt x1 x5).getD 12 PV.u)).toL), (PV.i (((elemAt x1 x5).getD 13 PV.u)).toI), (PV.i (((elemAt x2 x5).getD 0 PV.u)).toI), (PV.i (((elemAt x2 x5).getD 1 PV.u)).toI), (PV.i (((elemAt x2 x5).getD 2 PV.u)).toI), (PV.i (((elemAt x2 x5).getD 3 PV.u)).toI), (PV.i (((elemAt x2 x5).getD 4 PV.u)).toI), (PV.i (((elemAt x2 x5).getD 5 PV.u)).toI), (PV.i (((elemAt x2 x5).getD 6 PV.u)).toI), (PV.i (((elemAt x2 x5).getD 7 PV.u)).toI), (PV.i (((elemAt x2 x5).getD 8 PV.u)).toI), (PV.i (((elemAt x2 x5).getD 9 PV.u)).toI), (PV.i (((elemAt x2 x5).getD 10 PV.u)).toI), (PV.i (((elemAt x2 x5).getD 11 PV.u)).toI), (PV.l (((elemAt x2 x5).getD 12 PV.u)).toL), (PV.i (((elemAt x2 x5).getD 13 PV.u)).toI)] []).bind fun r2 =>
  (bif (!(((r2).1.getD 0 PV.u)).toB) then some ([(PV.b false)], [])
  else rW f_celluloidref08_SameLists [] at_celluloidref08_SameLists_L0 (S_celluloidref08_SameLists_L0 (x1) (x2) (x3) (x4) ((IntKind.wrap .i64 (x5 + (1 : Int))))))
  else none)
  else none)
  else rW f_celluloidref08_SameLists [] at_celluloidref08_SameLists_L2 (S_celluloidref08_SameLists_L2 (x3) (x4) ((0 : Int)))) := by rw [rW_fix]; generalize cW = C; generalize rW = R; kernel_rfl
theorem w_celluloidref08_SameLists_L2 (x1 : List (List PV)) (x2 : List (List PV)) (x3 : Int) : rW f_celluloidref08_SameLists [] at_celluloidref08_SameLists_L2 (S_celluloidref08_SameLists_L2 x1 x2 x3) =
  (bif (decide (x3 < (((List.length x1) : Nat) : Int))) then (bif (inB x3 (List.length x1)) then (bif (inB x3 (List.length x2)) then (bif (!(((((elemAt x1 x3).getD 0 PV.u)).toI == (((elemAt x2 x3).getD 0 PV.u)).toI) && (((((elemAt x1 x3).getD 1 PV.u)).toI == (((elemAt x2 x3).getD 1 PV.u)).toI) && (((((elemAt x1 x3).getD 2 PV.u)).toI == (((elemAt x2 x3).getD 2 PV.u)).toI) && (((((elemAt x1 x3).getD 3 PV.u)).toI == (((elemAt x2 x3).getD 3 PV.u)).toI) && ((((elemAt x1 x3).getD 4 PV.u)).toI == (((elemAt x2 x3).getD 4 PV.u)).toI)))))) then some ([(PV.b false)], [])
  else rW f_celluloidref08_SameLists [] at_celluloidref08_SameLists_L2 (S_celluloidref08_SameLists_L2 (x1) (x2) ((IntKind.wrap .i64 (x3 + (1 : Int))))))
  else none)
  else none)
  else some ([(PV.b true)], [])) := by rw [rW_fix]; generalize cW = C; generalize rW = R; kernel_rfl
/- celluloid/style.gradient -/
/- celluloid/celluloidref08.Same -/
end Go.AI
