/- Equations of the program's functions, on. -/
import Derived.Test.YtbaajplajjfgcaaGreatU08
import Derived.KernelRfl
set_option linter.unusedVariables false
set_option maxRecDepth 100000
namespace Go.AI
open Go Go.Proofs
/- celluloid/shape.Right -/
theorem w_shape_Right (a1 : Int) (a2 : Int) (a3 : Int) (a4 : Int) (a5 : Int) (a6 : List (List PV)) (a7 : List (List PV)) (a8 : List (List PV)) : cW f_shape_Right [.i a1, .i a2, .i a3, .i a4, .i a5, .l a6, .l a7, .l a8] [] =
  ((cW f_shape_within [(PV.i (0 : Int)), (PV.i (65535 : Int)), (PV.l (List.set [[(PV.i (0 : Int))]] 0 [(PV.i a1)]))] []).bind fun r1 =>
   (bif (((r1).1.getD 0 PV.u)).toB then (cW f_field_RightRect [(PV.i a2), (PV.i a3), (PV.i a4), (PV.i a5)] []).bind fun r2 =>
   (bif (((r2).1.getD 0 PV.u)).toB then (cW f_style_Right [(PV.l a6), (PV.l a7)] []).bind fun r3 =>
   (bif (((r3).1.getD 0 PV.u)).toB then (cW f_shape_RightRecords [(PV.i (((List.length a6) : Nat) : Int)), (PV.i (((List.length a7) : Nat) : Int)), (PV.l a8), (PV.i (0 : Int))] []).bind fun r4 =>
   some [(PV.b (((r4).1.getD 0 PV.u)).toB)]
   else some [(PV.b false)])
   else some [(PV.b false)])
   else some [(PV.b false)])).bind fun r5 =>
  some ([(PV.b ((r5.getD 0 PV.u)).toB)], []) := by rw [cW_fix]; generalize cW = C; generalize rW = R; kernel_rfl
/- celluloid/shape.within -/
theorem w_shape_within (a1 : Int) (a2 : Int) (a3 : List (List PV)) : cW f_shape_within [.i a1, .i a2, .l a3] [] =
  (cW f_slices_ContainsFunc___int_int_ [(PV.l a3), (PV.f f_shape_within_1 (List.length [(Id.n 1 0 0), (Id.n 1 1 0)]))] [(t_int, [(PV.i a1)]), (t_int, [(PV.i a2)])]).bind fun r1 =>
  some ([(PV.b (!(((r1).1.getD 0 PV.u)).toB))], []) := by rw [cW_fix]; generalize cW = C; generalize rW = R; kernel_rfl
/- celluloid/shape.PutRecords -/
noncomputable def S_shape_PutRecords_L0 (x1 : List (List PV)) (x2 : Int) (x3 : Int) (x4 : List UInt8) (x5 : Int) (x6 : List UInt8) (x7 : Int) (x8 : Int) (x9 : Int) : St := mkSt [(10, .v (.ptr (.n 1 1 0) 0)), (12, .v (.ptr (.n 3 3 0) 0)), (30, .v (.sl 120 x1)), (31, .v (.int .i64 x2)), (32, .v (.int .i64 x3))] [((.n 1 1 0), .cells 80 [.str x4, .int .i64 x5]), ((.n 3 3 0), .cells 227 [.str x6, .int .i64 x7, .int .i64 x8, .int .i64 x9])] 1000 47
noncomputable def at_shape_PutRecords_L0 : List Item := (atLoop Tryz.f61 0)
theorem w_shape_PutRecords (a1 : List UInt8) (a2 : Int) (a3 : Int) (a4 : Int) (a5 : List (List PV)) (a6 : Int) : cW f_shape_PutRecords [.s a1, .i a2, .i a3, .i a4, .l a5, .i a6] [] =
  (cW f_shape_RightRecords [(PV.i a3), (PV.i a4), (PV.l a5), (PV.i a6)] []).bind fun r1 =>
  (bif (!(((r1).1.getD 0 PV.u)).toB) then some ([(PV.s []), (PV.i (0 : Int)), (PV.i (1 : Int))], [])
  else (cW f_bits_PutAlign [(PV.s a1), (PV.i a2)] []).bind fun r2 =>
  (cW f___celluloid_shape_writer__widths [PV.u, (PV.i a3), (PV.i a4)] [(t_shape_writer, [(PV.s (((r2).1.getD 0 PV.u)).toS), (PV.i (((r2).1.getD 1 PV.u)).toI), (PV.i (0 : Int)), (PV.i (0 : Int))])]).bind fun r3 =>
  rW f_shape_PutRecords [] at_shape_PutRecords_L0 (S_shape_PutRecords_L0 (a5) ((((List.length a5) : Nat) : Int)) ((0 : Int)) ([]) ((0 : Int)) ((((((r3).2.getD 0 (0, []))).2.getD 0 PV.u)).toS) ((((((r3).2.getD 0 (0, []))).2.getD 1 PV.u)).toI) ((((((r3).2.getD 0 (0, []))).2.getD 2 PV.u)).toI) ((((((r3).2.getD 0 (0, []))).2.getD 3 PV.u)).toI))) := by rw [cW_fix]; generalize cW = C; generalize rW = R; kernel_rfl
theorem w_shape_PutRecords_L0 (x1 : List (List PV)) (x2 : Int) (x3 : Int) (x4 : List UInt8) (x5 : Int) (x6 : List UInt8) (x7 : Int) (x8 : Int) (x9 : Int) : rW f_shape_PutRecords [] at_shape_PutRecords_L0 (S_shape_PutRecords_L0 x1 x2 x3 x4 x5 x6 x7 x8 x9) =
  (bif (decide (x3 < x2)) then (bif (inB x3 (List.length x1)) then (cW f___celluloid_shape_writer__record [PV.u, (PV.i (((elemAt x1 x3).getD 0 PV.u)).toI), (PV.i (((elemAt x1 x3).getD 1 PV.u)).toI), (PV.i (((elemAt x1 x3).getD 2 PV.u)).toI), (PV.i (((elemAt x1 x3).getD 3 PV.u)).toI), (PV.i (((elemAt x1 x3).getD 4 PV.u)).toI), (PV.i (((elemAt x1 x3).getD 5 PV.u)).toI), (PV.i (((elemAt x1 x3).getD 6 PV.u)).toI), (PV.i (((elemAt x1 x3).getD 7 PV.u)).toI), (PV.l (((elemAt x1 x3).getD 8 PV.u)).toL), (PV.l (((elemAt x1 x3).getD 9 PV.u)).toL)] [(t_shape_writer, [(PV.s x6), (PV.i x7), (PV.i x8), (PV.i x9)])]).bind fun r4 =>
  rW f_shape_PutRecords [] at_shape_PutRecords_L0 (S_shape_PutRecords_L0 (x1) (x2) ((IntKind.wrap .i64 (x3 + (1 : Int)))) (x4) (x5) ((((((r4).2.getD 0 (0, []))).2.getD 0 PV.u)).toS) ((((((r4).2.getD 0 (0, []))).2.getD 1 PV.u)).toI) ((((((r4).2.getD 0 (0, []))).2.getD 2 PV.u)).toI) ((((((r4).2.getD 0 (0, []))).2.getD 3 PV.u)).toI))
  else none)
  else (cW f___celluloid_shape_writer__plain [PV.u, (PV.i (0 : Int)), (PV.i (6 : Int))] [(t_shape_writer, [(PV.s x6), (PV.i x7), (PV.i x8), (PV.i x9)])]).bind fun r5 =>
  (cW f_bits_PutAlign [(PV.s (((((r5).2.getD 0 (0, []))).2.getD 0 PV.u)).toS), (PV.i (((((r5).2.getD 0 (0, []))).2.getD 1 PV.u)).toI)] []).bind fun r6 =>
  some ([(PV.s (((r6).1.getD 0 PV.u)).toS), (PV.i (((r6).1.getD 1 PV.u)).toI), (PV.i (0 : Int))], [])) := by rw [rW_fix]; generalize cW = C; generalize rW = R; kernel_rfl
/- (*celluloid/shape.writer).widths -/
theorem w___celluloid_shape_writer__widths (a2 : Int) (a3 : Int) (p0_1 : List UInt8) (p0_2 : Int) (p0_3 : Int) (p0_4 : Int) : cW f___celluloid_shape_writer__widths [.u, .i a2, .i a3] [(t_shape_writer, [.s p0_1, .i p0_2, .i p0_3, .i p0_4])] =
  (cW f_bits_PlainWidth [(PV.l (List.set [[(PV.i (0 : Int))]] 0 [(PV.i a2)]))] []).bind fun r1 =>
  (cW f_bits_PlainWidth [(PV.l (List.set [[(PV.i (0 : Int))]] 0 [(PV.i a3)]))] []).bind fun r2 =>
  (cW f___celluloid_shape_writer__plain [PV.u, (PV.i (((r1).1.getD 0 PV.u)).toI), (PV.i (4 : Int))] [(t_shape_writer, [(PV.s p0_1), (PV.i p0_2), (PV.i (((r1).1.getD 0 PV.u)).toI), (PV.i (((r2).1.getD 0 PV.u)).toI)])]).bind fun r3 =>
  (cW f___celluloid_shape_writer__plain [PV.u, (PV.i (((((r3).2.getD 0 (0, []))).2.getD 3 PV.u)).toI), (PV.i (4 : Int))] [(t_shape_writer, [(PV.s (((((r3).2.getD 0 (0, []))).2.getD 0 PV.u)).toS), (PV.i (((((r3).2.getD 0 (0, []))).2.getD 1 PV.u)).toI), (PV.i (((((r3).2.getD 0 (0, []))).2.getD 2 PV.u)).toI), (PV.i (((((r3).2.getD 0 (0, []))).2.getD 3 PV.u)).toI)])]).bind fun r4 =>
  some ([], [(t_shape_writer, [(PV.s (((((r4).2.getD 0 (0, []))).2.getD 0 PV.u)).toS), (PV.i (((((r4).2.getD 0 (0, []))).2.getD 1 PV.u)).toI), (PV.i (((((r4).2.getD 0 (0, []))).2.getD 2 PV.u)).toI), (PV.i (((((r4).2.getD 0 (0, []))).2.getD 3 PV.u)).toI)])]) := by rw [cW_fix]; generalize cW = C; generalize rW = R; kernel_rfl
/- celluloid/celluloidref09.Small -/
noncomputable def S_celluloidref09_Small_L0 (x1 : List (List PV)) (x2 : Int) (x3 : Int) : St := mkSt [(0, .v (.sl 120 x1)), (1, .v (.int .i64 x2)), (5, .v (.int .i64 x3))] [] 1000 33
noncomputable def at_celluloidref09_Small_L0 : List Item := (atLoop Tryz.f14 0)
theorem w_celluloidref09_Small (a1 : List (List PV)) (a2 : Int) : cW f_celluloidref09_Small [.l a1, .i a2] [] =
  rW f_celluloidref09_Small [] at_celluloidref09_Small_L0 (S_celluloidref09_Small_L0 (a1) (a2) ((0 : Int))) := by rw [cW_fix]; generalize cW = C; generalize rW = R; kernel_rfl
theorem w_celluloidref09_Small_L0 (x1 : List (List PV)) (x2 : Int) (x3 : Int) : rW f_celluloidref09_Small [] at_celluloidref09_Small_L0 (S_celluloidref09_Small_L0 x1 x2 x3) =
  ((bif (decide (x3 < (((List.length x1) : Nat) : Int))) then some [(PV.b (decide (x3 < x2)))]
   else some [(PV.b false)])).bind fun r1 =>
  (bif ((r1.getD 0 PV.u)).toB then (bif (inB x3 (List.length x1)) then (bif (inB x3 (List.length x1)) then (cW f_celluloidref08_Small [(PV.l (((elemAt x1 x3).getD 8 PV.u)).toL), (PV.l (((elemAt x1 x3).getD 9 PV.u)).toL)] []).bind fun r2 =>
  (bif (!(((r2).1.getD 0 PV.u)).toB) then some ([(PV.b false)], [])
  else rW f_celluloidref09_Small [] at_celluloidref09_Small_L0 (S_celluloidref09_Small_L0 (x1) (x2) ((IntKind.wrap .i64 (x3 + (1 : Int))))))
  else none)
  else none)
  else some ([(PV.b (decide ((((List.length x1) : Nat) : Int) ≤ x2)))], [])) := by rw [rW_fix]; generalize cW = C; generalize rW = R; kernel_rfl
/- celluloid/shape.RightRecords -/
noncomputable def S_shape_RightRecords_L0 (x1 : Int) (x2 : Int) (x3 : Int) (x4 : List (List PV)) (x5 : Int) (x6 : Int) : St := mkSt [(0, .v (.int .i64 x1)), (1, .v (.int .i64 x2)), (3, .v (.int .i64 x3)), (27, .v (.sl 120 x4)), (28, .v (.int .i64 x5)), (29, .v (.int .i64 x6))] [] 1000 66
noncomputable def at_shape_RightRecords_L0 : List Item := (atLoop Tryz.f105 0)
theorem w_shape_RightRecords (a1 : Int) (a2 : Int) (a3 : List (List PV)) (a4 : Int) : cW f_shape_RightRecords [.i a1, .i a2, .l a3, .i a4] [] =
  ((cW f_shape_within [(PV.i (0 : Int)), (PV.i (15 : Int)), (PV.l (List.set (List.set [[(PV.i (0 : Int))], [(PV.i (0 : Int))]] 0 [(PV.i a1)]) 1 [(PV.i a2)]))] []).bind fun r1 =>
   (bif (!(((r1).1.getD 0 PV.u)).toB) then some [(PV.b true)]
   else (cW f_shape_within [(PV.i (0 : Int)), (PV.i (2 : Int)), (PV.l (List.set [[(PV.i (0 : Int))]] 0 [(PV.i a4)]))] []).bind fun r2 =>
   (bif (!(((r2).1.getD 0 PV.u)).toB) then some [(PV.b true)]
   else some [(PV.b (decide ((((List.length a3) : Nat) : Int) > (512 : Int))))]))).bind fun r3 =>
  (bif ((r3.getD 0 PV.u)).toB then some ([(PV.b false)], [])
  else rW f_shape_RightRecords [] at_shape_RightRecords_L0 (S_shape_RightRecords_L0 (a1) (a2) (a4) (a3) ((((List.length a3) : Nat) : Int)) ((0 : Int)))) := by rw [cW_fix]; generalize cW = C; generalize rW = R; kernel_rfl
theorem w_shape_RightRecords_L0 (x1 : Int) (x2 : Int) (x3 : Int) (x4 : List (List PV)) (x5 : Int) (x6 : Int) : rW f_shape_RightRecords [] at_shape_RightRecords_L0 (S_shape_RightRecords_L0 x1 x2 x3 x4 x5 x6) =
  (bif (decide (x6 < x5)) then (bif (inB x6 (List.length x4)) then ((cW f_shape_sound [(PV.i (((elemAt x4 x6).getD 0 PV.u)).toI), (PV.i (((elemAt x4 x6).getD 1 PV.u)).toI), (PV.i (((elemAt x4 x6).getD 2 PV.u)).toI), (PV.i (((elemAt x4 x6).getD 3 PV.u)).toI), (PV.i (((elemAt x4 x6).getD 4 PV.u)).toI), (PV.i (((elemAt x4 x6).getD 5 PV.u)).toI), (PV.i (((elemAt x4 x6).getD 6 PV.u)).toI), (PV.i (((elemAt x4 x6).getD 7 PV.u)).toI), (PV.l (((elemAt x4 x6).getD 8 PV.u)).toL), (PV.l (((elemAt x4 x6).getD 9 PV.u)).toL), (PV.i x1), (PV.i x2)] []).bind fun r4 =>
   (bif (!(((r4).1.getD 0 PV.u)).toB) then some [(PV.b true)]
   else (bif ((((elemAt x4 x6).getD 0 PV.u)).toI == (3 : Int)) then (bif (x3 != (0 : Int)) then some [(PV.b true)]
   else (bif ((((elemAt x4 x6).getD 0 PV.u)).toI == (2 : Int)) then some [(PV.b (x3 == (2 : Int)))]
   else some [(PV.b false)]))
   else (bif ((((elemAt x4 x6).getD 0 PV.u)).toI == (2 : Int)) then some [(PV.b (x3 == (2 : Int)))]
   else some [(PV.b false)])))).bind fun r5 =>
  (bif ((r5.getD 0 PV.u)).toB then some ([(PV.b false)], [])
  else (bif ((((elemAt x4 x6).getD 0 PV.u)).toI == (3 : Int)) then rW f_shape_RightRecords [] at_shape_RightRecords_L0 (S_shape_RightRecords_L0 ((((List.length (((elemAt x4 x6).getD 8 PV.u)).toL) : Nat) : Int)) ((((List.length (((elemAt x4 x6).getD 9 PV.u)).toL) : Nat) : Int)) (x3) (x4) (x5) ((IntKind.wrap .i64 (x6 + (1 : Int)))))
  else rW f_shape_RightRecords [] at_shape_RightRecords_L0 (S_shape_RightRecords_L0 (x1) (x2) (x3) (x4) (x5) ((IntKind.wrap .i64 (x6 + (1 : Int)))))))
  else none)
  else some ([(PV.b true)], [])) := by rw [rW_fix]; generalize cW = C; generalize rW = R; kernel_rfl
/- (*celluloid/shape.writer).record -/
theorem w___celluloid_shape_writer__record (a2 : Int) (a3 : Int) (a4 : Int) (a5 : Int) (a6 : Int) (a7 : Int) (a8 : Int) (a9 : Int) (a10 : List (List PV)) (a11 : List (List PV)) (p0_1 : List UInt8) (p0_2 : Int) (p0_3 : Int) (p0_4 : Int) : cW f___celluloid_shape_writer__record [.u, .i a2, .i a3, .i a4, .i a5, .i a6, .i a7, .i a8, .i a9, .l a10, .l a11] [(t_shape_writer, [.s p0_1, .i p0_2, .i p0_3, .i p0_4])] =
  (bif (a2 == (1 : Int)) then (cW f_bits_Width [(PV.l (List.set (List.set [[(PV.i (0 : Int))], [(PV.i (0 : Int))]] 0 [(PV.i a3)]) 1 [(PV.i a4)]))] []).bind fun r1 =>
  (cW f___celluloid_shape_writer__plain [PV.u, (PV.i (1 : Int)), (PV.i (6 : Int))] [(t_shape_writer, [(PV.s p0_1), (PV.i p0_2), (PV.i p0_3), (PV.i p0_4)])]).bind fun r2 =>
  (cW f___celluloid_shape_writer__plain [PV.u, (PV.i (((r1).1.getD 0 PV.u)).toI), (PV.i (5 : Int))] [(t_shape_writer, [(PV.s (((((r2).2.getD 0 (0, []))).2.getD 0 PV.u)).toS), (PV.i (((((r2).2.getD 0 (0, []))).2.getD 1 PV.u)).toI), (PV.i (((((r2).2.getD 0 (0, []))).2.getD 2 PV.u)).toI), (PV.i (((((r2).2.getD 0 (0, []))).2.getD 3 PV.u)).toI)])]).bind fun r3 =>
  (cW f___celluloid_shape_writer__signed [PV.u, (PV.i (((r1).1.getD 0 PV.u)).toI), (PV.l (List.set (List.set [[(PV.i (0 : Int))], [(PV.i (0 : Int))]] 0 [(PV.i a3)]) 1 [(PV.i a4)]))] [(t_shape_writer, [(PV.s (((((r3).2.getD 0 (0, []))).2.getD 0 PV.u)).toS), (PV.i (((((r3).2.getD 0 (0, []))).2.getD 1 PV.u)).toI), (PV.i (((((r3).2.getD 0 (0, []))).2.getD 2 PV.u)).toI), (PV.i (((((r3).2.getD 0 (0, []))).2.getD 3 PV.u)).toI)])]).bind fun r4 =>
  some ([], [(t_shape_writer, [(PV.s (((((r4).2.getD 0 (0, []))).2.getD 0 PV.u)).toS), (PV.i (((((r4).2.getD 0 (0, []))).2.getD 1 PV.u)).toI), (PV.i (((((r4).2.getD 0 (0, []))).2.getD 2 PV.u)).toI), (PV.i (((((r4).2.getD 0 (0, []))).2.getD 3 PV.u)).toI)])])
  else (bif (a2 == (2 : Int)) then (cW f___celluloid_shape_writer__set [PV.u, (PV.i a2), (PV.i a3), (PV.i a4), (PV.i a5), (PV.i a6), (PV.i a7), (PV.i a8), (PV.i a9), (PV.l a10), (PV.l a11)] [(t_shape_writer, [(PV.s p0_1), (PV.i p0_2), (PV.i p0_3), (PV.i p0_4)])]).bind fun r5 =>
  some ([], [(t_shape_writer, [(PV.s (((((r5).2.getD 0 (0, []))).2.getD 0 PV.u)).toS), (PV.i (((((r5).2.getD 0 (0, []))).2.getD 1 PV.u)).toI), (PV.i (((((r5).2.getD 0 (0, []))).2.getD 2 PV.u)).toI), (PV.i (((((r5).2.getD 0 (0, []))).2.getD 3 PV.u)).toI)])])
  else (bif (a2 == (3 : Int)) then (cW f___celluloid_shape_writer__plain [PV.u, (PV.i (16 : Int)), (PV.i (6 : Int))] [(t_shape_writer, [(PV.s p0_1), (PV.i p0_2), (PV.i p0_3), (PV.i p0_4)])]).bind fun r6 =>
  (cW f_style_Put [(PV.s (((((r6).2.getD 0 (0, []))).2.getD 0 PV.u)).toS), (PV.i (((((r6).2.getD 0 (0, []))).2.getD 1 PV.u)).toI), (PV.l a10), (PV.l a11)] []).bind fun r7 =>
  (cW f___celluloid_shape_writer__widths [PV.u, (PV.i (((List.length a10) : Nat) : Int)), (PV.i (((List.length a11) : Nat) : Int))] [(t_shape_writer, [(PV.s (((r7).1.getD 0 PV.u)).toS), (PV.i (((r7).1.getD 1 PV.u)).toI), (PV.i (((((r6).2.getD 0 (0, []))).2.getD 2 PV.u)).toI), (PV.i (((((r6).2.getD 0 (0, []))).2.getD 3 PV.u)).toI)])]).bind fun r8 =>
  some ([], [(t_shape_writer, [(PV.s (((((r8).2.getD 0 (0, []))).2.getD 0 PV.u)).toS), (PV.i (((((r8).2.getD 0 (0, []))).2.getD 1 PV.u)).toI), (PV.i (((((r8).2.getD 0 (0, []))).2.getD 2 PV.u)).toI), (PV.i (((((r8).2.getD 0 (0, []))).2.getD 3 PV.u)).toI)])])
  else (bif (a2 == (4 : Int)) then (cW f_bits_Width [(PV.l (List.set (List.set [[(PV.i (0 : Int))], [(PV.i (0 : Int))]] 0 [(PV.i a3)]) 1 [(PV.i a4)]))] []).bind fun r9 =>
  (cW f___celluloid_shape_writer__plain [PV.u, (PV.i (3 : Int)), (PV.i (2 : Int))] [(t_shape_writer, [(PV.s p0_1), (PV.i p0_2), (PV.i p0_3), (PV.i p0_4)])]).bind fun r10 =>
  (cW f___celluloid_shape_writer__plain [PV.u, (PV.i (IntKind.wrap .i64 ((bif (decide ((2 : Int) > (((r9).1.getD 0 PV.u)).toI)) then (2 : Int) else (((r9).1.getD 0 PV.u)).toI) - (2 : Int)))), (PV.i (4 : Int))] [(t_shape_writer, [(PV.s (((((r10).2.getD 0 (0, []))).2.getD 0 PV.u)).toS), (PV.i (((((r10).2.getD 0 (0, []))).2.getD 1 PV.u)).toI), (PV.i (((((r10).2.getD 0 (0, []))).2.getD 2 PV.u)).toI), (PV.i (((((r10).2.getD 0 (0, []))).2.getD 3 PV.u)).toI)])]).bind fun r11 =>
  (bif (a3 == (0 : Int)) then (cW f___celluloid_shape_writer__plain [PV.u, (PV.i (1 : Int)), (PV.i (2 : Int))] [(t_shape_writer, [(PV.s (((((r11).2.getD 0 (0, []))).2.getD 0 PV.u)).toS), (PV.i (((((r11).2.getD 0 (0, []))).2.getD 1 PV.u)).toI), (PV.i (((((r11).2.getD 0 (0, []))).2.getD 2 PV.u)).toI), (PV.i (((((r11).2.getD 0 (0, []))).2.getD 3 PV.u)).toI)])]).bind fun r12 =>
  (cW f___celluloid_shape_writer__signed [PV.u, (PV.i (bif (decide ((2 : Int) > (((r9).1.getD 0 PV.u)).toI)) then (2 : Int) else (((r9).1.getD 0 PV.u)).toI)), (PV.l (List.set [[(PV.i (0 : Int))]] 0 [(PV.i a4)]))] [(t_shape_writer, [(PV.s (((((r12).2.getD 0 (0, []))).2.getD 0 PV.u)).toS), (PV.i (((((r12).2.getD 0 (0, []))).2.getD 1 PV.u)).toI), (PV.i (((((r12).2.getD 0 (0, []))).2.getD 2 PV.u)).toI), (PV.i (((((r12).2.getD 0 (0, []))).2.getD 3 PV.u)).toI)])]).bind fun r13 =>
  some ([], [(t_shape_writer, [(PV.s (((((r13).2.getD 0 (0, []))).2.getD 0 PV.u)).toS), (PV.i (((((r13).2.getD 0 (0, []))).2.getD 1 PV.u)).toI), (PV.i (((((r13).2.getD 0 (0, []))).2.getD 2 PV.u)).toI), (PV.i (((((r13).2.getD 0 (0, []))).2.getD 3 PV.u)).toI)])])
  else (bif (a4 == (0 : Int)) then (cW f___celluloid_shape_writer__plain [PV.u, (PV.i (0 : Int)), (PV.i (2 : Int))] [(t_shape_writer, [(PV.s (((((r11).2.getD 0 (0, []))).2.getD 0 PV.u)).toS), (PV.i (((((r11).2.getD 0 (0, []))).2.getD 1 PV.u)).toI), (PV.i (((((r11).2.getD 0 (0, []))).2.getD 2 PV.u)).toI), (PV.i (((((r11).2.getD 0 (0, []))).2.getD 3 PV.u)).toI)])]).bind fun r14 =>
  (cW f___celluloid_shape_writer__signed [PV.u, (PV.i (bif (decide ((2 : Int) > (((r9).1.getD 0 PV.u)).toI)) then (2 : Int) else (((r9).1.getD 0 PV.u)).toI)), (PV.l (List.set [[(PV.i (0 : Int))]] 0 [(PV.i a3)]))] [(t_shape_writer, [(PV.s (((((r14).2.getD 0 (0, []))).2.getD 0 PV.u)).toS), (PV.i (((((r14).2.getD 0 (0, []))).2.getD 1 PV.u)).toI), (PV.i (((((r14).2.getD 0 (0, []))).2.getD 2 PV.u)).toI), (PV.i (((((r14).2.getD 0 (0, []))).2.getD 3 PV.u)).toI)])]).bind fun r15 =>
  some ([], [(t_shape_writer, [(PV.s (((((r15).2.getD 0 (0, []))).2.getD 0 PV.u)).toS), (PV.i (((((r15).2.getD 0 (0, []))).2.getD 1 PV.u)).toI), (PV.i (((((r15).2.getD 0 (0, []))).2.getD 2 PV.u)).toI), (PV.i (((((r15).2.getD 0 (0, []))).2.getD 3 PV.u)).toI)])])
  else (cW f___celluloid_shape_writer__plain [PV.u, (PV.i (1 : Int)), (PV.i (1 : Int))] [(t_shape_writer, [(PV.s (((((r11).2.getD 0 (0, []))).2.getD 0 PV.u)).toS), (PV.i (((((r11).2.getD 0 (0, []))).2.getD 1 PV.u)).toI), (PV.i (((((r11).2.getD 0 (0, []))).2.getD 2 PV.u)).toI), (PV.i (((((r11).2.getD 0 (0, []))).2.getD 3 PV.u)).toI)])]).bind fun r16 =>
  (cW f___celluloid_shape_writer__signed [PV.u, (PV.i (bif (decide ((2 : Int) > (((r9).1.getD 0 PV.u)).toI)) then (2 : Int) else (((r9).1.getD 0 PV.u)).toI)), (PV.l (List.set (List.set [[(PV.i (0 : Int))], [(PV.i (0 : Int))]] 0 [(PV.i a3)]) 1 [(PV.i a4)]))] [(t_shape_writer, [(PV.s (((((r16).2.getD 0 (0, []))).2.getD 0 PV.u)).toS), (PV.i (((((r16).2.getD 0 (0, []))).2.getD 1 PV.u)).toI), (PV.i (((((r16).2.getD 0 (0, []))).2.getD 2 PV.u)).toI), (PV.i (((((r16).2.getD 0 (0, []))).2.getD 3 PV.u)).toI)])]).bind fun r17 =>
  some ([], [(t_shape_writer, [(PV.s (((((r17).2.getD 0 (0, []))).2.getD 0 PV.u)).toS), (PV.i (((((r17).2.getD 0 (0, []))).2.getD 1 PV.u)).toI), (PV.i (((((r17).2.getD 0 (0, []))).2.getD 2 PV.u)).toI), (PV.i (((((r17).2.getD 0 (0, []))).2.getD 3 PV.u)).toI)])])))
  else (bif (a2 == (5 : Int)) then (cW f_bits_Width [(PV.l (List.set (List.set (List.set (List.set [[(PV.i (0 : Int))], [(PV.i (0 : Int))], [(PV.i (0 : Int))], [(PV.i (0 : Int))]] 0 [(PV.i a5)]) 1 [(PV.i a6)]) 2 [(PV.i a3)]) 3 [(PV.i a4)]))] []).bind fun r18 =>
  (cW f___celluloid_shape_writer__plain [PV.u, (PV.i (2 : Int)), (PV.i (2 : Int))] [(t_shape_writer, [(PV.s p0_1), (PV.i p0_2), (PV.i p0_3), (PV.i p0_4)])]).bind fun r19 =>
  (cW f___celluloid_shape_writer__plain [PV.u, (PV.i (IntKind.wrap .i64 ((bif (decide ((2 : Int) > (((r18).1.getD 0 PV.u)).toI)) then (2 : Int) else (((r18).1.getD 0 PV.u)).toI) - (2 : Int)))), (PV.i (4 : Int))] [(t_shape_writer, [(PV.s (((((r19).2.getD 0 (0, []))).2.getD 0 PV.u)).toS), (PV.i (((((r19).2.getD 0 (0, []))).2.getD 1 PV.u)).toI), (PV.i (((((r19).2.getD 0 (0, []))).2.getD 2 PV.u)).toI), (PV.i (((((r19).2.getD 0 (0, []))).2.getD 3 PV.u)).toI)])]).bind fun r20 =>
  (cW f___celluloid_shape_writer__signed [PV.u, (PV.i (bif (decide ((2 : Int) > (((r18).1.getD 0 PV.u)).toI)) then (2 : Int) else (((r18).1.getD 0 PV.u)).toI)), (PV.l (List.set (List.set (List.set (List.set [[(PV.i (0 : Int))], [(PV.i (0 : Int))], [(PV.i (0 : Int))], [(PV.i (0 : Int))]] 0 [(PV.i a5)]) 1 [(PV.i a6)]) 2 [(PV.i a3)]) 3 [(PV.i a4)]))] [(t_shape_writer, [(PV.s (((((r20).2.getD 0 (0, []))).2.getD 0 PV.u)).toS), (PV.i (((((r20).2.getD 0 (0, []))).2.getD 1 PV.u)).toI), (PV.i (((((r20).2.getD 0 (0, []))).2.getD 2 PV.u)).toI), (PV.i (((((r20).2.getD 0 (0, []))).2.getD 3 PV.u)).toI)])]).bind fun r21 =>
  some ([], [(t_shape_writer, [(PV.s (((((r21).2.getD 0 (0, []))).2.getD 0 PV.u)).toS), (PV.i (((((r21).2.getD 0 (0, []))).2.getD 1 PV.u)).toI), (PV.i (((((r21).2.getD 0 (0, []))).2.getD 2 PV.u)).toI), (PV.i (((((r21).2.getD 0 (0, []))).2.getD 3 PV.u)).toI)])])
  else some ([], [(t_shape_writer, [(PV.s p0_1), (PV.i p0_2), (PV.i p0_3), (PV.i p0_4)])])))))) := by rw [cW_fix]; generalize cW = C; generalize rW = R; kernel_rfl
/- celluloid/shape.sound -/
theorem w_shape_sound (a1 : Int) (a2 : Int) (a3 : Int) (a4 : Int) (a5 : Int) (a6 : Int) (a7 : Int) (a8 : Int) (a9 : List (List PV)) (a10 : List (List PV)) (a11 : Int) (a12 : Int) : cW f_shape_sound [.i a1, .i a2, .i a3, .i a4, .i a5, .i a6, .i a7, .i a8, .l a9, .l a10, .i a11, .i a12] [] =
  (bif (a1 == (1 : Int)) then ((cW f_shape_within [(PV.i (-1048576 : Int)), (PV.i (1048576 : Int)), (PV.l (List.set (List.set [[(PV.i (0 : Int))], [(PV.i (0 : Int))]] 0 [(PV.i a2)]) 1 [(PV.i a3)]))] []).bind fun r1 =>
   (bif (((r1).1.getD 0 PV.u)).toB then (cW f_shape_same [(PV.i a1), (PV.i a2), (PV.i a3), (PV.i a4), (PV.i a5), (PV.i a6), (PV.i a7), (PV.i a8), (PV.l a9), (PV.l a10), (PV.i a1), (PV.i a2), (PV.i a3), (PV.i (0 : Int)), (PV.i (0 : Int)), (PV.i (0 : Int)), (PV.i (0 : Int)), (PV.i (0 : Int)), (PV.l []), (PV.l [])] []).bind fun r2 =>
   some [(PV.b (((r2).1.getD 0 PV.u)).toB)]
   else some [(PV.b false)])).bind fun r3 =>
  some ([(PV.b ((r3.getD 0 PV.u)).toB)], [])
  else (bif (a1 == (2 : Int)) then ((cW f_shape_within [(PV.i (-1 : Int)), (PV.i a11), (PV.l (List.set (List.set [[(PV.i (0 : Int))], [(PV.i (0 : Int))]] 0 [(PV.i a6)]) 1 [(PV.i a7)]))] []).bind fun r4 =>
   (bif (((r4).1.getD 0 PV.u)).toB then (cW f_shape_within [(PV.i (-1 : Int)), (PV.i a12), (PV.l (List.set [[(PV.i (0 : Int))]] 0 [(PV.i a8)]))] []).bind fun r5 =>
   (bif (((r5).1.getD 0 PV.u)).toB then (bif (decide ((bif (decide (a8 > (bif (decide (a7 > a6)) then a7 else a6))) then a8 else (bif (decide (a7 > a6)) then a7 else a6)) ≥ (0 : Int))) then (cW f_shape_same [(PV.i a1), (PV.i a2), (PV.i a3), (PV.i a4), (PV.i a5), (PV.i a6), (PV.i a7), (PV.i a8), (PV.l a9), (PV.l a10), (PV.i a1), (PV.i (0 : Int)), (PV.i (0 : Int)), (PV.i (0 : Int)), (PV.i (0 : Int)), (PV.i a6), (PV.i a7), (PV.i a8), (PV.l []), (PV.l [])] []).bind fun r6 =>
   some [(PV.b (((r6).1.getD 0 PV.u)).toB)]
   else some [(PV.b false)])
   else some [(PV.b false)])
   else some [(PV.b false)])).bind fun r7 =>
  some ([(PV.b ((r7.getD 0 PV.u)).toB)], [])
  else (bif (a1 == (3 : Int)) then ((cW f_style_Right [(PV.l a9), (PV.l a10)] []).bind fun r8 =>
   (bif (((r8).1.getD 0 PV.u)).toB then (cW f_shape_same [(PV.i a1), (PV.i a2), (PV.i a3), (PV.i a4), (PV.i a5), (PV.i a6), (PV.i a7), (PV.i a8), (PV.l a9), (PV.l a10), (PV.i a1), (PV.i (0 : Int)), (PV.i (0 : Int)), (PV.i (0 : Int)), (PV.i (0 : Int)), (PV.i (0 : Int)), (PV.i (0 : Int)), (PV.i (0 : Int)), (PV.l a9), (PV.l a10)] []).bind fun r9 =>
   some [(PV.b (((r9).1.getD 0 PV.u)).toB)]
   else some [(PV.b false)])).bind fun r10 =>
  some ([(PV.b ((r10.getD 0 PV.u)).toB)], [])
  else (bif (a1 == (4 : Int)) then ((cW f_shape_within [(PV.i (-65536 : Int)), (PV.i (65535 : Int)), (PV.l (List.set (List.set [[(PV.i (0 : Int))], [(PV.i (0 : Int))]] 0 [(PV.i a2)]) 1 [(PV.i a3)]))] []).bind fun r11 =>
   (bif (((r11).1.getD 0 PV.u)).toB then (cW f_shape_same [(PV.i a1), (PV.i a2), (PV.i a3), (PV.i a4), (PV.i a5), (PV.i a6), (PV.i a7), (PV.i a8), (PV.l a9), (PV.l a10), (PV.i a1), (PV.i a2), (PV.i a3), (PV.i (0 : Int)), (PV.i (0 : Int)), (PV.i (0 : Int)), (PV.i (0 : Int)), (PV.i (0 : Int)), (PV.l []), (PV.l [])] []).bind fun r12 =>
   some [(PV.b (((r12).1.getD 0 PV.u)).toB)]
   else some [(PV.b false)])).bind fun r13 =>
  some ([(PV.b ((r13.getD 0 PV.u)).toB)], [])
  else (bif (a1 == (5 : Int)) then ((cW f_shape_within [(PV.i (-65536 : Int)), (PV.i (65535 : Int)), (PV.l (List.set (List.set (List.set (List.set [[(PV.i (0 : Int))], [(PV.i (0 : Int))], [(PV.i (0 : Int))], [(PV.i (0 : Int))]] 0 [(PV.i a2)]) 1 [(PV.i a3)]) 2 [(PV.i a4)]) 3 [(PV.i a5)]))] []).bind fun r14 =>
   (bif (((r14).1.getD 0 PV.u)).toB then (cW f_shape_same [(PV.i a1), (PV.i a2), (PV.i a3), (PV.i a4), (PV.i a5), (PV.i a6), (PV.i a7), (PV.i a8), (PV.l a9), (PV.l a10), (PV.i a1), (PV.i a2), (PV.i a3), (PV.i a4), (PV.i a5), (PV.i (0 : Int)), (PV.i (0 : Int)), (PV.i (0 : Int)), (PV.l []), (PV.l [])] []).bind fun r15 =>
   some [(PV.b (((r15).1.getD 0 PV.u)).toB)]
   else some [(PV.b false)])).bind fun r16 =>
  some ([(PV.b ((r16.getD 0 PV.u)).toB)], [])
  else some ([(PV.b false)], [])))))) := by rw [cW_fix]; generalize cW = C; generalize rW = R; kernel_rfl
/- (*celluloid/shape.writer).signed -/
noncomputable def S___celluloid_shape_writer__signed_L0 (x1 : Int) (x2 : List (List PV)) (x3 : Int) (x4 : Int) (x5 : List UInt8) (x6 : Int) (x7 : Int) (x8 : Int) : St := mkSt [(0, .v (.ptr (.p 0) 0)), (1, .v (.int .i64 x1)), (8, .v (.sl 3 x2)), (9, .v (.int .i64 x3)), (10, .v (.int .i64 x4))] [((.p 0), .cells 227 [.str x5, .int .i64 x6, .int .i64 x7, .int .i64 x8])] 1000 28
noncomputable def at___celluloid_shape_writer__signed_L0 : List Item := (atLoop Tryz.f152 0)
theorem w___celluloid_shape_writer__signed (a2 : Int) (a3 : List (List PV)) (p0_1 : List UInt8) (p0_2 : Int) (p0_3 : Int) (p0_4 : Int) : cW f___celluloid_shape_writer__signed [.u, .i a2, .l a3] [(t_shape_writer, [.s p0_1, .i p0_2, .i p0_3, .i p0_4])] =
  rW f___celluloid_shape_writer__signed [t_shape_writer] at___celluloid_shape_writer__signed_L0 (S___celluloid_shape_writer__signed_L0 (a2) (a3) ((((List.length a3) : Nat) : Int)) ((0 : Int)) (p0_1) (p0_2) (p0_3) (p0_4)) := by rw [cW_fix]; generalize cW = C; generalize rW = R; kernel_rfl
theorem w___celluloid_shape_writer__signed_L0 (x1 : Int) (x2 : List (List PV)) (x3 : Int) (x4 : Int) (x5 : List UInt8) (x6 : Int) (x7 : Int) (x8 : Int) : rW f___celluloid_shape_writer__signed [t_shape_writer] at___celluloid_shape_writer__signed_L0 (S___celluloid_shape_writer__signed_L0 x1 x2 x3 x4 x5 x6 x7 x8) =
  (bif (decide (x4 < x3)) then (bif (inB x4 (List.length x2)) then (cW f_bits_PutSigned [(PV.s x5), (PV.i x6), (PV.i (((elemAt x2 x4).getD 0 PV.u)).toI), (PV.i x1)] []).bind fun r1 =>
  rW f___celluloid_shape_writer__signed [t_shape_writer] at___celluloid_shape_writer__signed_L0 (S___celluloid_shape_writer__signed_L0 (x1) (x2) (x3) ((IntKind.wrap .i64 (x4 + (1 : Int)))) ((((r1).1.getD 0 PV.u)).toS) ((((r1).1.getD 1 PV.u)).toI) (x7) (x8))
  else none)
  else some ([], [(t_shape_writer, [(PV.s x5), (PV.i x6), (PV.i x7), (PV.i x8)])])) := by rw [rW_fix]; generalize cW = C; generalize rW = R; kernel_rfl
/- celluloid/shape.Put -/
theorem w_shape_Put (a1 : List UInt8) (a2 : Int) (a3 : Int) (a4 : Int) (a5 : Int) (a6 : Int) (a7 : Int) (a8 : List (List PV)) (a9 : List (List PV)) (a10 : List (List PV)) : cW f_shape_Put [.s a1, .i a2, .i a3, .i a4, .i a5, .i a6, .i a7, .l a8, .l a9, .l a10] [] =
  (cW f_shape_Right [(PV.i a3), (PV.i a4), (PV.i a5), (PV.i a6), (PV.i a7), (PV.l a8), (PV.l a9), (PV.l a10)] []).bind fun r1 =>
  (bif (!(((r1).1.getD 0 PV.u)).toB) then some ([(PV.s []), (PV.i (0 : Int)), (PV.i (1 : Int))], [])
  else (cW f_bits_PutLittle [(PV.s a1), (PV.i a2), (PV.i a3), (PV.i (2 : Int))] []).bind fun r2 =>
  (cW f_field_PutRect [(PV.s (((r2).1.getD 0 PV.u)).toS), (PV.i (((r2).1.getD 1 PV.u)).toI), (PV.i a4), (PV.i a5), (PV.i a6), (PV.i a7)] []).bind fun r3 =>
  (cW f_style_Put [(PV.s (((r3).1.getD 0 PV.u)).toS), (PV.i (((r3).1.getD 1 PV.u)).toI), (PV.l a8), (PV.l a9)] []).bind fun r4 =>
  (cW f_shape_PutRecords [(PV.s (((r4).1.getD 0 PV.u)).toS), (PV.i (((r4).1.getD 1 PV.u)).toI), (PV.i (((List.length a8) : Nat) : Int)), (PV.i (((List.length a9) : Nat) : Int)), (PV.l a10), (PV.i (0 : Int))] []).bind fun r5 =>
  some ([(PV.s (((r5).1.getD 0 PV.u)).toS), (PV.i (((r5).1.getD 1 PV.u)).toI), (PV.i (((r5).1.getD 2 PV.u)).toI)], [])) := by rw [cW_fix]; generalize cW = C; generalize rW = R; kernel_rfl
/- (*celluloid/shape.writer).plain -/
theorem w___celluloid_shape_writer__plain (a2 : Int) (a3 : Int) (p0_1 : List UInt8) (p0_2 : Int) (p0_3 : Int) (p0_4 : Int) : cW f___celluloid_shape_writer__plain [.u, .i a2, .i a3] [(t_shape_writer, [.s p0_1, .i p0_2, .i p0_3, .i p0_4])] =
  (cW f_bits_PutPlain [(PV.s p0_1), (PV.i p0_2), (PV.i a2), (PV.i a3)] []).bind fun r1 =>
  some ([], [(t_shape_writer, [(PV.s (((r1).1.getD 0 PV.u)).toS), (PV.i (((r1).1.getD 1 PV.u)).toI), (PV.i p0_3), (PV.i p0_4)])]) := by rw [cW_fix]; generalize cW = C; generalize rW = R; kernel_rfl
/- celluloid/shape.within$1 -/
theorem w_shape_within_1 (a1 : Int) (p0_1 : Int) (p1_1 : Int) : cW f_shape_within_1 [.i a1] [(t_int, [.i p0_1]), (t_int, [.i p1_1])] =
  ((bif (decide (a1 < p0_1)) then some [(PV.b true)]
   else some [(PV.b (decide (a1 > p1_1)))])).bind fun r1 =>
  some ([(PV.b ((r1.getD 0 PV.u)).toB)], [(t_int, [(PV.i p0_1)]), (t_int, [(PV.i p1_1)])]) := by rw [cW_fix]; generalize cW = C; generalize rW = R; kernel_rfl
/- (*celluloid/shape.writer).set -/
noncomputable def S___celluloid_shape_writer__set_L0 (x1 : Int) (x2 : List (List PV)) (x3 : Int) (x4 : Int) (x5 : List UInt8) (x6 : Int) (x7 : Int) (x8 : Int) (x9 : Int) (x10 : Int) (x11 : Int) (x12 : Int) (x13 : Int) (x14 : Int) (x15 : Int) (x16 : Int) (x17 : List (List PV)) (x18 : List (List PV)) : St := mkSt [(0, .v (.ptr (.p 0) 0)), (3, .v (.ptr (.n 1 0 0) 0)), (4, .v (.int .i64 x1)), (16, .v (.sl 3 x2)), (17, .v (.int .i64 x3)), (18, .v (.int .i64 x4))] [((.p 0), .cells 227 [.str x5, .int .i64 x6, .int .i64 x7, .int .i64 x8]), ((.n 1 0 0), .cells 120 [.int .i64 x9, .int .i64 x10, .int .i64 x11, .int .i64 x12, .int .i64 x13, .int .i64 x14, .int .i64 x15, .int .i64 x16, .sl 151 x17, .sl 154 x18])] 1000 63
noncomputable def at___celluloid_shape_writer__set_L0 : List Item := (atLoop Tryz.f153 0)
noncomputable def S___celluloid_shape_writer__set_L2 (x1 : List (List PV)) (x2 : Int) (x3 : Int) (x4 : List UInt8) (x5 : Int) (x6 : Int) (x7 : Int) : St := mkSt [(0, .v (.ptr (.p 0) 0)), (39, .v (.sl 3 x1)), (40, .v (.int .i64 x2)), (41, .v (.int .i64 x3))] [((.p 0), .cells 227 [.str x4, .int .i64 x5, .int .i64 x6, .int .i64 x7])] 2000 63
noncomputable def at___celluloid_shape_writer__set_L2 : List Item := (atLoop Tryz.f153 2)
theorem w___celluloid_shape_writer__set (a2 : Int) (a3 : Int) (a4 : Int) (a5 : Int) (a6 : Int) (a7 : Int) (a8 : Int) (a9 : Int) (a10 : List (List PV)) (a11 : List (List PV)) (p0_1 : List UInt8) (p0_2 : Int) (p0_3 : Int) (p0_4 : Int) : cW f___celluloid_shape_writer__set [.u, .i a2, .i a3, .i a4, .i a5, .i a6, .i a7, .i a8, .i a9, .l a10, .l a11] [(t_shape_writer, [.s p0_1, .i p0_2, .i p0_3, .i p0_4])] =
  rW f___celluloid_shape_writer__set [t_shape_writer] at___celluloid_shape_writer__set_L0 (S___celluloid_shape_writer__set_L0 ((0 : Int)) ((List.set (List.set (List.set [[(PV.i (0 : Int))], [(PV.i (0 : Int))], [(PV.i (0 : Int))]] 0 [(PV.i a7)]) 1 [(PV.i a8)]) 2 [(PV.i a9)])) ((((List.length (List.set (List.set (List.set [[(PV.i (0 : Int))], [(PV.i (0 : Int))], [(PV.i (0 : Int))]] 0 [(PV.i a7)]) 1 [(PV.i a8)]) 2 [(PV.i a9)])) : Nat) : Int)) ((0 : Int)) (p0_1) (p0_2) (p0_3) (p0_4) (a2) (a3) (a4) (a5) (a6) (a7) (a8) (a9) (a10) (a11)) := by rw [cW_fix]; generalize cW = C; generalize rW = R; kernel_rfl
theorem w___celluloid_shape_writer__set_L0 (x1 : Int) (x2 : List (List PV)) (x3 : Int) (x4 : Int) (x5 : List UInt8) (x6 : Int) (x7 : Int) (x8 : Int) (x9 : Int) (x10 : Int) (x11 : Int) (x12 : Int) (x13 : Int) (x14 : Int) (x15 : Int) (x16 : Int) (x17 : List (List PV)) (x18 : List (List PV)) : rW f___celluloid_shape_writer__set [t_shape_writer] at___celluloid_shape_writer__set_L0 (S___celluloid_shape_writer__set_L0 x1 x2 x3 x4 x5 x6 x7 x8 x9 x10 x11 x12 x13 x14 x15 x16 x17 x18) =
  (bif (decide (x4 < x3)) then (bif (inB x4 (List.length x2)) then (bif (decide ((((elemAt x2 x4).getD 0 PV.u)).toI ≥ (0 : Int))) then (bif (decide ((0 : Int) ≤ x4)) then rW f___celluloid_shape_writer__set [t_shape_writer] at___celluloid_shape_writer__set_L0 (S___celluloid_shape_writer__set_L0 ((bitsOp Go.BinOp.or .i64 x1 (shl .i64 (2 : Int) x4))) (x2) (x3) ((IntKind.wrap .i64 (x4 + (1 : Int)))) (x5) (x6) (x7) (x8) (x9) (x10) (x11) (x12) (x13) (x14) (x15) (x16) (x17) (x18))
  else none)
  else rW f___celluloid_shape_writer__set [t_shape_writer] at___celluloid_shape_writer__set_L0 (S___celluloid_shape_writer__set_L0 (x1) (x2) (x3) ((IntKind.wrap .i64 (x4 + (1 : Int)))) (x5) (x6) (x7) (x8) (x9) (x10) (x11) (x12) (x13) (x14) (x15) (x16) (x17) (x18)))
  else none)
  else (cW f___celluloid_shape_writer__plain [PV.u, (PV.i x1), (PV.i (6 : Int))] [(t_shape_writer, [(PV.s x5), (PV.i x6), (PV.i x7), (PV.i x8)])]).bind fun r1 =>
  rW f___celluloid_shape_writer__set [t_shape_writer] at___celluloid_shape_writer__set_L2 (S___celluloid_shape_writer__set_L2 ((List.set (List.set (List.set [[(PV.i (0 : Int))], [(PV.i (0 : Int))], [(PV.i (0 : Int))]] 0 [(PV.i x14)]) 1 [(PV.i x15)]) 2 [(PV.i x16)])) ((((List.length (List.set (List.set (List.set [[(PV.i (0 : Int))], [(PV.i (0 : Int))], [(PV.i (0 : Int))]] 0 [(PV.i x14)]) 1 [(PV.i x15)]) 2 [(PV.i x16)])) : Nat) : Int)) ((0 : Int)) ((((((r1).2.getD 0 (0, []))).2.getD 0 PV.u)).toS) ((((((r1).2.getD 0 (0, []))).2.getD 1 PV.u)).toI) ((((((r1).2.getD 0 (0, []))).2.getD 2 PV.u)).toI) ((((((r1).2.getD 0 (0, []))).2.getD 3 PV.u)).toI))) := by rw [rW_fix]; generalize cW = C; generalize rW = R; kernel_rfl
theorem w___celluloid_shape_writer__set_L2 (x1 : List (List PV)) (x2 : Int) (x3 : Int) (x4 : List UInt8) (x5 : Int) (x6 : Int) (x7 : Int) : rW f___celluloid_shape_writer__set [t_shape_writer] at___celluloid_shape_writer__set_L2 (S___celluloid_shape_writer__set_L2 x1 x2 x3 x4 x5 x6 x7) =
  (bif (decide (x3 < x2)) then (bif (inB x3 (List.length x1)) then (bif (x3 == (2 : Int)) then (bif (decide ((((elemAt x1 x3).getD 0 PV.u)).toI ≥ (0 : Int))) then (cW f___celluloid_shape_writer__plain [PV.u, (PV.i (((elemAt x1 x3).getD 0 PV.u)).toI), (PV.i x7)] [(t_shape_writer, [(PV.s x4), (PV.i x5), (PV.i x6), (PV.i x7)])]).bind fun r2 =>
  rW f___celluloid_shape_writer__set [t_shape_writer] at___celluloid_shape_writer__set_L2 (S___celluloid_shape_writer__set_L2 (x1) (x2) ((IntKind.wrap .i64 (x3 + (1 : Int)))) ((((((r2).2.getD 0 (0, []))).2.getD 0 PV.u)).toS) ((((((r2).2.getD 0 (0, []))).2.getD 1 PV.u)).toI) ((((((r2).2.getD 0 (0, []))).2.getD 2 PV.u)).toI) ((((((r2).2.getD 0 (0, []))).2.getD 3 PV.u)).toI))
  else rW f___celluloid_shape_writer__set [t_shape_writer] at___celluloid_shape_writer__set_L2 (S___celluloid_shape_writer__set_L2 (x1) (x2) ((IntKind.wrap .i64 (x3 + (1 : Int)))) (x4) (x5) (x6) (x7)))
  else (bif (decide ((((elemAt x1 x3).getD 0 PV.u)).toI ≥ (0 : Int))) then (cW f___celluloid_shape_writer__plain [PV.u, (PV.i (((elemAt x1 x3).getD 0 PV.u)).toI), (PV.i x6)] [(t_shape_writer, [(PV.s x4), (PV.i x5), (PV.i x6), (PV.i x7)])]).bind fun r3 =>
  rW f___celluloid_shape_writer__set [t_shape_writer] at___celluloid_shape_writer__set_L2 (S___celluloid_shape_writer__set_L2 (x1) (x2) ((IntKind.wrap .i64 (x3 + (1 : Int)))) ((((((r3).2.getD 0 (0, []))).2.getD 0 PV.u)).toS) ((((((r3).2.getD 0 (0, []))).2.getD 1 PV.u)).toI) ((((((r3).2.getD 0 (0, []))).2.getD 2 PV.u)).toI) ((((((r3).2.getD 0 (0, []))).2.getD 3 PV.u)).toI))
  else rW f___celluloid_shape_writer__set [t_shape_writer] at___celluloid_shape_writer__set_L2 (S___celluloid_shape_writer__set_L2 (x1) (x2) ((IntKind.wrap .i64 (x3 + (1 : Int)))) (x4) (x5) (x6) (x7))))
  else none)
  else some ([], [(t_shape_writer, [(PV.s x4), (PV.i x5), (PV.i x6), (PV.i x7)])])) := by rw [rW_fix]; generalize cW = C; generalize rW = R; kernel_rfl
/- celluloid/shape.same -/
noncomputable def S_shape_same_L0 (x1 : Int) (x2 : Int) (x3 : Int) (x4 : Int) (x5 : Int) (x6 : Int) (x7 : Int) (x8 : Int) (x9 : Int) (x10 : Int) (x11 : List (List PV)) (x12 : List (List PV)) (x13 : Int) (x14 : Int) (x15 : Int) (x16 : Int) (x17 : Int) (x18 : Int) (x19 : Int) (x20 : Int) (x21 : List (List PV)) (x22 : List (List PV)) : St := mkSt [(2, .v (.ptr (.n 1 0 0) 0)), (3, .v (.ptr (.n 1 1 0) 0)), (23, .v (.int .i64 x1)), (24, .v (.int .i64 x2))] [((.n 1 0 0), .cells 120 [.int .i64 x3, .int .i64 x4, .int .i64 x5, .int .i64 x6, .int .i64 x7, .int .i64 x8, .int .i64 x9, .int .i64 x10, .sl 151 x11, .sl 154 x12]), ((.n 1 1 0), .cells 120 [.int .i64 x13, .int .i64 x14, .int .i64 x15, .int .i64 x16, .int .i64 x17, .int .i64 x18, .int .i64 x19, .int .i64 x20, .sl 151 x21, .sl 154 x22])] 1000 94
noncomputable def at_shape_same_L0 : List Item := (atLoop Tryz.f175 0)
theorem w_shape_same (a1 : Int) (a2 : Int) (a3 : Int) (a4 : Int) (a5 : Int) (a6 : Int) (a7 : Int) (a8 : Int) (a9 : List (List PV)) (a10 : List (List PV)) (a11 : Int) (a12 : Int) (a13 : Int) (a14 : Int) (a15 : Int) (a16 : Int) (a17 : Int) (a18 : Int) (a19 : List (List PV)) (a20 : List (List PV)) : cW f_shape_same [.i a1, .i a2, .i a3, .i a4, .i a5, .i a6, .i a7, .i a8, .l a9, .l a10, .i a11, .i a12, .i a13, .i a14, .i a15, .i a16, .i a17, .i a18, .l a19, .l a20] [] =
  ((bif ((((List.length a9) : Nat) : Int) != (((List.length a19) : Nat) : Int)) then some [(PV.b true)]
   else (cW f_slices_Equal___celluloid_api_Stroke_celluloid_api_Stroke_ [(PV.l a10), (PV.l a20)] []).bind fun r1 =>
   some [(PV.b (!(((r1).1.getD 0 PV.u)).toB))])).bind fun r2 =>
  (bif ((r2.getD 0 PV.u)).toB then some ([(PV.b false)], [])
  else rW f_shape_same [] at_shape_same_L0 (S_shape_same_L0 ((((List.length a9) : Nat) : Int)) ((0 : Int)) (a1) (a2) (a3) (a4) (a5) (a6) (a7) (a8) (a9) (a10) (a11) (a12) (a13) (a14) (a15) (a16) (a17) (a18) (a19) (a20))) := by rw [cW_fix]; generalize cW = C; generalize rW = R; kernel_rfl
theorem w_shape_same_L0 (x1 : Int) (x2 : Int) (x3 : Int) (x4 : Int) (x5 : Int) (x6 : Int) (x7 : Int) (x8 : Int) (x9 : Int) (x10 : Int) (x11 : List (List PV)) (x12 : List (List PV)) (x13 : Int) (x14 : Int) (x15 : Int) (x16 : Int) (x17 : Int) (x18 : Int) (x19 : Int) (x20 : Int) (x21 : List (List PV)) (x22 : List (List PV)) : rW f_shape_same [] at_shape_same_L0 (S_shape_same_L0 x1 x2 x3 x4 x5 x6 x7 x8 x9 x10 x11 x12 x13 x14 x15 x16 x17 x18 x19 x20 x21 x22) =
  (bif (decide (x2 < x1)) then (bif (inB x2 (List.length x11)) then (bif (inB x2 (List.length x21)) then (cW f_style_SameFill [(PV.i (((elemAt x11 x2).getD 0 PV.u)).toI), (PV.i (((elemAt x11 x2).getD 1 PV.u)).toI), (PV.i (((elemAt x11 x2).getD 2 PV.u)).toI), (PV.i (((elemAt x11 x2).getD 3 PV.u)).toI), (PV.i (((elemAt x11 x2).getD 4 PV.u)).toI), (PV.i (((elemAt x11 x2).getD 5 PV.u)).toI), (PV.i (((elemAt x11 x2).getD 6 PV.u)).toI), (PV.i (((elemAt x11 x2).getD 7 PV.u)).toI), (PV.i (((elemAt x11 x2).getD 8 PV.u)).toI), (PV.i (((elemAt x11 x2).getD 9 PV.u)).toI), (PV.i (((elemAt x11 x2).getD 10 PV.u)).toI), (PV.i (((elemAt x11 x2).getD 11 PV.u)).toI), (PV.l (((elemAt x11 x2).getD 12 PV.u)).toL), (PV.i (((elemAt x11 x2).getD 13 PV.u)).toI), (PV.i (((elemAt x21 x2).getD 0 PV.u)).toI), (PV.i (((elemAt x21 x2).getD 1 PV.u)).toI), (PV.i (((elemAt x21 x2).getD 2 PV.u)).toI), (PV.i (((elemAt x21 x2).getD 3 PV.u)).toI), (PV.i (((elemAt x21 x2).getD 4 PV.u)).toI), (PV.i (((elemAt x21 x2).getD 5 PV.u)).toI), (PV.i (((elemAt x21 x2).getD 6 PV.u)).toI), (PV.i (((elemAt x21 x2).getD 7 PV.u)).toI), (PV.i (((elemAt x21 x2).getD 8 PV.u)).toI), (PV.i (((elemAt x21 x2).getD 9 PV.u)).toI), (PV.i (((elemAt x21 x2).getD 10 PV.u)).toI), (PV.i (((elemAt x21 x2).getD 11 PV.u)).toI), (PV.l (((elemAt x21 x2).getD 12 PV.u)).toL), (PV.i (((elemAt x21 x2).getD 13 PV.u)).toI)] []).bind fun r3 =>
  (bif (!(((r3).1.getD 0 PV.u)).toB) then some ([(PV.b false)], [])
  else rW f_shape_same [] at_shape_same_L0 (S_shape_same_L0 (x1) ((IntKind.wrap .i64 (x2 + (1 : Int)))) (x3) (x4) (x5) (x6) (x7) (x8) (x9) (x10) (x11) (x12) (x13) (x14) (x15) (x16) (x17) (x18) (x19) (x20) (x21) (x22)))
  else none)
  else none)
  else ((bif (x3 == x13) then (bif (x4 == x14) then (bif (x5 == x15) then (bif (x6 == x16) then (bif (x7 == x17) then (bif (x8 == x18) then (bif (x9 == x19) then some [(PV.b (x10 == x20))]
   else some [(PV.b false)])
   else some [(PV.b false)])
   else some [(PV.b false)])
   else some [(PV.b false)])
   else some [(PV.b false)])
   else some [(PV.b false)])
   else some [(PV.b false)])).bind fun r4 =>
  some ([(PV.b ((r4.getD 0 PV.u)).toB)], [])) := by rw [rW_fix]; generalize cW = C; generalize rW = R; kernel_rfl
/- slices.ContainsFunc[[]int,int] -/
theorem w_slices_ContainsFunc___int_int_ (a1 : List (List PV)) (p0_1 : Int) (p1_1 : Int) : cW f_slices_ContainsFunc___int_int_ [.l a1, (.f f_shape_within_1 2)] [(t_int, [.i p0_1]), (t_int, [.i p1_1])] =
  (cW f_slices_IndexFunc___int_int_ [(PV.l a1), (PV.f f_shape_within_1 2)] [(t_int, [(PV.i p0_1)]), (t_int, [(PV.i p1_1)])]).bind fun r1 =>
  some ([(PV.b (decide ((((r1).1.getD 0 PV.u)).toI ≥ (0 : Int))))], [(t_int, [(PV.i (((((r1).2.getD 0 (0, []))).2.getD 0 PV.u)).toI)]), (t_int, [(PV.i (((((r1).2.getD 1 (0, []))).2.getD 0 PV.u)).toI)])]) := by rw [cW_fix]; generalize cW = C; generalize rW = R; kernel_rfl
/- slices.IndexFunc[[]int,int] -/
noncomputable def S_slices_IndexFunc___int_int__L0 (x1 : List (List PV)) (x2 : Int) (x3 : Int) (x4 : Int) (x5 : Int) : St := mkSt [(0, .v (.sl 3 x1)), (1, .v (.fn 141 [(.p 0), (.p 1)])), (7, .v (.int .i64 x2)), (8, .v (.int .i64 x3))] [((.p 0), .cells 3 [.int .i64 x4]), ((.p 1), .cells 3 [.int .i64 x5])] 1000 19
noncomputable def at_slices_IndexFunc___int_int__L0 : List Item := (atLoop Tryz.f120 0)
theorem w_slices_IndexFunc___int_int_ (a1 : List (List PV)) (p0_1 : Int) (p1_1 : Int) : cW f_slices_IndexFunc___int_int_ [.l a1, (.f f_shape_within_1 2)] [(t_int, [.i p0_1]), (t_int, [.i p1_1])] =
  rW f_slices_IndexFunc___int_int_ [t_int, t_int] at_slices_IndexFunc___int_int__L0 (S_slices_IndexFunc___int_int__L0 (a1) ((((List.length a1) : Nat) : Int)) ((0 : Int)) (p0_1) (p1_1)) := by rw [cW_fix]; generalize cW = C; generalize rW = R; kernel_rfl
theorem w_slices_IndexFunc___int_int__L0 (x1 : List (List PV)) (x2 : Int) (x3 : Int) (x4 : Int) (x5 : Int) : rW f_slices_IndexFunc___int_int_ [t_int, t_int] at_slices_IndexFunc___int_int__L0 (S_slices_IndexFunc___int_int__L0 x1 x2 x3 x4 x5) =
  (bif (decide (x3 < x2)) then (bif (inB x3 (List.length x1)) then (cW f_shape_within_1 [(PV.i (((elemAt x1 x3).getD 0 PV.u)).toI)] [(t_int, [(PV.i x4)]), (t_int, [(PV.i x5)])]).bind fun r1 =>
  (bif (((r1).1.getD 0 PV.u)).toB then some ([(PV.i x3)], [(t_int, [(PV.i (((((r1).2.getD 0 (0, []))).2.getD 0 PV.u)).toI)]), (t_int, [(PV.i (((((r1).2.getD 1 (0, []))).2.getD 0 PV.u)).toI)])])
  else rW f_slices_IndexFunc___int_int_ [t_int, t_int] at_slices_IndexFunc___int_int__L0 (S_slices_IndexFunc___int_int__L0 (x1) (x2) ((IntKind.wrap .i64 (x3 + (1 : Int)))) ((((((r1).2.getD 0 (0, []))).2.getD 0 PV.u)).toI) ((((((r1).2.getD 1 (0, []))).2.getD 0 PV.u)).toI)))
  else none)
  else some ([(PV.i (-1 : Int))], [(t_int, [(PV.i x4)]), (t_int, [(PV.i x5)])])) := by rw [rW_fix]; generalize cW = C; generalize rW = R; kernel_rfl
end Go.AI
