/- Equations of the program's functions, on. -/
import Derived.Test.YtnbmjpdiibandaaU
import Derived.KernelRfl
set_option linter.unusedVariables false
set_option maxRecDepth 100000
namespace Go.AI
open Go Go.Proofs
/- celluloid/celluloidlaw08.StyleRights -/
/- celluloid/celluloidlaw08.StyleSizes -/
/- celluloid/style.RightFill -/
noncomputable def S_style_RightFill_L1 (x1 : Int) (x2 : List (List PV)) (x3 : Int) (x4 : Int) (x5 : Int) (x6 : Int) (x7 : Int) (x8 : Int) (x9 : Int) (x10 : Int) (x11 : Int) (x12 : Int) (x13 : Int) (x14 : Int) (x15 : Int) (x16 : Int) (x17 : List (List PV)) (x18 : Int) : St := mkSt [(1, .v (.ptr (.n 1 0 0) 0)), (3, .v (.int .i64 x1)), (68, .v (.sl 81 x2)), (69, .v (.int .i64 x3)), (70, .v (.int .i64 x4)), (85, .any), (86, .any), (87, .any), (90, .any), (91, .any), (92, .any), (95, .any), (96, .any), (97, .any), (98, .any), (101, .any), (102, .any), (103, .any), (104, .any)] [((.n 1 0 0), .cells 28 [.int .i64 x5, .int .i64 x6, .int .i64 x7, .int .i64 x8, .int .i64 x9, .int .i64 x10, .int .i64 x11, .int .i64 x12, .int .i64 x13, .int .i64 x14, .int .i64 x15, .int .i64 x16, .sl 81 x17, .int .i64 x18])] 1000 106
noncomputable def at_style_RightFill_L1 : List Item := (atLoop Try.f11 1)
theorem w_style_RightFill (a1 : Int) (a2 : Int) (a3 : Int) (a4 : Int) (a5 : Int) (a6 : Int) (a7 : Int) (a8 : Int) (a9 : Int) (a10 : Int) (a11 : Int) (a12 : Int) (a13 : List (List PV)) (a14 : Int) : cW f_style_RightFill [.i a1, .i a2, .i a3, .i a4, .i a5, .i a6, .i a7, .i a8, .i a9, .i a10, .i a11, .i a12, .l a13, .i a14] [] =
  (bif (a1 == (0 : Int)) then ((cW f_field_RightRGBA [(PV.i a2), (PV.i a3), (PV.i a4), (PV.i a5)] []).bind fun r1 =>
   (bif (((r1).1.getD 0 PV.u)).toB then (cW f_style_SameFill [(PV.i a1), (PV.i a2), (PV.i a3), (PV.i a4), (PV.i a5), (PV.i a6), (PV.i a7), (PV.i a8), (PV.i a9), (PV.i a10), (PV.i a11), (PV.i a12), (PV.l a13), (PV.i a14), (PV.i (0 : Int)), (PV.i a2), (PV.i a3), (PV.i a4), (PV.i a5), (PV.i (0 : Int)), (PV.i (0 : Int)), (PV.i (0 : Int)), (PV.i (0 : Int)), (PV.i (0 : Int)), (PV.i (0 : Int)), (PV.i (0 : Int)), (PV.l []), (PV.i (0 : Int))] []).bind fun r2 =>
   some [(PV.b (((r2).1.getD 0 PV.u)).toB)]
   else some [(PV.b false)])).bind fun r3 =>
  some ([(PV.b ((r3.getD 0 PV.u)).toB)], [])
  else (cW f_style_picture [(PV.i a1)] []).bind fun r4 =>
  (bif (((r4).1.getD 0 PV.u)).toB then ((cW f_field_RightMatrix [(PV.i a6), (PV.i a7), (PV.i a8), (PV.i a9), (PV.i a10), (PV.i a11)] []).bind fun r5 =>
   (bif (((r5).1.getD 0 PV.u)).toB then (bif (decide (a14 ≥ (0 : Int))) then (bif (decide (a14 < (65536 : Int))) then (cW f_style_SameFill [(PV.i a1), (PV.i a2), (PV.i a3), (PV.i a4), (PV.i a5), (PV.i a6), (PV.i a7), (PV.i a8), (PV.i a9), (PV.i a10), (PV.i a11), (PV.i a12), (PV.l a13), (PV.i a14), (PV.i a1), (PV.i (0 : Int)), (PV.i (0 : Int)), (PV.i (0 : Int)), (PV.i (0 : Int)), (PV.i a6), (PV.i a7), (PV.i a8), (PV.i a9), (PV.i a10), (PV.i a11), (PV.i (0 : Int)), (PV.l []), (PV.i a14)] []).bind fun r6 =>
   some [(PV.b (((r6).1.getD 0 PV.u)).toB)]
   else some [(PV.b false)])
   else some [(PV.b false)])
   else some [(PV.b false)])).bind fun r7 =>
  some ([(PV.b ((r7.getD 0 PV.u)).toB)], [])
  else ((cW f_style_gradient [(PV.i a1)] []).bind fun r8 =>
   (bif (!(((r8).1.getD 0 PV.u)).toB) then some [(PV.b true)]
   else (cW f_style_SameFill [(PV.i a1), (PV.i a2), (PV.i a3), (PV.i a4), (PV.i a5), (PV.i a6), (PV.i a7), (PV.i a8), (PV.i a9), (PV.i a10), (PV.i a11), (PV.i a12), (PV.l a13), (PV.i a14), (PV.i a1), (PV.i (0 : Int)), (PV.i (0 : Int)), (PV.i (0 : Int)), (PV.i (0 : Int)), (PV.i a6), (PV.i a7), (PV.i a8), (PV.i a9), (PV.i a10), (PV.i a11), (PV.i a12), (PV.l a13), (PV.i (0 : Int))] []).bind fun r9 =>
   some [(PV.b (!(((r9).1.getD 0 PV.u)).toB))])).bind fun r10 =>
  (bif ((r10.getD 0 PV.u)).toB then some ([(PV.b false)], [])
  else rW f_style_RightFill [] at_style_RightFill_L1 (S_style_RightFill_L1 ((0 : Int)) (a13) ((((List.length a13) : Nat) : Int)) ((0 : Int)) (a1) (a2) (a3) (a4) (a5) (a6) (a7) (a8) (a9) (a10) (a11) (a12) (a13) (a14))))) := by rw [cW_fix]; generalize cW = C; generalize rW = R; kernel_rfl
theorem w_style_RightFill_L1 (x1 : Int) (x2 : List (List PV)) (x3 : Int) (x4 : Int) (x5 : Int) (x6 : Int) (x7 : Int) (x8 : Int) (x9 : Int) (x10 : Int) (x11 : Int) (x12 : Int) (x13 : Int) (x14 : Int) (x15 : Int) (x16 : Int) (x17 : List (List PV)) (x18 : Int) : rW f_style_RightFill [] at_style_RightFill_L1 (S_style_RightFill_L1 x1 x2 x3 x4 x5 x6 x7 x8 x9 x10 x11 x12 x13 x14 x15 x16 x17 x18) =
  (bif (decide (x4 < x3)) then (bif (inB x4 (List.length x2)) then (cW f_style_stop [(PV.i (((elemAt x2 x4).getD 0 PV.u)).toI), (PV.i (((elemAt x2 x4).getD 1 PV.u)).toI), (PV.i (((elemAt x2 x4).getD 2 PV.u)).toI), (PV.i (((elemAt x2 x4).getD 3 PV.u)).toI), (PV.i (((elemAt x2 x4).getD 4 PV.u)).toI), (PV.i x1)] []).bind fun r11 =>
  (bif (!(((r11).1.getD 0 PV.u)).toB) then some ([(PV.b false)], [])
  else rW f_style_RightFill [] at_style_RightFill_L1 (S_style_RightFill_L1 ((((elemAt x2 x4).getD 0 PV.u)).toI) (x2) (x3) ((IntKind.wrap .i64 (x4 + (1 : Int)))) (x5) (x6) (x7) (x8) (x9) (x10) (x11) (x12) (x13) (x14) (x15) (x16) (x17) (x18)))
  else none)
  else ((cW f_field_RightMatrix [(PV.i x10), (PV.i x11), (PV.i x12), (PV.i x13), (PV.i x14), (PV.i x15)] []).bind fun r12 =>
   (bif (((r12).1.getD 0 PV.u)).toB then (bif (decide (x16 ≥ (0 : Int))) then (bif (decide (x16 ≤ (2 : Int))) then (bif (decide ((((List.length x17) : Nat) : Int) ≥ (1 : Int))) then some [(PV.b (decide ((((List.length x17) : Nat) : Int) ≤ (8 : Int))))]
   else some [(PV.b false)])
   else some [(PV.b false)])
   else some [(PV.b false)])
   else some [(PV.b false)])).bind fun r13 =>
  some ([(PV.b ((r13.getD 0 PV.u)).toB)], [])) := by rw [rW_fix]; generalize cW = C; generalize rW = R; kernel_rfl
/- celluloid/style.SameFill -/
theorem w_style_SameFill (a1 : Int) (a2 : Int) (a3 : Int) (a4 : Int) (a5 : Int) (a6 : Int) (a7 : Int) (a8 : Int) (a9 : Int) (a10 : Int) (a11 : Int) (a12 : Int) (a13 : List (List PV)) (a14 : Int) (a15 : Int) (a16 : Int) (a17 : Int) (a18 : Int) (a19 : Int) (a20 : Int) (a21 : Int) (a22 : Int) (a23 : Int) (a24 : Int) (a25 : Int) (a26 : Int) (a27 : List (List PV)) (a28 : Int) : cW f_style_SameFill [.i a1, .i a2, .i a3, .i a4, .i a5, .i a6, .i a7, .i a8, .i a9, .i a10, .i a11, .i a12, .l a13, .i a14, .i a15, .i a16, .i a17, .i a18, .i a19, .i a20, .i a21, .i a22, .i a23, .i a24, .i a25, .i a26, .l a27, .i a28] [] =
  ((bif (a1 == a15) then (bif ((a2 == a16) && ((a3 == a17) && ((a4 == a18) && (a5 == a19)))) then (bif ((a6 == a20) && ((a7 == a21) && ((a8 == a22) && ((a9 == a23) && ((a10 == a24) && (a11 == a25)))))) then (bif (a12 == a26) then (bif (a14 == a28) then (cW f_slices_Equal___celluloid_api_Stop_celluloid_api_Stop_ [(PV.l a13), (PV.l a27)] []).bind fun r1 =>
   some [(PV.b (((r1).1.getD 0 PV.u)).toB)]
   else some [(PV.b false)])
   else some [(PV.b false)])
   else some [(PV.b false)])
   else some [(PV.b false)])
   else some [(PV.b false)])).bind fun r2 =>
  some ([(PV.b ((r2.getD 0 PV.u)).toB)], []) := by rw [cW_fix]; generalize cW = C; generalize rW = R; kernel_rfl
/- celluloid/celluloidref08.Right -/
/- celluloid/celluloidref08.SameLists -/
noncomputable def S_celluloidref08_SameLists_L0 (x1 : List (List PV)) (x2 : List (List PV)) (x3 : List (List PV)) (x4 : List (List PV)) (x5 : Int) : St := mkSt [(0, .v (.sl 28 x1)), (1, .v (.sl 28 x2)), (2, .v (.sl 30 x3)), (3, .v (.sl 30 x4)), (9, .v (.int .i64 x5))] [] 1000 54
noncomputable def at_celluloidref08_SameLists_L0 : List Item := (atLoop Try.f23 0)
noncomputable def S_celluloidref08_SameLists_L2 (x1 : List (List PV)) (x2 : List (List PV)) (x3 : Int) : St := mkSt [(2, .v (.sl 30 x1)), (3, .v (.sl 30 x2)), (10, .v (.int .i64 x3))] [] 2000 54
noncomputable def at_celluloidref08_SameLists_L2 : List Item := (atLoop Try.f23 2)
theorem w_celluloidref08_SameLists (a1 : List (List PV)) (a2 : List (List PV)) (a3 : List (List PV)) (a4 : List (List PV)) : cW f_celluloidref08_SameLists [.l a1, .l a2, .l a3, .l a4] [] =
  ((bif ((((List.length a1) : Nat) : Int) != (((List.length a2) : Nat) : Int)) then some [(PV.b true)]
   else some [(PV.b ((((List.length a3) : Nat) : Int) != (((List.length a4) : Nat) : Int)))])).bind fun r1 =>
  (bif ((r1.getD 0 PV.u)).toB then some ([(PV.b false)], [])
  else rW f_celluloidref08_SameLists [] at_celluloidref08_SameLists_L0 (S_celluloidref08_SameLists_L0 (a1) (a2) (a3) (a4) ((0 : Int)))) := by rw [cW_fix]; generalize cW = C; generalize rW = R; kernel_rfl
theorem w_celluloidref08_SameLists_L0 (x1 : List (List PV)) (x2 : List (List PV)) (x3 : List (List PV)) (x4 : List (List PV)) (x5 : Int) : rW f_celluloidref08_SameLists [] at_celluloidref08_SameLists_L0 (S_celluloidref08_SameLists_L0 x1 x2 x3 x4 x5) =
  (bif (decide (x5 < (((List.length x1) : Nat) : Int))) then (bif (inB x5 (List.length x1)) then (bif (inB x5 (List.length x2)) then (cW f_celluloidref08_Same [(PV.i (((elemAt x1 x5).getD 0 PV.u)).toI), (PV.i (((elemAt x1 x5).getD 1 PV.u)).toI), (PV.i (((elemAt x1 x5).getD 2 PV.u)).toI), (PV.i (((elemAt x1 x5).getD 3 PV.u)).toI), (PV.i (((elemAt x1 x5).getD 4 PV.u)).toI), (PV.i (((elemAt x1 x5).getD 5 PV.u)).toI), (PV.i (((elemAt x1 x5).getD 6 PV.u)).toI), (PV.i (((elemAt x1 x5).getD 7 PV.u)).toI), (PV.i (((elemAt x1 x5).getD 8 PV.u)).toI), (PV.i (((elemAt x1 x5).getD 9 PV.u)).toI), (PV.i (((elemAt x1 x5).getD 10 PV.u)).toI), (PV.i (((elemAt x1 x5).getD 11 PV.u)).toI), (PV.l (((elemAt x1 x5).getD 12 PV.u)).toL), (PV.i (((elemAt x1 x5).getD 13 PV.u)).toI), (PV.i (((elemAt x2 x5).getD 0 PV.u)).toI), (PV.i (((elemAt x2 x5).getD 1 PV.u)).toI), (PV.i (((elemAt x2 x5).getD 2 PV.u)).toI), (PV.i (((elemAt x2 x5).getD 3 PV.u)).toI), (PV.i (((elemAt x2 x5).getD 4 PV.u)).toI), (PV.i (((elemAt x2 x5).getD 5 PV.u)).toI), (PV.i (((elemAt x2 x5).getD 6 PV.u)).toI), (PV.i (((elemAt x2 x5).getD 7 PV.u)).toI), (PV.i (((elemAt x2 x5).getD 8 PV.u)).toI), (PV.i (((elemAt x2 x5).getD 9 PV.u)).toI), (PV.i (((elemAt x2 x5).getD 10 PV.u)).toI), (PV.i (((elemAt x2 x5).getD 11 PV.u)).toI), (PV.l (((elemAt x2 x5).getD 12 PV.u)).toL), (PV.i (((elemAt x2 x5).getD 13 PV.u)).toI)] []).bind fun r2 =>
  (bif (!(((r2).1.getD 0 PV.u)).toB) then some ([(PV.b false)], [])
  else rW f_celluloidref08_SameLists [] at_celluloidref08_SameLists_L0 (S_celluloidref08_SameLists_L0 (x1) (x2) (x3) (x4) ((IntKind.wrap .i64 (x5 + (1 : Int))))))
  else none)
  else none)
  else rW f_celluloidref08_SameLists [] at_celluloidref08_SameLists_L2 (S_celluloidref08_SameLists_L2 (x3) (x4) ((0 : Int)))) := by rw [rW_fix]; generalize cW = C; generalize rW = R; kernel_rfl
theorem w_celluloidref08_SameLists_L2 (x1 : List (List PV)) (x2 : List (List PV)) (x3 : Int) : rW f_celluloidref08_SameLists [] at_celluloidref08_SameLists_L2 (S_celluloidref08_SameLists_L2 x1 x2 x3) =
  (bif (decide (x3 < (((List.length x1) : Nat) : Int))) then (bif (inB x3 (List.length x1)) then (bif (inB x3 (List.length x2)) then (bif (!(((((elemAt x1 x3).getD 0 PV.u)).toI == (((elemAt x2 x3).getD 0 PV.u)).toI) && (((((elemAt x1 x3).getD 1 PV.u)).toI == (((elemAt x2 x3).getD 1 PV.u)).toI) && (((((elemAt x1 x3).getD 2 PV.u)).toI == (((elemAt x2 x3).getD 2 PV.u)).toI) && (((((elemAt x1 x3).getD 3 PV.u)).toI == (((elemAt x2 x3).getD 3 PV.u)).toI) && ((((elemAt x1 x3).getD 4 PV.u)).toI == (((elemAt x2 x3).getD 4 PV.u)).toI)))))) then some ([(PV.b false)], [])
  else rW f_celluloidref08_SameLists [] at_celluloidref08_SameLists_L2 (S_celluloidref08_SameLists_L2 (x1) (x2) ((IntKind.wrap .i64 (x3 + (1 : Int))))))
  else none)
  else none)
  else some ([(PV.b true)], [])) := by rw [rW_fix]; generalize cW = C; generalize rW = R; kernel_rfl
/- celluloid/style.picture -/
theorem w_style_picture (a1 : Int) : cW f_style_picture [.i a1] [] =
  ((bif (a1 == (64 : Int)) then some [(PV.b true)]
   else some [(PV.b (a1 == (65 : Int)))])).bind fun r1 =>
  some ([(PV.b ((r1.getD 0 PV.u)).toB)], []) := by rw [cW_fix]; generalize cW = C; generalize rW = R; kernel_rfl
/- slices.ContainsFunc[[]celluloid/api.Stroke,celluloid/api.Stroke] -/
theorem w_slices_ContainsFunc___celluloid_api_Stroke_celluloid_api_Stroke_ (a1 : List (List PV)) : cW f_slices_ContainsFunc___celluloid_api_Stroke_celluloid_api_Stroke_ [.l a1, (.f f_style_Right_2 0)] [] =
  (cW f_slices_IndexFunc___celluloid_api_Stroke_celluloid_api_Stroke_ [(PV.l a1), (PV.f f_style_Right_2 0)] []).bind fun r1 =>
  some ([(PV.b (decide ((((r1).1.getD 0 PV.u)).toI ≥ (0 : Int))))], []) := by rw [cW_fix]; generalize cW = C; generalize rW = R; kernel_rfl
/- (*celluloid/style.reader).little -/
theorem w___celluloid_style_reader__little (a2 : Int) (p0_1 : List UInt8) (p0_2 : Int) (p0_3 : Int) : cW f___celluloid_style_reader__little [.u, .i a2] [(t_style_reader, [.s p0_1, .i p0_2, .i p0_3])] =
  (bif (p0_3 != (0 : Int)) then some ([(PV.i (0 : Int))], [(t_style_reader, [(PV.s p0_1), (PV.i p0_2), (PV.i p0_3)])])
  else (cW f_bits_Little [(PV.s p0_1), (PV.i p0_2), (PV.i a2)] []).bind fun r1 =>
  some ([(PV.i (((r1).1.getD 0 PV.u)).toI)], [(t_style_reader, [(PV.s (((r1).1.getD 1 PV.u)).toS), (PV.i (((r1).1.getD 2 PV.u)).toI), (PV.i (((r1).1.getD 3 PV.u)).toI)])])) := by rw [cW_fix]; generalize cW = C; generalize rW = R; kernel_rfl
/- celluloid/celluloidref08.Color -/
/- celluloid/celluloidlaw08.StylePuts -/
/- celluloid/celluloidref08.Fill -/
/- celluloid/celluloidref08.Same -/
noncomputable def S_celluloidref08_Same_L0 (x1 : Int) (x2 : Int) (x3 : Int) (x4 : Int) (x5 : Int) (x6 : Int) (x7 : Int) (x8 : Int) (x9 : Int) (x10 : Int) (x11 : Int) (x12 : Int) (x13 : Int) (x14 : List (List PV)) (x15 : Int) (x16 : Int) (x17 : Int) (x18 : Int) (x19 : Int) (x20 : Int) (x21 : Int) (x22 : Int) (x23 : Int) (x24 : Int) (x25 : Int) (x26 : Int) (x27 : Int) (x28 : List (List PV)) (x29 : Int) : St := mkSt [(2, .v (.ptr (.n 1 0 0) 0)), (3, .v (.ptr (.n 1 1 0) 0)), (5, .v (.int .i64 x1))] [((.n 1 0 0), .cells 28 [.int .i64 x2, .int .i64 x3, .int .i64 x4, .int .i64 x5, .int .i64 x6, .int .i64 x7, .int .i64 x8, .int .i64 x9, .int .i64 x10, .int .i64 x11, .int .i64 x12, .int .i64 x13, .sl 81 x14, .int .i64 x15]), ((.n 1 1 0), .cells 28 [.int .i64 x16, .int .i64 x17, .int .i64 x18, .int .i64 x19, .int .i64 x20, .int .i64 x21, .int .i64 x22, .int .i64 x23, .int .i64 x24, .int .i64 x25, .int .i64 x26, .int .i64 x27, .sl 81 x28, .int .i64 x29])] 1000 66
noncomputable def at_celluloidref08_Same_L0 : List Item := (atLoop Try.f16 0)
theorem w_celluloidref08_Same (a1 : Int) (a2 : Int) (a3 : Int) (a4 : Int) (a5 : Int) (a6 : Int) (a7 : Int) (a8 : Int) (a9 : Int) (a10 : Int) (a11 : Int) (a12 : Int) (a13 : List (List PV)) (a14 : Int) (a15 : Int) (a16 : Int) (a17 : Int) (a18 : Int) (a19 : Int) (a20 : Int) (a21 : Int) (a22 : Int) (a23 : Int) (a24 : Int) (a25 : Int) (a26 : Int) (a27 : List (List PV)) (a28 : Int) : cW f_celluloidref08_Same [.i a1, .i a2, .i a3, .i a4, .i a5, .i a6, .i a7, .i a8, .i a9, .i a10, .i a11, .i a12, .l a13, .i a14, .i a15, .i a16, .i a17, .i a18, .i a19, .i a20, .i a21, .i a22, .i a23, .i a24, .i a25, .i a26, .l a27, .i a28] [] =
  ((bif (a1 != a15) then some [(PV.b true)]
   else (bif (!((a2 == a16) && ((a3 == a17) && ((a4 == a18) && (a5 == a19))))) then some [(PV.b true)]
   else (bif (!((a6 == a20) && ((a7 == a21) && ((a8 == a22) && ((a9 == a23) && ((a10 == a24) && (a11 == a25))))))) then some [(PV.b true)]
   else (bif (a12 != a26) then some [(PV.b true)]
   else (bif (a14 != a28) then some [(PV.b true)]
   else some [(PV.b ((((List.length a13) : Nat) : Int) != (((List.length a27) : Nat) : Int)))])))))).bind fun r1 =>
  (bif ((r1.getD 0 PV.u)).toB then some ([(PV.b false)], [])
  else rW f_celluloidref08_Same [] at_celluloidref08_Same_L0 (S_celluloidref08_Same_L0 ((0 : Int)) (a1) (a2) (a3) (a4) (a5) (a6) (a7) (a8) (a9) (a10) (a11) (a12) (a13) (a14) (a15) (a16) (a17) (a18) (a19) (a20) (a21) (a22) (a23) (a24) (a25) (a26) (a27) (a28))) := by rw [cW_fix]; generalize cW = C; generalize rW = R; kernel_rfl
theorem w_celluloidref08_Same_L0 (x1 : Int) (x2 : Int) (x3 : Int) (x4 : Int) (x5 : Int) (x6 : Int) (x7 : Int) (x8 : Int) (x9 : Int) (x10 : Int) (x11 : Int) (x12 : Int) (x13 : Int) (x14 : List (List PV)) (x15 : Int) (x16 : Int) (x17 : Int) (x18 : Int) (x19 : Int) (x20 : Int) (x21 : Int) (x22 : Int) (x23 : Int) (x24 : Int) (x25 : Int) (x26 : Int) (x27 : Int) (x28 : List (List PV)) (x29 : Int) : rW f_celluloidref08_Same [] at_celluloidref08_Same_L0 (S_celluloidref08_Same_L0 x1 x2 x3 x4 x5 x6 x7 x8 x9 x10 x11 x12 x13 x14 x15 x16 x17 x18 x19 x20 x21 x22 x23 x24 x25 x26 x27 x28 x29) =
  (bif (decide (x1 < (((List.length x14) : Nat) : Int))) then (bif (inB x1 (List.length x14)) then (bif (inB x1 (List.length x28)) then (bif (!(((((elemAt x14 x1).getD 0 PV.u)).toI == (((elemAt x28 x1).getD 0 PV.u)).toI) && (((((elemAt x14 x1).getD 1 PV.u)).toI == (((elemAt x28 x1).getD 1 PV.u)).toI) && (((((elemAt x14 x1).getD 2 PV.u)).toI == (((elemAt x28 x1).getD 2 PV.u)).toI) && (((((elemAt x14 x1).getD 3 PV.u)).toI == (((elemAt x28 x1).getD 3 PV.u)).toI) && ((((elemAt x14 x1).getD 4 PV.u)).toI == (((elemAt x28 x1).getD 4 PV.u)).toI)))))) then some ([(PV.b false)], [])
  else rW f_celluloidref08_Same [] at_celluloidref08_Same_L0 (S_celluloidref08_Same_L0 ((IntKind.wrap .i64 (x1 + (1 : Int)))) (x2) (x3) (x4) (x5) (x6) (x7) (x8) (x9) (x10) (x11) (x12) (x13) (x14) (x15) (x16) (x17) (x18) (x19) (x20) (x21) (x22) (x23) (x24) (x25) (x26) (x27) (x28) (x29)))
  else none)
  else none)
  else some ([(PV.b true)], [])) := by rw [rW_fix]; generalize cW = C; generalize rW = R; kernel_rfl
/- celluloid/style.Right -/
theorem w_style_Right (a1 : List (List PV)) (a2 : List (List PV)) : cW f_style_Right [.l a1, .l a2] [] =
  ((bif (decide ((((List.length a1) : Nat) : Int) ≤ (15 : Int))) then (bif (decide ((((List.length a2) : Nat) : Int) ≤ (15 : Int))) then (cW f_slices_ContainsFunc___celluloid_api_Fill_celluloid_api_Fill_ [(PV.l a1), (PV.f f_style_Right_1 0)] []).bind fun r1 =>
   (bif (!(((r1).1.getD 0 PV.u)).toB) then (cW f_slices_ContainsFunc___celluloid_api_Stroke_celluloid_api_Stroke_ [(PV.l a2), (PV.f f_style_Right_2 0)] []).bind fun r2 =>
   some [(PV.b (!(((r2).1.getD 0 PV.u)).toB))]
   else some [(PV.b false)])
   else some [(PV.b false)])
   else some [(PV.b false)])).bind fun r3 =>
  some ([(PV.b ((r3.getD 0 PV.u)).toB)], []) := by rw [cW_fix]; generalize cW = C; generalize rW = R; kernel_rfl
/- celluloid/celluloidref08.Take -/
/- slices.Equal[[]celluloid/api.Stop,celluloid/api.Stop] -/
noncomputable def S_slices_Equal___celluloid_api_Stop_celluloid_api_Stop__L0 (x1 : List (List PV)) (x2 : List (List PV)) (x3 : Int) (x4 : Int) : St := mkSt [(0, .v (.sl 81 x1)), (1, .v (.sl 81 x2)), (12, .v (.int .i64 x3)), (13, .v (.int .i64 x4))] [] 1000 26
noncomputable def at_slices_Equal___celluloid_api_Stop_celluloid_api_Stop__L0 : List Item := (atLoop Try.f40 0)
theorem w_slices_Equal___celluloid_api_Stop_celluloid_api_Stop_ (a1 : List (List PV)) (a2 : List (List PV)) : cW f_slices_Equal___celluloid_api_Stop_celluloid_api_Stop_ [.l a1, .l a2] [] =
  (bif ((((List.length a1) : Nat) : Int) != (((List.length a2) : Nat) : Int)) then some ([(PV.b false)], [])
  else rW f_slices_Equal___celluloid_api_Stop_celluloid_api_Stop_ [] at_slices_Equal___celluloid_api_Stop_celluloid_api_Stop__L0 (S_slices_Equal___celluloid_api_Stop_celluloid_api_Stop__L0 (a1) (a2) ((((List.length a1) : Nat) : Int)) ((0 : Int)))) := by rw [cW_fix]; generalize cW = C; generalize rW = R; kernel_rfl
theorem w_slices_Equal___celluloid_api_Stop_celluloid_api_Stop__L0 (x1 : List (List PV)) (x2 : List (List PV)) (x3 : Int) (x4 : Int) : rW f_slices_Equal___celluloid_api_Stop_celluloid_api_Stop_ [] at_slices_Equal___celluloid_api_Stop_celluloid_api_Stop__L0 (S_slices_Equal___celluloid_api_Stop_celluloid_api_Stop__L0 x1 x2 x3 x4) =
  (bif (decide (x4 < x3)) then (bif (inB x4 (List.length x1)) then (bif (inB x4 (List.length x2)) then (bif (!(((((elemAt x1 x4).getD 0 PV.u)).toI == (((elemAt x2 x4).getD 0 PV.u)).toI) && (((((elemAt x1 x4).getD 1 PV.u)).toI == (((elemAt x2 x4).getD 1 PV.u)).toI) && (((((elemAt x1 x4).getD 2 PV.u)).toI == (((elemAt x2 x4).getD 2 PV.u)).toI) && (((((elemAt x1 x4).getD 3 PV.u)).toI == (((elemAt x2 x4).getD 3 PV.u)).toI) && ((((elemAt x1 x4).getD 4 PV.u)).toI == (((elemAt x2 x4).getD 4 PV.u)).toI)))))) then some ([(PV.b false)], [])
  else rW f_slices_Equal___celluloid_api_Stop_celluloid_api_Stop_ [] at_slices_Equal___celluloid_api_Stop_celluloid_api_Stop__L0 (S_slices_Equal___celluloid_api_Stop_celluloid_api_Stop__L0 (x1) (x2) (x3) ((IntKind.wrap .i64 (x4 + (1 : Int))))))
  else none)
  else none)
  else some ([(PV.b true)], [])) := by rw [rW_fix]; generalize cW = C; generalize rW = R; kernel_rfl
/- celluloid/style.Right$2 -/
theorem w_style_Right_2 (a1 : Int) (a2 : Int) (a3 : Int) (a4 : Int) (a5 : Int) : cW f_style_Right_2 [.i a1, .i a2, .i a3, .i a4, .i a5] [] =
  (cW f_style_RightStroke [(PV.i a1), (PV.i a2), (PV.i a3), (PV.i a4), (PV.i a5)] []).bind fun r1 =>
  some ([(PV.b (!(((r1).1.getD 0 PV.u)).toB))], []) := by rw [cW_fix]; generalize cW = C; generalize rW = R; kernel_rfl
/- celluloid/celluloidref08.two -/
/- (*celluloid/style.reader).color -/
theorem w___celluloid_style_reader__color (p0_1 : List UInt8) (p0_2 : Int) (p0_3 : Int) : cW f___celluloid_style_reader__color [.u] [(t_style_reader, [.s p0_1, .i p0_2, .i p0_3])] =
  (bif (p0_3 != (0 : Int)) then some ([(PV.i (0 : Int)), (PV.i (0 : Int)), (PV.i (0 : Int)), (PV.i (0 : Int))], [(t_style_reader, [(PV.s p0_1), (PV.i p0_2), (PV.i p0_3)])])
  else (cW f_field_TakeRGBA [(PV.s p0_1), (PV.i p0_2)] []).bind fun r1 =>
  some ([(PV.i (((r1).1.getD 0 PV.u)).toI), (PV.i (((r1).1.getD 1 PV.u)).toI), (PV.i (((r1).1.getD 2 PV.u)).toI), (PV.i (((r1).1.getD 3 PV.u)).toI)], [(t_style_reader, [(PV.s (((r1).1.getD 4 PV.u)).toS), (PV.i (((r1).1.getD 5 PV.u)).toI), (PV.i (((r1).1.getD 6 PV.u)).toI)])])) := by rw [cW_fix]; generalize cW = C; generalize rW = R; kernel_rfl
/- celluloid/celluloidlaw08.StyleTakes -/
/- celluloid/style.RightStroke -/
theorem w_style_RightStroke (a1 : Int) (a2 : Int) (a3 : Int) (a4 : Int) (a5 : Int) : cW f_style_RightStroke [.i a1, .i a2, .i a3, .i a4, .i a5] [] =
  ((bif (decide (a1 ≥ (0 : Int))) then (bif (decide (a1 < (65536 : Int))) then (cW f_field_RightRGBA [(PV.i a2), (PV.i a3), (PV.i a4), (PV.i a5)] []).bind fun r1 =>
   some [(PV.b (((r1).1.getD 0 PV.u)).toB)]
   else some [(PV.b false)])
   else some [(PV.b false)])).bind fun r2 =>
  some ([(PV.b ((r2.getD 0 PV.u)).toB)], []) := by rw [cW_fix]; generalize cW = C; generalize rW = R; kernel_rfl
/- celluloid/celluloidref08.Small -/
/- celluloid/celluloidref08.Put -/
/- celluloid/style.gradient -/
theorem w_style_gradient (a1 : Int) : cW f_style_gradient [.i a1] [] =
  ((bif (a1 == (16 : Int)) then some [(PV.b true)]
   else some [(PV.b (a1 == (18 : Int)))])).bind fun r1 =>
  some ([(PV.b ((r1.getD 0 PV.u)).toB)], []) := by rw [cW_fix]; generalize cW = C; generalize rW = R; kernel_rfl
/- celluloid/style.byteOf -/
theorem w_style_byteOf (a1 : List UInt8) (a2 : Int) (a3 : Int) : cW f_style_byteOf [.s a1, .i a2, .i a3] [] =
  (cW f_bits_PutBytes [(PV.s a1), (PV.i a2), (PV.s (toBytes (List.set [[(PV.i (0 : Int))]] 0 [(PV.i (IntKind.wrap .u8 a3))])))] []).bind fun r1 =>
  some ([(PV.s (((r1).1.getD 0 PV.u)).toS), (PV.i (((r1).1.getD 1 PV.u)).toI)], []) := by rw [cW_fix]; generalize cW = C; generalize rW = R; kernel_rfl
/- slices.ContainsFunc[[]celluloid/api.Fill,celluloid/api.Fill] -/
theorem w_slices_ContainsFunc___celluloid_api_Fill_celluloid_api_Fill_ (a1 : List (List PV)) : cW f_slices_ContainsFunc___celluloid_api_Fill_celluloid_api_Fill_ [.l a1, (.f f_style_Right_1 0)] [] =
  (cW f_slices_IndexFunc___celluloid_api_Fill_celluloid_api_Fill_ [(PV.l a1), (PV.f f_style_Right_1 0)] []).bind fun r1 =>
  some ([(PV.b (decide ((((r1).1.getD 0 PV.u)).toI ≥ (0 : Int))))], []) := by rw [cW_fix]; generalize cW = C; generalize rW = R; kernel_rfl
/- celluloid/celluloidref08.one -/
/- (*celluloid/style.reader).many -/
theorem w___celluloid_style_reader__many (p0_1 : List UInt8) (p0_2 : Int) (p0_3 : Int) : cW f___celluloid_style_reader__many [.u] [(t_style_reader, [.s p0_1, .i p0_2, .i p0_3])] =
  (cW f___celluloid_style_reader__little [PV.u, (PV.i (1 : Int))] [(t_style_reader, [(PV.s p0_1), (PV.i p0_2), (PV.i p0_3)])]).bind fun r1 =>
  (bif (decide ((((r1).1.getD 0 PV.u)).toI > (15 : Int))) then (cW f___celluloid_style_reader__fail [PV.u, (PV.i (7 : Int))] [(t_style_reader, [(PV.s (((((r1).2.getD 0 (0, []))).2.getD 0 PV.u)).toS), (PV.i (((((r1).2.getD 0 (0, []))).2.getD 1 PV.u)).toI), (PV.i (((((r1).2.getD 0 (0, []))).2.getD 2 PV.u)).toI)])]).bind fun r2 =>
  some ([(PV.i (0 : Int))], [(t_style_reader, [(PV.s (((((r2).2.getD 0 (0, []))).2.getD 0 PV.u)).toS), (PV.i (((((r2).2.getD 0 (0, []))).2.getD 1 PV.u)).toI), (PV.i (((((r2).2.getD 0 (0, []))).2.getD 2 PV.u)).toI)])])
  else some ([(PV.i (((r1).1.getD 0 PV.u)).toI)], [(t_style_reader, [(PV.s (((((r1).2.getD 0 (0, []))).2.getD 0 PV.u)).toS), (PV.i (((((r1).2.getD 0 (0, []))).2.getD 1 PV.u)).toI), (PV.i (((((r1).2.getD 0 (0, []))).2.getD 2 PV.u)).toI)])])) := by rw [cW_fix]; generalize cW = C; generalize rW = R; kernel_rfl
/- celluloid/celluloidref08.Little -/
/- slices.IndexFunc[[]celluloid/api.Fill,celluloid/api.Fill] -/
noncomputable def S_slices_IndexFunc___celluloid_api_Fill_celluloid_api_Fill__L0 (x1 : List (List PV)) (x2 : Int) (x3 : Int) : St := mkSt [(0, .v (.sl 28 x1)), (1, .v (.fn 46 [])), (7, .v (.int .i64 x2)), (8, .v (.int .i64 x3))] [] 1000 19
noncomputable def at_slices_IndexFunc___celluloid_api_Fill_celluloid_api_Fill__L0 : List Item := (atLoop Try.f73 0)
theorem w_slices_IndexFunc___celluloid_api_Fill_celluloid_api_Fill_ (a1 : List (List PV)) : cW f_slices_IndexFunc___celluloid_api_Fill_celluloid_api_Fill_ [.l a1, (.f f_style_Right_1 0)] [] =
  rW f_slices_IndexFunc___celluloid_api_Fill_celluloid_api_Fill_ [] at_slices_IndexFunc___celluloid_api_Fill_celluloid_api_Fill__L0 (S_slices_IndexFunc___celluloid_api_Fill_celluloid_api_Fill__L0 (a1) ((((List.length a1) : Nat) : Int)) ((0 : Int))) := by rw [cW_fix]; generalize cW = C; generalize rW = R; kernel_rfl
theorem w_slices_IndexFunc___celluloid_api_Fill_celluloid_api_Fill__L0 (x1 : List (List PV)) (x2 : Int) (x3 : Int) : rW f_slices_IndexFunc___celluloid_api_Fill_celluloid_api_Fill_ [] at_slices_IndexFunc___celluloid_api_Fill_celluloid_api_Fill__L0 (S_slices_IndexFunc___celluloid_api_Fill_celluloid_api_Fill__L0 x1 x2 x3) =
  (bif (decide (x3 < x2)) then (bif (inB x3 (List.length x1)) then (cW f_style_Right_1 [(PV.i (((elemAt x1 x3).getD 0 PV.u)).toI), (PV.i (((elemAt x1 x3).getD 1 PV.u)).toI), (PV.i (((elemAt x1 x3).getD 2 PV.u)).toI), (PV.i (((elemAt x1 x3).getD 3 PV.u)).toI), (PV.i (((elemAt x1 x3).getD 4 PV.u)).toI), (PV.i (((elemAt x1 x3).getD 5 PV.u)).toI), (PV.i (((elemAt x1 x3).getD 6 PV.u)).toI), (PV.i (((elemAt x1 x3).getD 7 PV.u)).toI), (PV.i (((elemAt x1 x3).getD 8 PV.u)).toI), (PV.i (((elemAt x1 x3).getD 9 PV.u)).toI), (PV.i (((elemAt x1 x3).getD 10 PV.u)).toI), (PV.i (((elemAt x1 x3).getD 11 PV.u)).toI), (PV.l (((elemAt x1 x3).getD 12 PV.u)).toL), (PV.i (((elemAt x1 x3).getD 13 PV.u)).toI)] []).bind fun r1 =>
  (bif (((r1).1.getD 0 PV.u)).toB then some ([(PV.i x3)], [])
  else rW f_slices_IndexFunc___celluloid_api_Fill_celluloid_api_Fill_ [] at_slices_IndexFunc___celluloid_api_Fill_celluloid_api_Fill__L0 (S_slices_IndexFunc___celluloid_api_Fill_celluloid_api_Fill__L0 (x1) (x2) ((IntKind.wrap .i64 (x3 + (1 : Int))))))
  else none)
  else some ([(PV.i (-1 : Int))], [])) := by rw [rW_fix]; generalize cW = C; generalize rW = R; kernel_rfl
/- (*celluloid/style.reader).fail -/
theorem w___celluloid_style_reader__fail (a2 : Int) (p0_1 : List UInt8) (p0_2 : Int) (p0_3 : Int) : cW f___celluloid_style_reader__fail [.u, .i a2] [(t_style_reader, [.s p0_1, .i p0_2, .i p0_3])] =
  (bif (p0_3 == (0 : Int)) then some ([], [(t_style_reader, [(PV.s p0_1), (PV.i p0_2), (PV.i a2)])])
  else some ([], [(t_style_reader, [(PV.s p0_1), (PV.i p0_2), (PV.i p0_3)])])) := by rw [cW_fix]; generalize cW = C; generalize rW = R; kernel_rfl
/- celluloid/celluloidref08.Matrix -/
/- slices.Equal[[]celluloid/api.Stroke,celluloid/api.Stroke] -/
noncomputable def S_slices_Equal___celluloid_api_Stroke_celluloid_api_Stroke__L0 (x1 : List (List PV)) (x2 : List (List PV)) (x3 : Int) (x4 : Int) : St := mkSt [(0, .v (.sl 30 x1)), (1, .v (.sl 30 x2)), (12, .v (.int .i64 x3)), (13, .v (.int .i64 x4))] [] 1000 26
noncomputable def at_slices_Equal___celluloid_api_Stroke_celluloid_api_Stroke__L0 : List Item := (atLoop Try.f121 0)
theorem w_slices_Equal___celluloid_api_Stroke_celluloid_api_Stroke_ (a1 : List (List PV)) (a2 : List (List PV)) : cW f_slices_Equal___celluloid_api_Stroke_celluloid_api_Stroke_ [.l a1, .l a2] [] =
  (bif ((((List.length a1) : Nat) : Int) != (((List.length a2) : Nat) : Int)) then some ([(PV.b false)], [])
  else rW f_slices_Equal___celluloid_api_Stroke_celluloid_api_Stroke_ [] at_slices_Equal___celluloid_api_Stroke_celluloid_api_Stroke__L0 (S_slices_Equal___celluloid_api_Stroke_celluloid_api_Stroke__L0 (a1) (a2) ((((List.length a1) : Nat) : Int)) ((0 : Int)))) := by rw [cW_fix]; generalize cW = C; generalize rW = R; kernel_rfl
theorem w_slices_Equal___celluloid_api_Stroke_celluloid_api_Stroke__L0 (x1 : List (List PV)) (x2 : List (List PV)) (x3 : Int) (x4 : Int) : rW f_slices_Equal___celluloid_api_Stroke_celluloid_api_Stroke_ [] at_slices_Equal___celluloid_api_Stroke_celluloid_api_Stroke__L0 (S_slices_Equal___celluloid_api_Stroke_celluloid_api_Stroke__L0 x1 x2 x3 x4) =
  (bif (decide (x4 < x3)) then (bif (inB x4 (List.length x1)) then (bif (inB x4 (List.length x2)) then (bif (!(((((elemAt x1 x4).getD 0 PV.u)).toI == (((elemAt x2 x4).getD 0 PV.u)).toI) && (((((elemAt x1 x4).getD 1 PV.u)).toI == (((elemAt x2 x4).getD 1 PV.u)).toI) && (((((elemAt x1 x4).getD 2 PV.u)).toI == (((elemAt x2 x4).getD 2 PV.u)).toI) && (((((elemAt x1 x4).getD 3 PV.u)).toI == (((elemAt x2 x4).getD 3 PV.u)).toI) && ((((elemAt x1 x4).getD 4 PV.u)).toI == (((elemAt x2 x4).getD 4 PV.u)).toI)))))) then some ([(PV.b false)], [])
  else rW f_slices_Equal___celluloid_api_Stroke_celluloid_api_Stroke_ [] at_slices_Equal___celluloid_api_Stroke_celluloid_api_Stroke__L0 (S_slices_Equal___celluloid_api_Stroke_celluloid_api_Stroke__L0 (x1) (x2) (x3) ((IntKind.wrap .i64 (x4 + (1 : Int))))))
  else none)
  else none)
  else some ([(PV.b true)], [])) := by rw [rW_fix]; generalize cW = C; generalize rW = R; kernel_rfl
/- celluloid/celluloidlaw08.StyleAgain -/
/- celluloid/celluloidlaw08.awake -/
/- celluloid/celluloidref08.Stroke -/
/- celluloid/style.Put -/
noncomputable def S_style_Put_L0 (x1 : List (List PV)) (x2 : List (List PV)) (x3 : Int) (x4 : Int) (x5 : List UInt8) (x6 : Int) (x7 : List UInt8) (x8 : Int) : St := mkSt [(2, .v (.sl 30 x1)), (3, .v (.ptr (.n 1 0 0) 0)), (6, .v (.ptr (.n 1 1 0) 0)), (21, .v (.sl 28 x2)), (22, .v (.int .i64 x3)), (23, .v (.int .i64 x4))] [((.n 1 0 0), .cells 40 [.str x5, .int .i64 x6]), ((.n 1 1 0), .cells 40 [.str x7, .int .i64 x8])] 1000 57
noncomputable def at_style_Put_L0 : List Item := (atLoop Try.f18 0)
noncomputable def S_style_Put_L2 (x1 : List (List PV)) (x2 : Int) (x3 : Int) (x4 : List UInt8) (x5 : Int) (x6 : List UInt8) (x7 : Int) : St := mkSt [(3, .v (.ptr (.n 1 0 0) 0)), (6, .v (.ptr (.n 1 1 0) 0)), (35, .v (.sl 30 x1)), (36, .v (.int .i64 x2)), (37, .v (.int .i64 x3))] [((.n 1 0 0), .cells 40 [.str x4, .int .i64 x5]), ((.n 1 1 0), .cells 40 [.str x6, .int .i64 x7])] 2000 57
noncomputable def at_style_Put_L2 : List Item := (atLoop Try.f18 2)
theorem w_style_Put (a1 : List UInt8) (a2 : Int) (a3 : List (List PV)) (a4 : List (List PV)) : cW f_style_Put [.s a1, .i a2, .l a3, .l a4] [] =
  (cW f_style_Right [(PV.l a3), (PV.l a4)] []).bind fun r1 =>
  (bif (!(((r1).1.getD 0 PV.u)).toB) then some ([(PV.s []), (PV.i (0 : Int)), (PV.i (1 : Int))], [])
  else (cW f_style_byteOf [(PV.s a1), (PV.i a2), (PV.i (((List.length a3) : Nat) : Int))] []).bind fun r2 =>
  rW f_style_Put [] at_style_Put_L0 (S_style_Put_L0 (a4) (a3) ((((List.length a3) : Nat) : Int)) ((0 : Int)) ((((r2).1.getD 0 PV.u)).toS) ((((r2).1.getD 1 PV.u)).toI) ([]) ((0 : Int)))) := by rw [cW_fix]; generalize cW = C; generalize rW = R; kernel_rfl
theorem w_style_Put_L0 (x1 : List (List PV)) (x2 : List (List PV)) (x3 : Int) (x4 : Int) (x5 : List UInt8) (x6 : Int) (x7 : List UInt8) (x8 : Int) : rW f_style_Put [] at_style_Put_L0 (S_style_Put_L0 x1 x2 x3 x4 x5 x6 x7 x8) =
  (bif (decide (x4 < x3)) then (bif (inB x4 (List.length x2)) then (cW f_style_put [(PV.s x5), (PV.i x6), (PV.i (((elemAt x2 x4).getD 0 PV.u)).toI), (PV.i (((elemAt x2 x4).getD 1 PV.u)).toI), (PV.i (((elemAt x2 x4).getD 2 PV.u)).toI), (PV.i (((elemAt x2 x4).getD 3 PV.u)).toI), (PV.i (((elemAt x2 x4).getD 4 PV.u)).toI), (PV.i (((elemAt x2 x4).getD 5 PV.u)).toI), (PV.i (((elemAt x2 x4).getD 6 PV.u)).toI), (PV.i (((elemAt x2 x4).getD 7 PV.u)).toI), (PV.i (((elemAt x2 x4).getD 8 PV.u)).toI), (PV.i (((elemAt x2 x4).getD 9 PV.u)).toI), (PV.i (((elemAt x2 x4).getD 10 PV.u)).toI), (PV.i (((elemAt x2 x4).getD 11 PV.u)).toI), (PV.l (((elemAt x2 x4).getD 12 PV.u)).toL), (PV.i (((elemAt x2 x4).getD 13 PV.u)).toI)] []).bind fun r3 =>
  rW f_style_Put [] at_style_Put_L0 (S_style_Put_L0 (x1) (x2) (x3) ((IntKind.wrap .i64 (x4 + (1 : Int)))) ((((r3).1.getD 0 PV.u)).toS) ((((r3).1.getD 1 PV.u)).toI) (x7) (x8))
  else none)
  else (cW f_style_byteOf [(PV.s x5), (PV.i x6), (PV.i (((List.length x1) : Nat) : Int))] []).bind fun r4 =>
  rW f_style_Put [] at_style_Put_L2 (S_style_Put_L2 (x1) ((((List.length x1) : Nat) : Int)) ((0 : Int)) ((((r4).1.getD 0 PV.u)).toS) ((((r4).1.getD 1 PV.u)).toI) (x7) (x8))) := by rw [rW_fix]; generalize cW = C; generalize rW = R; kernel_rfl
theorem w_style_Put_L2 (x1 : List (List PV)) (x2 : Int) (x3 : Int) (x4 : List UInt8) (x5 : Int) (x6 : List UInt8) (x7 : Int) : rW f_style_Put [] at_style_Put_L2 (S_style_Put_L2 x1 x2 x3 x4 x5 x6 x7) =
  (bif (decide (x3 < x2)) then (bif (inB x3 (List.length x1)) then (cW f_bits_PutLittle [(PV.s x4), (PV.i x5), (PV.i (((elemAt x1 x3).getD 0 PV.u)).toI), (PV.i (2 : Int))] []).bind fun r5 =>
  (cW f_field_PutRGBA [(PV.s (((r5).1.getD 0 PV.u)).toS), (PV.i (((r5).1.getD 1 PV.u)).toI), (PV.i (((elemAt x1 x3).getD 1 PV.u)).toI), (PV.i (((elemAt x1 x3).getD 2 PV.u)).toI), (PV.i (((elemAt x1 x3).getD 3 PV.u)).toI), (PV.i (((elemAt x1 x3).getD 4 PV.u)).toI)] []).bind fun r6 =>
  rW f_style_Put [] at_style_Put_L2 (S_style_Put_L2 (x1) (x2) ((IntKind.wrap .i64 (x3 + (1 : Int)))) ((((r6).1.getD 0 PV.u)).toS) ((((r6).1.getD 1 PV.u)).toI) (x6) (x7))
  else none)
  else some ([(PV.s x4), (PV.i x5), (PV.i (0 : Int))], [])) := by rw [rW_fix]; generalize cW = C; generalize rW = R; kernel_rfl
/- celluloid/style.Take -/
noncomputable def S_style_Take_L0 (x1 : Int) (x2 : Int) (x3 : List (List PV)) (x4 : List (List PV)) (x5 : List UInt8) (x6 : Int) (x7 : List UInt8) (x8 : Int) (x9 : Int) : St := mkSt [(4, .v (.ptr (.n 1 3 0) 0)), (6, .v (.ptr (.n 2 2 0) 0)), (7, .v (.wr (.w 7))), (8, .v (.wr (.w 8))), (14, .v (.int .i64 x1)), (15, .v (.int .i64 x2))] [((.w 7), .row 28 x3), ((.w 8), .row 30 x4), ((.n 1 3 0), .cells 46 [.str x5, .int .i64 x6]), ((.n 2 2 0), .cells 95 [.str x7, .int .i64 x8, .int .i64 x9])] 1000 54
noncomputable def at_style_Take_L0 : List Item := (atLoop Try.f22 0)
noncomputable def S_style_Take_L2 (x1 : Int) (x2 : Int) (x3 : List (List PV)) (x4 : List (List PV)) (x5 : List UInt8) (x6 : Int) (x7 : List UInt8) (x8 : Int) (x9 : Int) : St := mkSt [(4, .v (.ptr (.n 1 3 0) 0)), (6, .v (.ptr (.n 2 2 0) 0)), (7, .v (.wr (.w 7))), (8, .v (.wr (.w 8))), (24, .v (.int .i64 x1)), (25, .v (.int .i64 x2))] [((.w 7), .row 28 x3), ((.w 8), .row 30 x4), ((.n 1 3 0), .cells 46 [.str x5, .int .i64 x6]), ((.n 2 2 0), .cells 95 [.str x7, .int .i64 x8, .int .i64 x9])] 2000 54
noncomputable def at_style_Take_L2 : List Item := (atLoop Try.f22 2)
theorem w_style_Take (a1 : List UInt8) (a2 : Int) : cW f_style_Take [.s a1, .i a2] [] =
  (cW f___celluloid_style_reader__many [PV.u] [(t_style_reader, [(PV.s a1), (PV.i a2), (PV.i (0 : Int))])]).bind fun r1 =>
  rW f_style_Take [] at_style_Take_L0 (S_style_Take_L0 ((((r1).1.getD 0 PV.u)).toI) ((0 : Int)) ([]) ([]) ([]) ((0 : Int)) ((((((r1).2.getD 0 (0, []))).2.getD 0 PV.u)).toS) ((((((r1).2.getD 0 (0, []))).2.getD 1 PV.u)).toI) ((((((r1).2.getD 0 (0, []))).2.getD 2 PV.u)).toI)) := by rw [cW_fix]; generalize cW = C; generalize rW = R; kernel_rfl
theorem w_style_Take_L0 (x1 : Int) (x2 : Int) (x3 : List (List PV)) (x4 : List (List PV)) (x5 : List UInt8) (x6 : Int) (x7 : List UInt8) (x8 : Int) (x9 : Int) : rW f_style_Take [] at_style_Take_L0 (S_style_Take_L0 x1 x2 x3 x4 x5 x6 x7 x8 x9) =
  (bif (decide (x2 < x1)) then (cW f___celluloid_style_reader__fill [PV.u] [(t_style_reader, [(PV.s x7), (PV.i x8), (PV.i x9)])]).bind fun r2 =>
  (bif (decide (((((List.length x3) + (List.length (List.set [[(PV.i (0 : Int)), (PV.i (0 : Int)), (PV.i (0 : Int)), (PV.i (0 : Int)), (PV.i (0 : Int)), (PV.i (0 : Int)), (PV.i (0 : Int)), (PV.i (0 : Int)), (PV.i (0 : Int)), (PV.i (0 : Int)), (PV.i (0 : Int)), (PV.i (0 : Int)), (PV.l []), (PV.i (0 : Int))]] 0 [(PV.i (((r2).1.getD 0 PV.u)).toI), (PV.i (((r2).1.getD 1 PV.u)).toI), (PV.i (((r2).1.getD 2 PV.u)).toI), (PV.i (((r2).1.getD 3 PV.u)).toI), (PV.i (((r2).1.getD 4 PV.u)).toI), (PV.i (((r2).1.getD 5 PV.u)).toI), (PV.i (((r2).1.getD 6 PV.u)).toI), (PV.i (((r2).1.getD 7 PV.u)).toI), (PV.i (((r2).1.getD 8 PV.u)).toI), (PV.i (((r2).1.getD 9 PV.u)).toI), (PV.i (((r2).1.getD 10 PV.u)).toI), (PV.i (((r2).1.getD 11 PV.u)).toI), (PV.l (((r2).1.getD 12 PV.u)).toL), (PV.i (((r2).1.getD 13 PV.u)).toI)]))) + 1000) * 129) ≤ 1099511627776)) then rW f_style_Take [] at_style_Take_L0 (S_style_Take_L0 (x1) ((IntKind.wrap .i64 (x2 + (1 : Int)))) ((x3 ++ (List.set [[(PV.i (0 : Int)), (PV.i (0 : Int)), (PV.i (0 : Int)), (PV.i (0 : Int)), (PV.i (0 : Int)), (PV.i (0 : Int)), (PV.i (0 : Int)), (PV.i (0 : Int)), (PV.i (0 : Int)), (PV.i (0 : Int)), (PV.i (0 : Int)), (PV.i (0 : Int)), (PV.l []), (PV.i (0 : Int))]] 0 [(PV.i (((r2).1.getD 0 PV.u)).toI), (PV.i (((r2).1.getD 1 PV.u)).toI), (PV.i (((r2).1.getD 2 PV.u)).toI), (PV.i (((r2).1.getD 3 PV.u)).toI), (PV.i (((r2).1.getD 4 PV.u)).toI), (PV.i (((r2).1.getD 5 PV.u)).toI), (PV.i (((r2).1.getD 6 PV.u)).toI), (PV.i (((r2).1.getD 7 PV.u)).toI), (PV.i (((r2).1.getD 8 PV.u)).toI), (PV.i (((r2).1.getD 9 PV.u)).toI), (PV.i (((r2).1.getD 10 PV.u)).toI), (PV.i (((r2).1.getD 11 PV.u)).toI), (PV.l (((r2).1.getD 12 PV.u)).toL), (PV.i (((r2).1.getD 13 PV.u)).toI)]))) (x4) (x5) (x6) ((((((r2).2.getD 0 (0, []))).2.getD 0 PV.u)).toS) ((((((r2).2.getD 0 (0, []))).2.getD 1 PV.u)).toI) ((((((r2).2.getD 0 (0, []))).2.getD 2 PV.u)).toI))
  else none)
  else (cW f___celluloid_style_reader__many [PV.u] [(t_style_reader, [(PV.s x7), (PV.i x8), (PV.i x9)])]).bind fun r3 =>
  rW f_style_Take [] at_style_Take_L2 (S_style_Take_L2 ((((r3).1.getD 0 PV.u)).toI) ((0 : Int)) (x3) (x4) (x5) (x6) ((((((r3).2.getD 0 (0, []))).2.getD 0 PV.u)).toS) ((((((r3).2.getD 0 (0, []))).2.getD 1 PV.u)).toI) ((((((r3).2.getD 0 (0, []))).2.getD 2 PV.u)).toI))) := by rw [rW_fix]; generalize cW = C; generalize rW = R; kernel_rfl
theorem w_style_Take_L2 (x1 : Int) (x2 : Int) (x3 : List (List PV)) (x4 : List (List PV)) (x5 : List UInt8) (x6 : Int) (x7 : List UInt8) (x8 : Int) (x9 : Int) : rW f_style_Take [] at_style_Take_L2 (S_style_Take_L2 x1 x2 x3 x4 x5 x6 x7 x8 x9) =
  (bif (decide (x2 < x1)) then (cW f___celluloid_style_reader__little [PV.u, (PV.i (2 : Int))] [(t_style_reader, [(PV.s x7), (PV.i x8), (PV.i x9)])]).bind fun r4 =>
  (cW f___celluloid_style_reader__color [PV.u] [(t_style_reader, [(PV.s (((((r4).2.getD 0 (0, []))).2.getD 0 PV.u)).toS), (PV.i (((((r4).2.getD 0 (0, []))).2.getD 1 PV.u)).toI), (PV.i (((((r4).2.getD 0 (0, []))).2.getD 2 PV.u)).toI)])]).bind fun r5 =>
  (bif (decide (((((List.length x4) + (List.length (List.set [[(PV.i (0 : Int)), (PV.i (0 : Int)), (PV.i (0 : Int)), (PV.i (0 : Int)), (PV.i (0 : Int))]] 0 [(PV.i (((r4).1.getD 0 PV.u)).toI), (PV.i (((r5).1.getD 0 PV.u)).toI), (PV.i (((r5).1.getD 1 PV.u)).toI), (PV.i (((r5).1.getD 2 PV.u)).toI), (PV.i (((r5).1.getD 3 PV.u)).toI)]))) + 1000) * 41) ≤ 1099511627776)) then rW f_style_Take [] at_style_Take_L2 (S_style_Take_L2 (x1) ((IntKind.wrap .i64 (x2 + (1 : Int)))) (x3) ((x4 ++ (List.set [[(PV.i (0 : Int)), (PV.i (0 : Int)), (PV.i (0 : Int)), (PV.i (0 : Int)), (PV.i (0 : Int))]] 0 [(PV.i (((r4).1.getD 0 PV.u)).toI), (PV.i (((r5).1.getD 0 PV.u)).toI), (PV.i (((r5).1.getD 1 PV.u)).toI), (PV.i (((r5).1.getD 2 PV.u)).toI), (PV.i (((r5).1.getD 3 PV.u)).toI)]))) (x5) (x6) ((((((r5).2.getD 0 (0, []))).2.getD 0 PV.u)).toS) ((((((r5).2.getD 0 (0, []))).2.getD 1 PV.u)).toI) ((((((r5).2.getD 0 (0, []))).2.getD 2 PV.u)).toI))
  else none)
  else (bif (x9 != (0 : Int)) then some ([(PV.l []), (PV.l []), (PV.s []), (PV.i (0 : Int)), (PV.i x9)], [])
  else some ([(PV.l x3), (PV.l x4), (PV.s x7), (PV.i x8), (PV.i (0 : Int))], []))) := by rw [rW_fix]; generalize cW = C; generalize rW = R; kernel_rfl
/- celluloid/style.stop -/
theorem w_style_stop (a1 : Int) (a2 : Int) (a3 : Int) (a4 : Int) (a5 : Int) (a6 : Int) : cW f_style_stop [.i a1, .i a2, .i a3, .i a4, .i a5, .i a6] [] =
  ((bif (decide (a1 ≥ a6)) then (bif (decide (a1 ≤ (255 : Int))) then (cW f_field_RightRGBA [(PV.i a2), (PV.i a3), (PV.i a4), (PV.i a5)] []).bind fun r1 =>
   some [(PV.b (((r1).1.getD 0 PV.u)).toB)]
   else some [(PV.b false)])
   else some [(PV.b false)])).bind fun r2 =>
  some ([(PV.b ((r2.getD 0 PV.u)).toB)], []) := by rw [cW_fix]; generalize cW = C; generalize rW = R; kernel_rfl
/- celluloid/style.put -/
noncomputable def S_style_put_L1 (x1 : List (List PV)) (x2 : Int) (x3 : Int) (x4 : List UInt8) (x5 : Int) (x6 : List UInt8) (x7 : Int) : St := mkSt [(2, .v (.ptr (.n 1 0 0) 0)), (4, .v (.ptr (.n 1 2 0) 0)), (28, .v (.sl 81 x1)), (29, .v (.int .i64 x2)), (30, .v (.int .i64 x3))] [((.n 1 0 0), .cells 40 [.str x4, .int .i64 x5]), ((.n 1 2 0), .cells 40 [.str x6, .int .i64 x7])] 1000 75
noncomputable def at_style_put_L1 : List Item := (atLoop Try.f42 1)
theorem w_style_put (a1 : List UInt8) (a2 : Int) (a3 : Int) (a4 : Int) (a5 : Int) (a6 : Int) (a7 : Int) (a8 : Int) (a9 : Int) (a10 : Int) (a11 : Int) (a12 : Int) (a13 : Int) (a14 : Int) (a15 : List (List PV)) (a16 : Int) : cW f_style_put [.s a1, .i a2, .i a3, .i a4, .i a5, .i a6, .i a7, .i a8, .i a9, .i a10, .i a11, .i a12, .i a13, .i a14, .l a15, .i a16] [] =
  (cW f_style_byteOf [(PV.s a1), (PV.i a2), (PV.i a3)] []).bind fun r1 =>
  (bif (a3 == (0 : Int)) then (cW f_field_PutRGBA [(PV.s (((r1).1.getD 0 PV.u)).toS), (PV.i (((r1).1.getD 1 PV.u)).toI), (PV.i a4), (PV.i a5), (PV.i a6), (PV.i a7)] []).bind fun r2 =>
  some ([(PV.s (((r2).1.getD 0 PV.u)).toS), (PV.i (((r2).1.getD 1 PV.u)).toI)], [])
  else (cW f_style_picture [(PV.i a3)] []).bind fun r3 =>
  (bif (((r3).1.getD 0 PV.u)).toB then (cW f_bits_PutLittle [(PV.s (((r1).1.getD 0 PV.u)).toS), (PV.i (((r1).1.getD 1 PV.u)).toI), (PV.i a16), (PV.i (2 : Int))] []).bind fun r4 =>
  (cW f_field_PutMatrix [(PV.s (((r4).1.getD 0 PV.u)).toS), (PV.i (((r4).1.getD 1 PV.u)).toI), (PV.i a8), (PV.i a9), (PV.i a10), (PV.i a11), (PV.i a12), (PV.i a13)] []).bind fun r5 =>
  some ([(PV.s (((r5).1.getD 0 PV.u)).toS), (PV.i (((r5).1.getD 1 PV.u)).toI)], [])
  else (cW f_field_PutMatrix [(PV.s (((r1).1.getD 0 PV.u)).toS), (PV.i (((r1).1.getD 1 PV.u)).toI), (PV.i a8), (PV.i a9), (PV.i a10), (PV.i a11), (PV.i a12), (PV.i a13)] []).bind fun r6 =>
  (cW f_style_byteOf [(PV.s (((r6).1.getD 0 PV.u)).toS), (PV.i (((r6).1.getD 1 PV.u)).toI), (PV.i (IntKind.wrap .i64 ((IntKind.wrap .i64 (a14 * (64 : Int))) + (((List.length a15) : Nat) : Int))))] []).bind fun r7 =>
  rW f_style_put [] at_style_put_L1 (S_style_put_L1 (a15) ((((List.length a15) : Nat) : Int)) ((0 : Int)) ((((r7).1.getD 0 PV.u)).toS) ((((r7).1.getD 1 PV.u)).toI) ([]) ((0 : Int))))) := by rw [cW_fix]; generalize cW = C; generalize rW = R; kernel_rfl
theorem w_style_put_L1 (x1 : List (List PV)) (x2 : Int) (x3 : Int) (x4 : List UInt8) (x5 : Int) (x6 : List UInt8) (x7 : Int) : rW f_style_put [] at_style_put_L1 (S_style_put_L1 x1 x2 x3 x4 x5 x6 x7) =
  (bif (decide (x3 < x2)) then (bif (inB x3 (List.length x1)) then (cW f_style_byteOf [(PV.s x4), (PV.i x5), (PV.i (((elemAt x1 x3).getD 0 PV.u)).toI)] []).bind fun r8 =>
  (cW f_field_PutRGBA [(PV.s (((r8).1.getD 0 PV.u)).toS), (PV.i (((r8).1.getD 1 PV.u)).toI), (PV.i (((elemAt x1 x3).getD 1 PV.u)).toI), (PV.i (((elemAt x1 x3).getD 2 PV.u)).toI), (PV.i (((elemAt x1 x3).getD 3 PV.u)).toI), (PV.i (((elemAt x1 x3).getD 4 PV.u)).toI)] []).bind fun r9 =>
  rW f_style_put [] at_style_put_L1 (S_style_put_L1 (x1) (x2) ((IntKind.wrap .i64 (x3 + (1 : Int)))) ((((r9).1.getD 0 PV.u)).toS) ((((r9).1.getD 1 PV.u)).toI) (x6) (x7))
  else none)
  else some ([(PV.s x4), (PV.i x5)], [])) := by rw [rW_fix]; generalize cW = C; generalize rW = R; kernel_rfl
/- celluloid/style.Right$1 -/
theorem w_style_Right_1 (a1 : Int) (a2 : Int) (a3 : Int) (a4 : Int) (a5 : Int) (a6 : Int) (a7 : Int) (a8 : Int) (a9 : Int) (a10 : Int) (a11 : Int) (a12 : Int) (a13 : List (List PV)) (a14 : Int) : cW f_style_Right_1 [.i a1, .i a2, .i a3, .i a4, .i a5, .i a6, .i a7, .i a8, .i a9, .i a10, .i a11, .i a12, .l a13, .i a14] [] =
  (cW f_style_RightFill [(PV.i a1), (PV.i a2), (PV.i a3), (PV.i a4), (PV.i a5), (PV.i a6), (PV.i a7), (PV.i a8), (PV.i a9), (PV.i a10), (PV.i a11), (PV.i a12), (PV.l a13), (PV.i a14)] []).bind fun r1 =>
  some ([(PV.b (!(((r1).1.getD 0 PV.u)).toB))], []) := by rw [cW_fix]; generalize cW = C; generalize rW = R; kernel_rfl
/- (*celluloid/style.reader).fill -/
noncomputable def S___celluloid_style_reader__fill_L1 (x1 : Int) (x2 : Int) (x3 : Int) (x4 : List UInt8) (x5 : Int) (x6 : Int) (x7 : List (List PV)) (x8 : Int) (x9 : Int) (x10 : Int) (x11 : Int) (x12 : Int) (x13 : Int) (x14 : Int) (x15 : Int) (x16 : Int) (x17 : Int) (x18 : Int) (x19 : Int) (x20 : Int) (x21 : List (List PV)) (x22 : Int) (x23 : Int) (x24 : Int) (x25 : Int) (x26 : Int) (x27 : Int) (x28 : Int) (x29 : Int) (x30 : Int) (x31 : Int) (x32 : Int) (x33 : Int) (x34 : Int) : St := mkSt [(0, .v (.ptr (.p 0) 0)), (2, .v (.ptr (.n 1 0 0) 0)), (3, .v (.ptr (.n 2 3 0) 0)), (5, .v (.int .i64 x1)), (69, .v (.int .i64 x2)), (70, .v (.int .i64 x3)), (81, .any), (82, .any), (83, .any), (84, .any)] [((.p 0), .cells 95 [.str x4, .int .i64 x5, .int .i64 x6]), ((.c (.n 1 0 0) 12), .row 81 x7), ((.n 1 0 0), .cells 28 [.int .i64 x8, .int .i64 x9, .int .i64 x10, .int .i64 x11, .int .i64 x12, .int .i64 x13, .int .i64 x14, .int .i64 x15, .int .i64 x16, .int .i64 x17, .int .i64 x18, .int .i64 x19, .wr (.c (.n 1 0 0) 12), .int .i64 x20]), ((.c (.n 2 3 0) 12), .row 81 x21), ((.n 2 3 0), .cells 28 [.int .i64 x22, .int .i64 x23, .int .i64 x24, .int .i64 x25, .int .i64 x26, .int .i64 x27, .int .i64 x28, .int .i64 x29, .int .i64 x30, .int .i64 x31, .int .i64 x32, .int .i64 x33, .wr (.c (.n 2 3 0) 12), .int .i64 x34])] 1000 101
noncomputable def at___celluloid_style_reader__fill_L1 : List Item := (atLoop Try.f54 1)
theorem w___celluloid_style_reader__fill (p0_1 : List UInt8) (p0_2 : Int) (p0_3 : Int) : cW f___celluloid_style_reader__fill [.u] [(t_style_reader, [.s p0_1, .i p0_2, .i p0_3])] =
  (cW f___celluloid_style_reader__little [PV.u, (PV.i (1 : Int))] [(t_style_reader, [(PV.s p0_1), (PV.i p0_2), (PV.i p0_3)])]).bind fun r1 =>
  (bif ((((r1).1.getD 0 PV.u)).toI == (0 : Int)) then (cW f___celluloid_style_reader__color [PV.u] [(t_style_reader, [(PV.s (((((r1).2.getD 0 (0, []))).2.getD 0 PV.u)).toS), (PV.i (((((r1).2.getD 0 (0, []))).2.getD 1 PV.u)).toI), (PV.i (((((r1).2.getD 0 (0, []))).2.getD 2 PV.u)).toI)])]).bind fun r2 =>
  some ([(PV.i (((r1).1.getD 0 PV.u)).toI), (PV.i (((r2).1.getD 0 PV.u)).toI), (PV.i (((r2).1.getD 1 PV.u)).toI), (PV.i (((r2).1.getD 2 PV.u)).toI), (PV.i (((r2).1.getD 3 PV.u)).toI), (PV.i (0 : Int)), (PV.i (0 : Int)), (PV.i (0 : Int)), (PV.i (0 : Int)), (PV.i (0 : Int)), (PV.i (0 : Int)), (PV.i (0 : Int)), (PV.l []), (PV.i (0 : Int))], [(t_style_reader, [(PV.s (((((r2).2.getD 0 (0, []))).2.getD 0 PV.u)).toS), (PV.i (((((r2).2.getD 0 (0, []))).2.getD 1 PV.u)).toI), (PV.i (((((r2).2.getD 0 (0, []))).2.getD 2 PV.u)).toI)])])
  else (cW f_style_picture [(PV.i (((r1).1.getD 0 PV.u)).toI)] []).bind fun r3 =>
  (bif (((r3).1.getD 0 PV.u)).toB then (cW f___celluloid_style_reader__little [PV.u, (PV.i (2 : Int))] [(t_style_reader, [(PV.s (((((r1).2.getD 0 (0, []))).2.getD 0 PV.u)).toS), (PV.i (((((r1).2.getD 0 (0, []))).2.getD 1 PV.u)).toI), (PV.i (((((r1).2.getD 0 (0, []))).2.getD 2 PV.u)).toI)])]).bind fun r4 =>
  (cW f___celluloid_style_reader__matrix [PV.u] [(t_style_reader, [(PV.s (((((r4).2.getD 0 (0, []))).2.getD 0 PV.u)).toS), (PV.i (((((r4).2.getD 0 (0, []))).2.getD 1 PV.u)).toI), (PV.i (((((r4).2.getD 0 (0, []))).2.getD 2 PV.u)).toI)])]).bind fun r5 =>
  some ([(PV.i (((r1).1.getD 0 PV.u)).toI), (PV.i (0 : Int)), (PV.i (0 : Int)), (PV.i (0 : Int)), (PV.i (0 : Int)), (PV.i (((r5).1.getD 0 PV.u)).toI), (PV.i (((r5).1.getD 1 PV.u)).toI), (PV.i (((r5).1.getD 2 PV.u)).toI), (PV.i (((r5).1.getD 3 PV.u)).toI), (PV.i (((r5).1.getD 4 PV.u)).toI), (PV.i (((r5).1.getD 5 PV.u)).toI), (PV.i (0 : Int)), (PV.l []), (PV.i (((r4).1.getD 0 PV.u)).toI)], [(t_style_reader, [(PV.s (((((r5).2.getD 0 (0, []))).2.getD 0 PV.u)).toS), (PV.i (((((r5).2.getD 0 (0, []))).2.getD 1 PV.u)).toI), (PV.i (((((r5).2.getD 0 (0, []))).2.getD 2 PV.u)).toI)])])
  else (cW f_style_gradient [(PV.i (((r1).1.getD 0 PV.u)).toI)] []).bind fun r6 =>
  (bif (((r6).1.getD 0 PV.u)).toB then (cW f___celluloid_style_reader__matrix [PV.u] [(t_style_reader, [(PV.s (((((r1).2.getD 0 (0, []))).2.getD 0 PV.u)).toS), (PV.i (((((r1).2.getD 0 (0, []))).2.getD 1 PV.u)).toI), (PV.i (((((r1).2.getD 0 (0, []))).2.getD 2 PV.u)).toI)])]).bind fun r7 =>
  (cW f___celluloid_style_reader__little [PV.u, (PV.i (1 : Int))] [(t_style_reader, [(PV.s (((((r7).2.getD 0 (0, []))).2.getD 0 PV.u)).toS), (PV.i (((((r7).2.getD 0 (0, []))).2.getD 1 PV.u)).toI), (PV.i (((((r7).2.getD 0 (0, []))).2.getD 2 PV.u)).toI)])]).bind fun r8 =>
  ((bif ((((((r8).2.getD 0 (0, []))).2.getD 2 PV.u)).toI == (0 : Int)) then (bif (decide ((IntKind.wrap .i64 (Int.tdiv (((r8).1.getD 0 PV.u)).toI (64 : Int))) > (2 : Int))) then some [(PV.b true)]
   else (bif ((bitsOp Go.BinOp.and .i64 (((r8).1.getD 0 PV.u)).toI (48 : Int)) != (0 : Int)) then some [(PV.b true)]
   else (bif ((bitsOp Go.BinOp.and .i64 (((r8).1.getD 0 PV.u)).toI (15 : Int)) == (0 : Int)) then some [(PV.b true)]
   else some [(PV.b (decide ((bitsOp Go.BinOp.and .i64 (((r8).1.getD 0 PV.u)).toI (15 : Int)) > (8 : Int))))])))
   else some [(PV.b false)])).bind fun r9 =>
  (bif ((r9.getD 0 PV.u)).toB then (cW f___celluloid_style_reader__fail [PV.u, (PV.i (3 : Int))] [(t_style_reader, [(PV.s (((((r8).2.getD 0 (0, []))).2.getD 0 PV.u)).toS), (PV.i (((((r8).2.getD 0 (0, []))).2.getD 1 PV.u)).toI), (PV.i (((((r8).2.getD 0 (0, []))).2.getD 2 PV.u)).toI)])]).bind fun r10 =>
  rW f___celluloid_style_reader__fill [t_style_reader] at___celluloid_style_reader__fill_L1 (S___celluloid_style_reader__fill_L1 ((0 : Int)) ((bitsOp Go.BinOp.and .i64 (((r8).1.getD 0 PV.u)).toI (15 : Int))) ((0 : Int)) ((((((r10).2.getD 0 (0, []))).2.getD 0 PV.u)).toS) ((((((r10).2.getD 0 (0, []))).2.getD 1 PV.u)).toI) ((((((r10).2.getD 0 (0, []))).2.getD 2 PV.u)).toI) ([]) ((0 : Int)) ((0 : Int)) ((0 : Int)) ((0 : Int)) ((0 : Int)) ((0 : Int)) ((0 : Int)) ((0 : Int)) ((0 : Int)) ((0 : Int)) ((0 : Int)) ((0 : Int)) ((0 : Int)) ([]) ((((r1).1.getD 0 PV.u)).toI) ((0 : Int)) ((0 : Int)) ((0 : Int)) ((0 : Int)) ((((r7).1.getD 0 PV.u)).toI) ((((r7).1.getD 1 PV.u)).toI) ((((r7).1.getD 2 PV.u)).toI) ((((r7).1.getD 3 PV.u)).toI) ((((r7).1.getD 4 PV.u)).toI) ((((r7).1.getD 5 PV.u)).toI) ((IntKind.wrap .i64 (Int.tdiv (((r8).1.getD 0 PV.u)).toI (64 : Int)))) ((0 : Int)))
  else rW f___celluloid_style_reader__fill [t_style_reader] at___celluloid_style_reader__fill_L1 (S___celluloid_style_reader__fill_L1 ((0 : Int)) ((bitsOp Go.BinOp.and .i64 (((r8).1.getD 0 PV.u)).toI (15 : Int))) ((0 : Int)) ((((((r8).2.getD 0 (0, []))).2.getD 0 PV.u)).toS) ((((((r8).2.getD 0 (0, []))).2.getD 1 PV.u)).toI) ((((((r8).2.getD 0 (0, []))).2.getD 2 PV.u)).toI) ([]) ((0 : Int)) ((0 : Int)) ((0 : Int)) ((0 : Int)) ((0 : Int)) ((0 : Int)) ((0 : Int)) ((0 : Int)) ((0 : Int)) ((0 : Int)) ((0 : Int)) ((0 : Int)) ((0 : Int)) ([]) ((((r1).1.getD 0 PV.u)).toI) ((0 : Int)) ((0 : Int)) ((0 : Int)) ((0 : Int)) ((((r7).1.getD 0 PV.u)).toI) ((((r7).1.getD 1 PV.u)).toI) ((((r7).1.getD 2 PV.u)).toI) ((((r7).1.getD 3 PV.u)).toI) ((((r7).1.getD 4 PV.u)).toI) ((((r7).1.getD 5 PV.u)).toI) ((IntKind.wrap .i64 (Int.tdiv (((r8).1.getD 0 PV.u)).toI (64 : Int)))) ((0 : Int))))
  else (cW f___celluloid_style_reader__fail [PV.u, (PV.i (3 : Int))] [(t_style_reader, [(PV.s (((((r1).2.getD 0 (0, []))).2.getD 0 PV.u)).toS), (PV.i (((((r1).2.getD 0 (0, []))).2.getD 1 PV.u)).toI), (PV.i (((((r1).2.getD 0 (0, []))).2.getD 2 PV.u)).toI)])]).bind fun r11 =>
  some ([(PV.i (((r1).1.getD 0 PV.u)).toI), (PV.i (0 : Int)), (PV.i (0 : Int)), (PV.i (0 : Int)), (PV.i (0 : Int)), (PV.i (0 : Int)), (PV.i (0 : Int)), (PV.i (0 : Int)), (PV.i (0 : Int)), (PV.i (0 : Int)), (PV.i (0 : Int)), (PV.i (0 : Int)), (PV.l []), (PV.i (0 : Int))], [(t_style_reader, [(PV.s (((((r11).2.getD 0 (0, []))).2.getD 0 PV.u)).toS), (PV.i (((((r11).2.getD 0 (0, []))).2.getD 1 PV.u)).toI), (PV.i (((((r11).2.getD 0 (0, []))).2.getD 2 PV.u)).toI)])])))) := by rw [cW_fix]; generalize cW = C; generalize rW = R; kernel_rfl
theorem w___celluloid_style_reader__fill_L1 (x1 : Int) (x2 : Int) (x3 : Int) (x4 : List UInt8) (x5 : Int) (x6 : Int) (x7 : List (List PV)) (x8 : Int) (x9 : Int) (x10 : Int) (x11 : Int) (x12 : Int) (x13 : Int) (x14 : Int) (x15 : Int) (x16 : Int) (x17 : Int) (x18 : Int) (x19 : Int) (x20 : Int) (x21 : List (List PV)) (x22 : Int) (x23 : Int) (x24 : Int) (x25 : Int) (x26 : Int) (x27 : Int) (x28 : Int) (x29 : Int) (x30 : Int) (x31 : Int) (x32 : Int) (x33 : Int) (x34 : Int) : rW f___celluloid_style_reader__fill [t_style_reader] at___celluloid_style_reader__fill_L1 (S___celluloid_style_reader__fill_L1 x1 x2 x3 x4 x5 x6 x7 x8 x9 x10 x11 x12 x13 x14 x15 x16 x17 x18 x19 x20 x21 x22 x23 x24 x25 x26 x27 x28 x29 x30 x31 x32 x33 x34) =
  (bif (decide (x3 < x2)) then (cW f___celluloid_style_reader__little [PV.u, (PV.i (1 : Int))] [(t_style_reader, [(PV.s x4), (PV.i x5), (PV.i x6)])]).bind fun r12 =>
  ((bif ((((((r12).2.getD 0 (0, []))).2.getD 2 PV.u)).toI == (0 : Int)) then some [(PV.b (decide ((((r12).1.getD 0 PV.u)).toI < x1)))]
   else some [(PV.b false)])).bind fun r13 =>
  (bif ((r13.getD 0 PV.u)).toB then (cW f___celluloid_style_reader__fail [PV.u, (PV.i (3 : Int))] [(t_style_reader, [(PV.s (((((r12).2.getD 0 (0, []))).2.getD 0 PV.u)).toS), (PV.i (((((r12).2.getD 0 (0, []))).2.getD 1 PV.u)).toI), (PV.i (((((r12).2.getD 0 (0, []))).2.getD 2 PV.u)).toI)])]).bind fun r14 =>
  (cW f___celluloid_style_reader__color [PV.u] [(t_style_reader, [(PV.s (((((r14).2.getD 0 (0, []))).2.getD 0 PV.u)).toS), (PV.i (((((r14).2.getD 0 (0, []))).2.getD 1 PV.u)).toI), (PV.i (((((r14).2.getD 0 (0, []))).2.getD 2 PV.u)).toI)])]).bind fun r15 =>
  (bif (decide (((((List.length x21) + (List.length (List.set [[(PV.i (0 : Int)), (PV.i (0 : Int)), (PV.i (0 : Int)), (PV.i (0 : Int)), (PV.i (0 : Int))]] 0 [(PV.i (((r12).1.getD 0 PV.u)).toI), (PV.i (((r15).1.getD 0 PV.u)).toI), (PV.i (((r15).1.getD 1 PV.u)).toI), (PV.i (((r15).1.getD 2 PV.u)).toI), (PV.i (((r15).1.getD 3 PV.u)).toI)]))) + 1000) * 41) ≤ 1099511627776)) then rW f___celluloid_style_reader__fill [t_style_reader] at___celluloid_style_reader__fill_L1 (S___celluloid_style_reader__fill_L1 ((((r12).1.getD 0 PV.u)).toI) (x2) ((IntKind.wrap .i64 (x3 + (1 : Int)))) ((((((r15).2.getD 0 (0, []))).2.getD 0 PV.u)).toS) ((((((r15).2.getD 0 (0, []))).2.getD 1 PV.u)).toI) ((((((r15).2.getD 0 (0, []))).2.getD 2 PV.u)).toI) (x7) (x8) (x9) (x10) (x11) (x12) (x13) (x14) (x15) (x16) (x17) (x18) (x19) (x20) ((x21 ++ (List.set [[(PV.i (0 : Int)), (PV.i (0 : Int)), (PV.i (0 : Int)), (PV.i (0 : Int)), (PV.i (0 : Int))]] 0 [(PV.i (((r12).1.getD 0 PV.u)).toI), (PV.i (((r15).1.getD 0 PV.u)).toI), (PV.i (((r15).1.getD 1 PV.u)).toI), (PV.i (((r15).1.getD 2 PV.u)).toI), (PV.i (((r15).1.getD 3 PV.u)).toI)]))) (x22) (x23) (x24) (x25) (x26) (x27) (x28) (x29) (x30) (x31) (x32) (x33) (x34))
  else none)
  else (cW f___celluloid_style_reader__color [PV.u] [(t_style_reader, [(PV.s (((((r12).2.getD 0 (0, []))).2.getD 0 PV.u)).toS), (PV.i (((((r12).2.getD 0 (0, []))).2.getD 1 PV.u)).toI), (PV.i (((((r12).2.getD 0 (0, []))).2.getD 2 PV.u)).toI)])]).bind fun r16 =>
  (bif (decide (((((List.length x21) + (List.length (List.set [[(PV.i (0 : Int)), (PV.i (0 : Int)), (PV.i (0 : Int)), (PV.i (0 : Int)), (PV.i (0 : Int))]] 0 [(PV.i (((r12).1.getD 0 PV.u)).toI), (PV.i (((r16).1.getD 0 PV.u)).toI), (PV.i (((r16).1.getD 1 PV.u)).toI), (PV.i (((r16).1.getD 2 PV.u)).toI), (PV.i (((r16).1.getD 3 PV.u)).toI)]))) + 1000) * 41) ≤ 1099511627776)) then rW f___celluloid_style_reader__fill [t_style_reader] at___celluloid_style_reader__fill_L1 (S___celluloid_style_reader__fill_L1 ((((r12).1.getD 0 PV.u)).toI) (x2) ((IntKind.wrap .i64 (x3 + (1 : Int)))) ((((((r16).2.getD 0 (0, []))).2.getD 0 PV.u)).toS) ((((((r16).2.getD 0 (0, []))).2.getD 1 PV.u)).toI) ((((((r16).2.getD 0 (0, []))).2.getD 2 PV.u)).toI) (x7) (x8) (x9) (x10) (x11) (x12) (x13) (x14) (x15) (x16) (x17) (x18) (x19) (x20) ((x21 ++ (List.set [[(PV.i (0 : Int)), (PV.i (0 : Int)), (PV.i (0 : Int)), (PV.i (0 : Int)), (PV.i (0 : Int))]] 0 [(PV.i (((r12).1.getD 0 PV.u)).toI), (PV.i (((r16).1.getD 0 PV.u)).toI), (PV.i (((r16).1.getD 1 PV.u)).toI), (PV.i (((r16).1.getD 2 PV.u)).toI), (PV.i (((r16).1.getD 3 PV.u)).toI)]))) (x22) (x23) (x24) (x25) (x26) (x27) (x28) (x29) (x30) (x31) (x32) (x33) (x34))
  else none))
  else some ([(PV.i x22), (PV.i x23), (PV.i x24), (PV.i x25), (PV.i x26), (PV.i x27), (PV.i x28), (PV.i x29), (PV.i x30), (PV.i x31), (PV.i x32), (PV.i x33), (PV.l x21), (PV.i x34)], [(t_style_reader, [(PV.s x4), (PV.i x5), (PV.i x6)])])) := by rw [rW_fix]; generalize cW = C; generalize rW = R; kernel_rfl
/- celluloid/celluloidref08.fill -/
/- slices.IndexFunc[[]celluloid/api.Stroke,celluloid/api.Stroke] -/
noncomputable def S_slices_IndexFunc___celluloid_api_Stroke_celluloid_api_Stroke__L0 (x1 : List (List PV)) (x2 : Int) (x3 : Int) : St := mkSt [(0, .v (.sl 30 x1)), (1, .v (.fn 48 [])), (7, .v (.int .i64 x2)), (8, .v (.int .i64 x3))] [] 1000 19
noncomputable def at_slices_IndexFunc___celluloid_api_Stroke_celluloid_api_Stroke__L0 : List Item := (atLoop Try.f74 0)
theorem w_slices_IndexFunc___celluloid_api_Stroke_celluloid_api_Stroke_ (a1 : List (List PV)) : cW f_slices_IndexFunc___celluloid_api_Stroke_celluloid_api_Stroke_ [.l a1, (.f f_style_Right_2 0)] [] =
  rW f_slices_IndexFunc___celluloid_api_Stroke_celluloid_api_Stroke_ [] at_slices_IndexFunc___celluloid_api_Stroke_celluloid_api_Stroke__L0 (S_slices_IndexFunc___celluloid_api_Stroke_celluloid_api_Stroke__L0 (a1) ((((List.length a1) : Nat) : Int)) ((0 : Int))) := by rw [cW_fix]; generalize cW = C; generalize rW = R; kernel_rfl
theorem w_slices_IndexFunc___celluloid_api_Stroke_celluloid_api_Stroke__L0 (x1 : List (List PV)) (x2 : Int) (x3 : Int) : rW f_slices_IndexFunc___celluloid_api_Stroke_celluloid_api_Stroke_ [] at_slices_IndexFunc___celluloid_api_Stroke_celluloid_api_Stroke__L0 (S_slices_IndexFunc___celluloid_api_Stroke_celluloid_api_Stroke__L0 x1 x2 x3) =
  (bif (decide (x3 < x2)) then (bif (inB x3 (List.length x1)) then (cW f_style_Right_2 [(PV.i (((elemAt x1 x3).getD 0 PV.u)).toI), (PV.i (((elemAt x1 x3).getD 1 PV.u)).toI), (PV.i (((elemAt x1 x3).getD 2 PV.u)).toI), (PV.i (((elemAt x1 x3).getD 3 PV.u)).toI), (PV.i (((elemAt x1 x3).getD 4 PV.u)).toI)] []).bind fun r1 =>
  (bif (((r1).1.getD 0 PV.u)).toB then some ([(PV.i x3)], [])
  else rW f_slices_IndexFunc___celluloid_api_Stroke_celluloid_api_Stroke_ [] at_slices_IndexFunc___celluloid_api_Stroke_celluloid_api_Stroke__L0 (S_slices_IndexFunc___celluloid_api_Stroke_celluloid_api_Stroke__L0 (x1) (x2) ((IntKind.wrap .i64 (x3 + (1 : Int))))))
  else none)
  else some ([(PV.i (-1 : Int))], [])) := by rw [rW_fix]; generalize cW = C; generalize rW = R; kernel_rfl
/- (*celluloid/style.reader).matrix -/
theorem w___celluloid_style_reader__matrix (p0_1 : List UInt8) (p0_2 : Int) (p0_3 : Int) : cW f___celluloid_style_reader__matrix [.u] [(t_style_reader, [.s p0_1, .i p0_2, .i p0_3])] =
  (bif (p0_3 != (0 : Int)) then some ([(PV.i (0 : Int)), (PV.i (0 : Int)), (PV.i (0 : Int)), (PV.i (0 : Int)), (PV.i (0 : Int)), (PV.i (0 : Int))], [(t_style_reader, [(PV.s p0_1), (PV.i p0_2), (PV.i p0_3)])])
  else (cW f_field_TakeMatrix [(PV.s p0_1), (PV.i p0_2)] []).bind fun r1 =>
  some ([(PV.i (((r1).1.getD 0 PV.u)).toI), (PV.i (((r1).1.getD 1 PV.u)).toI), (PV.i (((r1).1.getD 2 PV.u)).toI), (PV.i (((r1).1.getD 3 PV.u)).toI), (PV.i (((r1).1.getD 4 PV.u)).toI), (PV.i (((r1).1.getD 5 PV.u)).toI)], [(t_style_reader, [(PV.s (((r1).1.getD 6 PV.u)).toS), (PV.i (((r1).1.getD 7 PV.u)).toI), (PV.i (((r1).1.getD 8 PV.u)).toI)])])) := by rw [cW_fix]; generalize cW = C; generalize rW = R; kernel_rfl
end Go.AI
