/- Equations of the program's functions, on. -/
import Derived.Test.YtbaajplajjfgcaaGreatU
import Derived.KernelRfl
set_option linter.unusedVariables false
set_option maxRecDepth 100000
namespace Go.AI
open Go Go.Proofs
/- celluloid/celluloidref08.Small -/
noncomputable def S_celluloidref08_Small_L0 (x1 : List (List PV)) (x2 : List (List PV)) (x3 : Int) : St := mkSt [(0, .v (.sl 151 x1)), (1, .v (.sl 154 x2)), (5, .v (.int .i64 x3))] [] 1000 27
noncomputable def at_celluloidref08_Small_L0 : List Item := (atLoop Tryz.f36 0)
theorem w_celluloidref08_Small (a1 : List (List PV)) (a2 : List (List PV)) : cW f_celluloidref08_Small [.l a1, .l a2] [] =
  rW f_celluloidref08_Small [] at_celluloidref08_Small_L0 (S_celluloidref08_Small_L0 (a1) (a2) ((0 : Int))) := by rw [cW_fix]; generalize cW = C; generalize rW = R; kernel_rfl
theorem w_celluloidref08_Small_L0 (x1 : List (List PV)) (x2 : List (List PV)) (x3 : Int) : rW f_celluloidref08_Small [] at_celluloidref08_Small_L0 (S_celluloidref08_Small_L0 x1 x2 x3) =
  (bif (decide (x3 < (((List.length x1) : Nat) : Int))) then (bif (inB x3 (List.length x1)) then (bif (decide ((((List.length (((elemAt x1 x3).getD 12 PV.u)).toL) : Nat) : Int) > (20 : Int))) then some ([(PV.b false)], [])
  else rW f_celluloidref08_Small [] at_celluloidref08_Small_L0 (S_celluloidref08_Small_L0 (x1) (x2) ((IntKind.wrap .i64 (x3 + (1 : Int))))))
  else none)
  else ((bif (decide ((((List.length x1) : Nat) : Int) < (30 : Int))) then some [(PV.b (decide ((((List.length x2) : Nat) : Int) < (30 : Int))))]
   else some [(PV.b false)])).bind fun r1 =>
  some ([(PV.b ((r1.getD 0 PV.u)).toB)], [])) := by rw [rW_fix]; generalize cW = C; generalize rW = R; kernel_rfl
/- celluloid/style.Put -/
noncomputable def S_style_Put_L0 (x1 : List (List PV)) (x2 : List (List PV)) (x3 : Int) (x4 : Int) (x5 : List UInt8) (x6 : Int) (x7 : List UInt8) (x8 : Int) : St := mkSt [(2, .v (.sl 154 x1)), (3, .v (.ptr (.n 1 0 0) 0)), (6, .v (.ptr (.n 1 1 0) 0)), (21, .v (.sl 151 x2)), (22, .v (.int .i64 x3)), (23, .v (.int .i64 x4))] [((.n 1 0 0), .cells 80 [.str x5, .int .i64 x6]), ((.n 1 1 0), .cells 80 [.str x7, .int .i64 x8])] 1000 57
noncomputable def at_style_Put_L0 : List Item := (atLoop Tryz.f60 0)
noncomputable def S_style_Put_L2 (x1 : List (List PV)) (x2 : Int) (x3 : Int) (x4 : List UInt8) (x5 : Int) (x6 : List UInt8) (x7 : Int) : St := mkSt [(3, .v (.ptr (.n 1 0 0) 0)), (6, .v (.ptr (.n 1 1 0) 0)), (35, .v (.sl 154 x1)), (36, .v (.int .i64 x2)), (37, .v (.int .i64 x3))] [((.n 1 0 0), .cells 80 [.str x4, .int .i64 x5]), ((.n 1 1 0), .cells 80 [.str x6, .int .i64 x7])] 2000 57
noncomputable def at_style_Put_L2 : List Item := (atLoop Tryz.f60 2)
theorem w_style_Put (a1 : List UInt8) (a2 : Int) (a3 : List (List PV)) (a4 : List (List PV)) : cW f_style_Put [.s a1, .i a2, .l a3, .l a4] [] =
  (cW f_style_Right [(PV.l a3), (PV.l a4)] []).bind fun r1 =>
  (bif (!(((r1).1.getD 0 PV.u)).toB) then some ([(PV.s []), (PV.i (0 : Int)), (PV.i (1 : Int))], [])
  else (cW f_style_byteOf [(PV.s a1), (PV.i a2), (PV.i (((List.length a3) : Nat) : Int))] []).bind fun r2 =>
  rW f_style_Put [] at_style_Put_L0 (S_style_Put_L0 (a4) (a3) ((((List.length a3) : Nat) : Int)) ((0 : Int)) ((((r2).1.getD 0 PV.u)).toS) ((((r2).1.getD 1 PV.u)).toI) ([]) ((0 : Int)))) := by rw [cW_fix]; generalize cW = C; generalize rW = R; kernel_rfl
theorem w_style_Put_L0 (x1 : List (List PV)) (x2 : List (List PV)) (x3 : Int) (x4 : Int) (x5 : List UInt8) (x6 : Int) (x7 : List UInt8) (x8 : Int) : rW f_style_Put [] at_style_Put_L0 (S_style_Put_L0 x1 x2 x3 x4 x5 x6 x7 x8) =
  (bif (decide (x4 < x3)) then (bif (inB x4 (List.length x2)) then (cW f_style_put [(PV.s x5), (PV.i x6), (PV.i (((elemAt x2 x4).getD 0 PV.u)).toI), (PV.i (((elemAt x2 x4).getD 1 PV.u)).toI), (PV.i (((elemAt x2 x4).getD 2 PV.u)).toI), (PV.i (((elemAt x2 x4).getD 3 PV.u)).toI), (PV.i (((elemAt x2 x4).getD 4 PV.u)).toI), (PV.i (((elemAt x2 x4).getD 5 PV.u)).toI), (PV.i (((elemAt x2 x4).getD 6 PV.u)).toI), (PV.i (((elemAt x2 x4).getD 7 PV.u)).toI), (PV.i (((elemAt x2 x4).getD 8 PV.u)).toI), (PV.i (((elemAt x2 x4).getD 9 PV.u)).toI), (PV.i (((elemAt x2 x4).getD 10 PV.u)).toI), (PV.i (((elemAt x2 x4).getD 11 PV.u)).toI), (PV.l (((elemAt x2 x4).getD 12 PV.u)).toL), (PV.i (((elemAt x2 x4).getD 13 PV.u)).toI)] []).bind fun r3 =>
  rW f_style_Put [] at_style_Put_L0 (S_style_Put_L0 (x1) (x2) (x3) ((IntKind.wrap .i64 (x4 + (1 : Int)))) ((((r3).1.getD 0 PV.u)).toS) ((((r3).1.getD 1 PV.u)).toI) (x7) (x8))
  else none)
  else (cW f_style_byteOf [(PV.s x5), (PV.i x6), (PV.i (((List.length x1) : Nat) : Int))] []).bind fun r4 =>
  rW f_style_Put [] at_style_Put_L2 (S_style_Put_L2 (x1) ((((List.length x1) : Nat) : Int)) ((0 : Int)) ((((r4).1.getD 0 PV.u)).toS) ((((r4).1.getD 1 PV.u)).toI) (x7) (x8))) := by rw [rW_fix]; generalize cW = C; generalize rW = R; kernel_rfl
theorem w_style_Put_L2 (x1 : List (List PV)) (x2 : Int) (x3 : Int) (x4 : List UInt8) (x5 : Int) (x6 : List UInt8) (x7 : Int) : rW f_style_Put [] at_style_Put_L2 (S_style_Put_L2 x1 x2 x3 x4 x5 x6 x7) =
  (bif (decide (x3 < x2)) then (bif (inB x3 (List.length x1)) then (cW f_bits_PutLittle [(PV.s x4), (PV.i x5), (PV.i (((elemAt x1 x3).getD 0 PV.u)).toI), (PV.i (2 : Int))] []).bind fun r5 =>
  (cW f_field_PutRGBA [(PV.s (((r5).1.getD 0 PV.u)).toS), (PV.i (((r5).1.getD 1 PV.u)).toI), (PV.i (((elemAt x1 x3).getD 1 PV.u)).toI), (PV.i (((elemAt x1 x3).getD 2 PV.u)).toI), (PV.i (((elemAt x1 x3).getD 3 PV.u)).toI), (PV.i (((elemAt x1 x3).getD 4 PV.u)).toI)] []).bind fun r6 =>
  rW f_style_Put [] at_style_Put_L2 (S_style_Put_L2 (x1) (x2) ((IntKind.wrap .i64 (x3 + (1 : Int)))) ((((r6).1.getD 0 PV.u)).toS) ((((r6).1.getD 1 PV.u)).toI) (x6) (x7))
  else none)
  else some ([(PV.s x4), (PV.i x5), (PV.i (0 : Int))], [])) := by rw [rW_fix]; generalize cW = C; generalize rW = R; kernel_rfl
/- celluloid/style.put -/
noncomputable def S_style_put_L1 (x1 : List (List PV)) (x2 : Int) (x3 : Int) (x4 : List UInt8) (x5 : Int) (x6 : List UInt8) (x7 : Int) : St := mkSt [(2, .v (.ptr (.n 1 0 0) 0)), (4, .v (.ptr (.n 1 2 0) 0)), (28, .v (.sl 230 x1)), (29, .v (.int .i64 x2)), (30, .v (.int .i64 x3))] [((.n 1 0 0), .cells 80 [.str x4, .int .i64 x5]), ((.n 1 2 0), .cells 80 [.str x6, .int .i64 x7])] 1000 75
noncomputable def at_style_put_L1 : List Item := (atLoop Tryz.f115 1)
theorem w_style_put (a1 : List UInt8) (a2 : Int) (a3 : Int) (a4 : Int) (a5 : Int) (a6 : Int) (a7 : Int) (a8 : Int) (a9 : Int) (a10 : Int) (a11 : Int) (a12 : Int) (a13 : Int) (a14 : Int) (a15 : List (List PV)) (a16 : Int) : cW f_style_put [.s a1, .i a2, .i a3, .i a4, .i a5, .i a6, .i a7, .i a8, .i a9, .i a10, .i a11, .i a12, .i a13, .i a14, .l a15, .i a16] [] =
  (cW f_style_byteOf [(PV.s a1), (PV.i a2), (PV.i a3)] []).bind fun r1 =>
  (bif (a3 == (0 : Int)) then (cW f_field_PutRGBA [(PV.s (((r1).1.getD 0 PV.u)).toS), (PV.i (((r1).1.getD 1 PV.u)).toI), (PV.i a4), (PV.i a5), (PV.i a6), (PV.i a7)] []).bind fun r2 =>
  some ([(PV.s (((r2).1.getD 0 PV.u)).toS), (PV.i (((r2).1.getD 1 PV.u)).toI)], [])
  else (cW f_style_picture [(PV.i a3)] []).bind fun r3 =>
  (bif (((r3).1.getD 0 PV.u)).toB then (cW f_bits_PutLittle [(PV.s (((r1).1.getD 0 PV.u)).toS), (PV.i (((r1).1.getD 1 PV.u)).toI), (PV.i a16), (PV.i (2 : Int))] []).bind fun r4 =>
  (cW f_field_PutMatrix [(PV.s (((r4).1.getD 0 PV.u)).toS), (PV.i (((r4).1.getD 1 PV.u)).toI), (PV.i a8), (PV.i a9), (PV.i a10), (PV.i a11), (PV.i a12), (PV.i a13)] []).bind fun r5 =>
  some ([(PV.s (((r5).1.getD 0 PV.u)).toS), (PV.i (((r5).1.getD 1 PV.u)).toI)], [])
  else (cW f_field_PutMatrix [(PV.s (((r1).1.getD 0 PV.u)).toS), (PV.i (((r1).1.getD 1 PV.u)).toI), (PV.i a8), (PV.i a9), (PV.i a10), (PV.i a11), (PV.i a12), (PV.i a13)] []).bind fun r6 =>
  (cW f_style_byteOf [(PV.s (((r6).1.getD 0 PV.u)).toS), (PV.i (((r6).1.getD 1 PV.u)).toI), (PV.i (IntKind.wrap .i64 ((IntKind.wrap .i64 (a14 * (64 : Int))) + (((List.length a15) : Nat) : Int))))] []).bind fun r7 =>
  rW f_style_put [] at_style_put_L1 (S_style_put_L1 (a15) ((((List.length a15) : Nat) : Int)) ((0 : Int)) ((((r7).1.getD 0 PV.u)).toS) ((((r7).1.getD 1 PV.u)).toI) ([]) ((0 : Int))))) := by rw [cW_fix]; generalize cW = C; generalize rW = R; kernel_rfl
theorem w_style_put_L1 (x1 : List (List PV)) (x2 : Int) (x3 : Int) (x4 : List UInt8) (x5 : Int) (x6 : List UInt8) (x7 : Int) : rW f_style_put [] at_style_put_L1 (S_style_put_L1 x1 x2 x3 x4 x5 x6 x7) =
  (bif (decide (x3 < x2)) then (bif (inB x3 (List.length x1)) then (cW f_style_byteOf [(PV.s x4), (PV.i x5), (PV.i (((elemAt x1 x3).getD 0 PV.u)).toI)] []).bind fun r8 =>
  (cW f_field_PutRGBA [(PV.s (((r8).1.getD 0 PV.u)).toS), (PV.i (((r8).1.getD 1 PV.u)).toI), (PV.i (((elemAt x1 x3).getD 1 PV.u)).toI), (PV.i (((elemAt x1 x3).getD 2 PV.u)).toI), (PV.i (((elemAt x1 x3).getD 3 PV.u)).toI), (PV.i (((elemAt x1 x3).getD 4 PV.u)).toI)] []).bind fun r9 =>
  rW f_style_put [] at_style_put_L1 (S_style_put_L1 (x1) (x2) ((IntKind.wrap .i64 (x3 + (1 : Int)))) ((((r9).1.getD 0 PV.u)).toS) ((((r9).1.getD 1 PV.u)).toI) (x6) (x7))
  else none)
  else some ([(PV.s x4), (PV.i x5)], [])) := by rw [rW_fix]; generalize cW = C; generalize rW = R; kernel_rfl
/- slices.ContainsFunc[[]celluloid/api.Fill,celluloid/api.Fill] -/
theorem w_slices_ContainsFunc___celluloid_api_Fill_celluloid_api_Fill_ (a1 : List (List PV)) : cW f_slices_ContainsFunc___celluloid_api_Fill_celluloid_api_Fill_ [.l a1, (.f f_style_Right_1 0)] [] =
  (cW f_slices_IndexFunc___celluloid_api_Fill_celluloid_api_Fill_ [(PV.l a1), (PV.f f_style_Right_1 0)] []).bind fun r1 =>
  some ([(PV.b (decide ((((r1).1.getD 0 PV.u)).toI ≥ (0 : Int))))], []) := by rw [cW_fix]; generalize cW = C; generalize rW = R; kernel_rfl
/- celluloid/style.Right$2 -/
theorem w_style_Right_2 (a1 : Int) (a2 : Int) (a3 : Int) (a4 : Int) (a5 : Int) : cW f_style_Right_2 [.i a1, .i a2, .i a3, .i a4, .i a5] [] =
  (cW f_style_RightStroke [(PV.i a1), (PV.i a2), (PV.i a3), (PV.i a4), (PV.i a5)] []).bind fun r1 =>
  some ([(PV.b (!(((r1).1.getD 0 PV.u)).toB))], []) := by rw [cW_fix]; generalize cW = C; generalize rW = R; kernel_rfl
/- celluloid/style.picture -/
theorem w_style_picture (a1 : Int) : cW f_style_picture [.i a1] [] =
  ((bif (a1 == (64 : Int)) then some [(PV.b true)]
   else some [(PV.b (a1 == (65 : Int)))])).bind fun r1 =>
  some ([(PV.b ((r1.getD 0 PV.u)).toB)], []) := by rw [cW_fix]; generalize cW = C; generalize rW = R; kernel_rfl
/- celluloid/style.SameFill -/
theorem w_style_SameFill (a1 : Int) (a2 : Int) (a3 : Int) (a4 : Int) (a5 : Int) (a6 : Int) (a7 : Int) (a8 : Int) (a9 : Int) (a10 : Int) (a11 : Int) (a12 : Int) (a13 : List (List PV)) (a14 : Int) (a15 : Int) (a16 : Int) (a17 : Int) (a18 : Int) (a19 : Int) (a20 : Int) (a21 : Int) (a22 : Int) (a23 : Int) (a24 : Int) (a25 : Int) (a26 : Int) (a27 : List (List PV)) (a28 : Int) : cW f_style_SameFill [.i a1, .i a2, .i a3, .i a4, .i a5, .i a6, .i a7, .i a8, .i a9, .i a10, .i a11, .i a12, .l a13, .i a14, .i a15, .i a16, .i a17, .i a18, .i a19, .i a20, .i a21, .i a22, .i a23, .i a24, .i a25, .i a26, .l a27, .i a28] [] =
  ((bif (a1 == a15) then (bif ((a2 == a16) && ((a3 == a17) && ((a4 == a18) && (a5 == a19)))) then (bif ((a6 == a20) && ((a7 == a21) && ((a8 == a22) && ((a9 == a23) && ((a10 == a24) && (a11 == a25)))))) then (bif (a12 == a26) then (bif (a14 == a28) then (cW f_slices_Equal___celluloid_api_Stop_celluloid_api_Stop_ [(PV.l a13), (PV.l a27)] []).bind fun r1 =>
   some [(PV.b (((r1).1.getD 0 PV.u)).toB)]
   else some [(PV.b false)])
   else some [(PV.b false)])
   else some [(PV.b false)])
   else some [(PV.b false)])
   else some [(PV.b false)])).bind fun r2 =>
  some ([(PV.b ((r2.getD 0 PV.u)).toB)], []) := by rw [cW_fix]; generalize cW = C; generalize rW = R; kernel_rfl
/- celluloid/style.Right -/
theorem w_style_Right (a1 : List (List PV)) (a2 : List (List PV)) : cW f_style_Right [.l a1, .l a2] [] =
  ((bif (decide ((((List.length a1) : Nat) : Int) ≤ (15 : Int))) then (bif (decide ((((List.length a2) : Nat) : Int) ≤ (15 : Int))) then (cW f_slices_ContainsFunc___celluloid_api_Fill_celluloid_api_Fill_ [(PV.l a1), (PV.f f_style_Right_1 0)] []).bind fun r1 =>
   (bif (!(((r1).1.getD 0 PV.u)).toB) then (cW f_slices_ContainsFunc___celluloid_api_Stroke_celluloid_api_Stroke_ [(PV.l a2), (PV.f f_style_Right_2 0)] []).bind fun r2 =>
   some [(PV.b (!(((r2).1.getD 0 PV.u)).toB))]
   else some [(PV.b false)])
   else some [(PV.b false)])
   else some [(PV.b false)])).bind fun r3 =>
  some ([(PV.b ((r3.getD 0 PV.u)).toB)], []) := by rw [cW_fix]; generalize cW = C; generalize rW = R; kernel_rfl
/- celluloid/style.Right$1 -/
theorem w_style_Right_1 (a1 : Int) (a2 : Int) (a3 : Int) (a4 : Int) (a5 : Int) (a6 : Int) (a7 : Int) (a8 : Int) (a9 : Int) (a10 : Int) (a11 : Int) (a12 : Int) (a13 : List (List PV)) (a14 : Int) : cW f_style_Right_1 [.i a1, .i a2, .i a3, .i a4, .i a5, .i a6, .i a7, .i a8, .i a9, .i a10, .i a11, .i a12, .l a13, .i a14] [] =
  (cW f_style_RightFill [(PV.i a1), (PV.i a2), (PV.i a3), (PV.i a4), (PV.i a5), (PV.i a6), (PV.i a7), (PV.i a8), (PV.i a9), (PV.i a10), (PV.i a11), (PV.i a12), (PV.l a13), (PV.i a14)] []).bind fun r1 =>
  some ([(PV.b (!(((r1).1.getD 0 PV.u)).toB))], []) := by rw [cW_fix]; generalize cW = C; generalize rW = R; kernel_rfl
/- celluloid/style.RightStroke -/
theorem w_style_RightStroke (a1 : Int) (a2 : Int) (a3 : Int) (a4 : Int) (a5 : Int) : cW f_style_RightStroke [.i a1, .i a2, .i a3, .i a4, .i a5] [] =
  ((bif (decide (a1 ≥ (0 : Int))) then (bif (decide (a1 < (65536 : Int))) then (cW f_field_RightRGBA [(PV.i a2), (PV.i a3), (PV.i a4), (PV.i a5)] []).bind fun r1 =>
   some [(PV.b (((r1).1.getD 0 PV.u)).toB)]
   else some [(PV.b false)])
   else some [(PV.b false)])).bind fun r2 =>
  some ([(PV.b ((r2.getD 0 PV.u)).toB)], []) := by rw [cW_fix]; generalize cW = C; generalize rW = R; kernel_rfl
/- celluloid/style.stop -/
theorem w_style_stop (a1 : Int) (a2 : Int) (a3 : Int) (a4 : Int) (a5 : Int) (a6 : Int) : cW f_style_stop [.i a1, .i a2, .i a3, .i a4, .i a5, .i a6] [] =
  ((bif (decide (a1 ≥ a6)) then (bif (decide (a1 ≤ (255 : Int))) then (cW f_field_RightRGBA [(PV.i a2), (PV.i a3), (PV.i a4), (PV.i a5)] []).bind fun r1 =>
   some [(PV.b (((r1).1.getD 0 PV.u)).toB)]
   else some [(PV.b false)])
   else some [(PV.b false)])).bind fun r2 =>
  some ([(PV.b ((r2.getD 0 PV.u)).toB)], []) := by rw [cW_fix]; generalize cW = C; generalize rW = R; kernel_rfl
/- celluloid/style.RightFill -/
noncomputable def S_style_RightFill_L1 (x1 : Int) (x2 : List (List PV)) (x3 : Int) (x4 : Int) (x5 : Int) (x6 : Int) (x7 : Int) (x8 : Int) (x9 : Int) (x10 : Int) (x11 : Int) (x12 : Int) (x13 : Int) (x14 : Int) (x15 : Int) (x16 : Int) (x17 : List (List PV)) (x18 : Int) : St := mkSt [(1, .v (.ptr (.n 1 0 0) 0)), (3, .v (.int .i64 x1)), (68, .v (.sl 230 x2)), (69, .v (.int .i64 x3)), (70, .v (.int .i64 x4))] [((.n 1 0 0), .cells 151 [.int .i64 x5, .int .i64 x6, .int .i64 x7, .int .i64 x8, .int .i64 x9, .int .i64 x10, .int .i64 x11, .int .i64 x12, .int .i64 x13, .int .i64 x14, .int .i64 x15, .int .i64 x16, .sl 230 x17, .int .i64 x18])] 1000 106
noncomputable def at_style_RightFill_L1 : List Item := (atLoop Tryz.f144 1)
theorem w_style_RightFill (a1 : Int) (a2 : Int) (a3 : Int) (a4 : Int) (a5 : Int) (a6 : Int) (a7 : Int) (a8 : Int) (a9 : Int) (a10 : Int) (a11 : Int) (a12 : Int) (a13 : List (List PV)) (a14 : Int) : cW f_style_RightFill [.i a1, .i a2, .i a3, .i a4, .i a5, .i a6, .i a7, .i a8, .i a9, .i a10, .i a11, .i a12, .l a13, .i a14] [] =
  (bif (a1 == (0 : Int)) then ((cW f_field_RightRGBA [(PV.i a2), (PV.i a3), (PV.i a4), (PV.i a5)] []).bind fun r1 =>
   (bif (((r1).1.getD 0 PV.u)).toB then (cW f_style_SameFill [(PV.i a1), (PV.i a2), (PV.i a3), (PV.i a4), (PV.i a5), (PV.i a6), (PV.i a7), (PV.i a8), (PV.i a9), (PV.i a10), (PV.i a11), (PV.i a12), (PV.l a13), (PV.i a14), (PV.i (0 : Int)), (PV.i a2), (PV.i a3), (PV.i a4), (PV.i a5), (PV.i (0 : Int)), (PV.i (0 : Int)), (PV.i (0 : Int)), (PV.i (0 : Int)), (PV.i (0 : Int)), (PV.i (0 : Int)), (PV.i (0 : Int)), (PV.l []), (PV.i (0 : Int))] []).bind fun r2 =>
   some [(PV.b (((r2).1.getD 0 PV.u)).toB)]
   else some [(PV.b false)])).bind fun r3 =>
  some ([(PV.b ((r3.getD 0 PV.u)).toB)], [])
  else (cW f_style_picture [(PV.i a1)] []).bind fun r4 =>
  (bif (((r4).1.getD 0 PV.u)).toB then ((cW f_field_RightMatrix [(PV.i a6), (PV.i a7), (PV.i a8), (PV.i a9), (PV.i a10), (PV.i a11)] []).bind fun r5 =>
   (bif (((r5).1.getD 0 PV.u)).toB then (bif (decide (a14 ≥ (0 : Int))) then (bif (decide (a14 < (65536 : Int))) then (cW f_style_SameFill [(PV.i a1), (PV.i a2), (PV.i a3), (PV.i a4), (PV.i a5), (PV.i a6), (PV.i a7), (PV.i a8), (PV.i a9), (PV.i a10), (PV.i a11), (PV.i a12), (PV.l a13), (PV.i a14), (PV.i a1), (PV.i (0 : Int)), (PV.i (0 : Int)), (PV.i (0 : Int)), (PV.i (0 : Int)), (PV.i a6), (PV.i a7), (PV.i a8), (PV.i a9), (PV.i a10), (PV.i a11), (PV.i (0 : Int)), (PV.l []), (PV.i a14)] []).bind fun r6 =>
   some [(PV.b (((r6).1.getD 0 PV.u)).toB)]
   else some [(PV.b false)])
   else some [(PV.b false)])
   else some [(PV.b false)])).bind fun r7 =>
  some ([(PV.b ((r7.getD 0 PV.u)).toB)], [])
  else ((cW f_style_gradient [(PV.i a1)] []).bind fun r8 =>
   (bif (!(((r8).1.getD 0 PV.u)).toB) then some [(PV.b true)]
   else (cW f_style_SameFill [(PV.i a1), (PV.i a2), (PV.i a3), (PV.i a4), (PV.i a5), (PV.i a6), (PV.i a7), (PV.i a8), (PV.i a9), (PV.i a10), (PV.i a11), (PV.i a12), (PV.l a13), (PV.i a14), (PV.i a1), (PV.i (0 : Int)), (PV.i (0 : Int)), (PV.i (0 : Int)), (PV.i (0 : Int)), (PV.i a6), (PV.i a7), (PV.i a8), (PV.i a9), (PV.i a10), (PV.i a11), (PV.i a12), (PV.l a13), (PV.i (0 : Int))] []).bind fun r9 =>
   some [(PV.b (!(((r9).1.getD 0 PV.u)).toB))])).bind fun r10 =>
  (bif ((r10.getD 0 PV.u)).toB then some ([(PV.b false)], [])
  else rW f_style_RightFill [] at_style_RightFill_L1 (S_style_RightFill_L1 ((0 : Int)) (a13) ((((List.length a13) : Nat) : Int)) ((0 : Int)) (a1) (a2) (a3) (a4) (a5) (a6) (a7) (a8) (a9) (a10) (a11) (a12) (a13) (a14))))) := by rw [cW_fix]; generalize cW = C; generalize rW = R; kernel_rfl
theorem w_style_RightFill_L1 (x1 : Int) (x2 : List (List PV)) (x3 : Int) (x4 : Int) (x5 : Int) (x6 : Int) (x7 : Int) (x8 : Int) (x9 : Int) (x10 : Int) (x11 : Int) (x12 : Int) (x13 : Int) (x14 : Int) (x15 : Int) (x16 : Int) (x17 : List (List PV)) (x18 : Int) : rW f_style_RightFill [] at_style_RightFill_L1 (S_style_RightFill_L1 x1 x2 x3 x4 x5 x6 x7 x8 x9 x10 x11 x12 x13 x14 x15 x16 x17 x18) =
  (bif (decide (x4 < x3)) then (bif (inB x4 (List.length x2)) then (cW f_style_stop [(PV.i (((elemAt x2 x4).getD 0 PV.u)).toI), (PV.i (((elemAt x2 x4).getD 1 PV.u)).toI), (PV.i (((elemAt x2 x4).getD 2 PV.u)).toI), (PV.i (((elemAt x2 x4).getD 3 PV.u)).toI), (PV.i (((elemAt x2 x4).getD 4 PV.u)).toI), (PV.i x1)] []).bind fun r11 =>
  (bif (!(((r11).1.getD 0 PV.u)).toB) then some ([(PV.b false)], [])
  else rW f_style_RightFill [] at_style_RightFill_L1 (S_style_RightFill_L1 ((((elemAt x2 x4).getD 0 PV.u)).toI) (x2) (x3) ((IntKind.wrap .i64 (x4 + (1 : Int)))) (x5) (x6) (x7) (x8) (x9) (x10) (x11) (x12) (x13) (x14) (x15) (x16) (x17) (x18)))
  else none)
  else ((cW f_field_RightMatrix [(PV.i x10), (PV.i x11), (PV.i x12), (PV.i x13), (PV.i x14), (PV.i x15)] []).bind fun r12 =>
   (bif (((r12).1.getD 0 PV.u)).toB then (bif (decide (x16 ≥ (0 : Int))) then (bif (decide (x16 ≤ (2 : Int))) then (bif (decide ((((List.length x17) : Nat) : Int) ≥ (1 : Int))) then some [(PV.b (decide ((((List.length x17) : Nat) : Int) ≤ (8 : Int))))]
   else some [(PV.b false)])
   else some [(PV.b false)])
   else some [(PV.b false)])
   else some [(PV.b false)])).bind fun r13 =>
  some ([(PV.b ((r13.getD 0 PV.u)).toB)], [])) := by rw [rW_fix]; generalize cW = C; generalize rW = R; kernel_rfl
/- celluloid/style.gradient -/
theorem w_style_gradient (a1 : Int) : cW f_style_gradient [.i a1] [] =
  ((bif (a1 == (16 : Int)) then some [(PV.b true)]
   else some [(PV.b (a1 == (18 : Int)))])).bind fun r1 =>
  some ([(PV.b ((r1.getD 0 PV.u)).toB)], []) := by rw [cW_fix]; generalize cW = C; generalize rW = R; kernel_rfl
/- slices.IndexFunc[[]celluloid/api.Stroke,celluloid/api.Stroke] -/
noncomputable def S_slices_IndexFunc___celluloid_api_Stroke_celluloid_api_Stroke__L0 (x1 : List (List PV)) (x2 : Int) (x3 : Int) : St := mkSt [(0, .v (.sl 154 x1)), (1, .v (.fn 146 [])), (7, .v (.int .i64 x2)), (8, .v (.int .i64 x3))] [] 1000 19
noncomputable def at_slices_IndexFunc___celluloid_api_Stroke_celluloid_api_Stroke__L0 : List Item := (atLoop Tryz.f174 0)
theorem w_slices_IndexFunc___celluloid_api_Stroke_celluloid_api_Stroke_ (a1 : List (List PV)) : cW f_slices_IndexFunc___celluloid_api_Stroke_celluloid_api_Stroke_ [.l a1, (.f f_style_Right_2 0)] [] =
  rW f_slices_IndexFunc___celluloid_api_Stroke_celluloid_api_Stroke_ [] at_slices_IndexFunc___celluloid_api_Stroke_celluloid_api_Stroke__L0 (S_slices_IndexFunc___celluloid_api_Stroke_celluloid_api_Stroke__L0 (a1) ((((List.length a1) : Nat) : Int)) ((0 : Int))) := by rw [cW_fix]; generalize cW = C; generalize rW = R; kernel_rfl
theorem w_slices_IndexFunc___celluloid_api_Stroke_celluloid_api_Stroke__L0 (x1 : List (List PV)) (x2 : Int) (x3 : Int) : rW f_slices_IndexFunc___celluloid_api_Stroke_celluloid_api_Stroke_ [] at_slices_IndexFunc___celluloid_api_Stroke_celluloid_api_Stroke__L0 (S_slices_IndexFunc___celluloid_api_Stroke_celluloid_api_Stroke__L0 x1 x2 x3) =
  (bif (decide (x3 < x2)) then (bif (inB x3 (List.length x1)) then (cW f_style_Right_2 [(PV.i (((elemAt x1 x3).getD 0 PV.u)).toI), (PV.i (((elemAt x1 x3).getD 1 PV.u)).toI), (PV.i (((elemAt x1 x3).getD 2 PV.u)).toI), (PV.i (((elemAt x1 x3).getD 3 PV.u)).toI), (PV.i (((elemAt x1 x3).getD 4 PV.u)).toI)] []).bind fun r1 =>
  (bif (((r1).1.getD 0 PV.u)).toB then some ([(PV.i x3)], [])
  else rW f_slices_IndexFunc___celluloid_api_Stroke_celluloid_api_Stroke_ [] at_slices_IndexFunc___celluloid_api_Stroke_celluloid_api_Stroke__L0 (S_slices_IndexFunc___celluloid_api_Stroke_celluloid_api_Stroke__L0 (x1) (x2) ((IntKind.wrap .i64 (x3 + (1 : Int))))))
  else none)
  else some ([(PV.i (-1 : Int))], [])) := by rw [rW_fix]; generalize cW = C; generalize rW = R; kernel_rfl
/- slices.Equal[[]celluloid/api.Stop,celluloid/api.Stop] -/
noncomputable def S_slices_Equal___celluloid_api_Stop_celluloid_api_Stop__L0 (x1 : List (List PV)) (x2 : List (List PV)) (x3 : Int) (x4 : Int) : St := mkSt [(0, .v (.sl 230 x1)), (1, .v (.sl 230 x2)), (12, .v (.int .i64 x3)), (13, .v (.int .i64 x4))] [] 1000 26
noncomputable def at_slices_Equal___celluloid_api_Stop_celluloid_api_Stop__L0 : List Item := (atLoop Tryz.f184 0)
theorem w_slices_Equal___celluloid_api_Stop_celluloid_api_Stop_ (a1 : List (List PV)) (a2 : List (List PV)) : cW f_slices_Equal___celluloid_api_Stop_celluloid_api_Stop_ [.l a1, .l a2] [] =
  (bif ((((List.length a1) : Nat) : Int) != (((List.length a2) : Nat) : Int)) then some ([(PV.b false)], [])
  else rW f_slices_Equal___celluloid_api_Stop_celluloid_api_Stop_ [] at_slices_Equal___celluloid_api_Stop_celluloid_api_Stop__L0 (S_slices_Equal___celluloid_api_Stop_celluloid_api_Stop__L0 (a1) (a2) ((((List.length a1) : Nat) : Int)) ((0 : Int)))) := by rw [cW_fix]; generalize cW = C; generalize rW = R; kernel_rfl
theorem w_slices_Equal___celluloid_api_Stop_celluloid_api_Stop__L0 (x1 : List (List PV)) (x2 : List (List PV)) (x3 : Int) (x4 : Int) : rW f_slices_Equal___celluloid_api_Stop_celluloid_api_Stop_ [] at_slices_Equal___celluloid_api_Stop_celluloid_api_Stop__L0 (S_slices_Equal___celluloid_api_Stop_celluloid_api_Stop__L0 x1 x2 x3 x4) =
  (bif (decide (x4 < x3)) then (bif (inB x4 (List.length x1)) then (bif (inB x4 (List.length x2)) then (bif (!(((((elemAt x1 x4).getD 0 PV.u)).toI == (((elemAt x2 x4).getD 0 PV.u)).toI) && (((((elemAt x1 x4).getD 1 PV.u)).toI == (((elemAt x2 x4).getD 1 PV.u)).toI) && (((((elemAt x1 x4).getD 2 PV.u)).toI == (((elemAt x2 x4).getD 2 PV.u)).toI) && (((((elemAt x1 x4).getD 3 PV.u)).toI == (((elemAt x2 x4).getD 3 PV.u)).toI) && ((((elemAt x1 x4).getD 4 PV.u)).toI == (((elemAt x2 x4).getD 4 PV.u)).toI)))))) then some ([(PV.b false)], [])
  else rW f_slices_Equal___celluloid_api_Stop_celluloid_api_Stop_ [] at_slices_Equal___celluloid_api_Stop_celluloid_api_Stop__L0 (S_slices_Equal___celluloid_api_Stop_celluloid_api_Stop__L0 (x1) (x2) (x3) ((IntKind.wrap .i64 (x4 + (1 : Int))))))
  else none)
  else none)
  else some ([(PV.b true)], [])) := by rw [rW_fix]; generalize cW = C; generalize rW = R; kernel_rfl
/- slices.EqualFunc[[]celluloid/api.Fill,[]celluloid/api.Fill,celluloid/api.Fill,celluloid/api.Fill] -/
noncomputable def S_slices_EqualFunc___celluloid_api_Fill___celluloid_api_Fill_celluloid_api_Fill_celluloid_api_Fill__L0 (x1 : List (List PV)) (x2 : List (List PV)) (x3 : Int) (x4 : Int) : St := mkSt [(1, .v (.sl 151 x1)), (2, .v (.fn 107 [])), (15, .v (.sl 151 x2)), (16, .v (.int .i64 x3)), (17, .v (.int .i64 x4))] [] 1000 32
noncomputable def at_slices_EqualFunc___celluloid_api_Fill___celluloid_api_Fill_celluloid_api_Fill_celluloid_api_Fill__L0 : List Item := (atLoop Tryz.f106 0)
theorem w_slices_EqualFunc___celluloid_api_Fill___celluloid_api_Fill_celluloid_api_Fill_celluloid_api_Fill_ (a1 : List (List PV)) (a2 : List (List PV)) : cW f_slices_EqualFunc___celluloid_api_Fill___celluloid_api_Fill_celluloid_api_Fill_celluloid_api_Fill_ [.l a1, .l a2, (.f f_morph_pair 0)] [] =
  (bif ((((List.length a1) : Nat) : Int) != (((List.length a2) : Nat) : Int)) then some ([(PV.b false)], [])
  else rW f_slices_EqualFunc___celluloid_api_Fill___celluloid_api_Fill_celluloid_api_Fill_celluloid_api_Fill_ [] at_slices_EqualFunc___celluloid_api_Fill___celluloid_api_Fill_celluloid_api_Fill_celluloid_api_Fill__L0 (S_slices_EqualFunc___celluloid_api_Fill___celluloid_api_Fill_celluloid_api_Fill_celluloid_api_Fill__L0 (a2) (a1) ((((List.length a1) : Nat) : Int)) ((0 : Int)))) := by rw [cW_fix]; generalize cW = C; generalize rW = R; kernel_rfl
theorem w_slices_EqualFunc___celluloid_api_Fill___celluloid_api_Fill_celluloid_api_Fill_celluloid_api_Fill__L0 (x1 : List (List PV)) (x2 : List (List PV)) (x3 : Int) (x4 : Int) : rW f_slices_EqualFunc___celluloid_api_Fill___celluloid_api_Fill_celluloid_api_Fill_celluloid_api_Fill_ [] at_slices_EqualFunc___celluloid_api_Fill___celluloid_api_Fill_celluloid_api_Fill_celluloid_api_Fill__L0 (S_slices_EqualFunc___celluloid_api_Fill___celluloid_api_Fill_celluloid_api_Fill_celluloid_api_Fill__L0 x1 x2 x3 x4) =
  (bif (decide (x4 < x3)) then (bif (inB x4 (List.length x2)) then (bif (inB x4 (List.length x1)) then (cW f_morph_pair [(PV.i (((elemAt x2 x4).getD 0 PV.u)).toI), (PV.i (((elemAt x2 x4).getD 1 PV.u)).toI), (PV.i (((elemAt x2 x4).getD 2 PV.u)).toI), (PV.i (((elemAt x2 x4).getD 3 PV.u)).toI), (PV.i (((elemAt x2 x4).getD 4 PV.u)).toI), (PV.i (((elemAt x2 x4).getD 5 PV.u)).toI), (PV.i (((elemAt x2 x4).getD 6 PV.u)).toI), (PV.i (((elemAt x2 x4).getD 7 PV.u)).toI), (PV.i (((elemAt x2 x4).getD 8 PV.u)).toI), (PV.i (((elemAt x2 x4).getD 9 PV.u)).toI), (PV.i (((elemAt x2 x4).getD 10 PV.u)).toI), (PV.i (((elemAt x2 x4).getD 11 PV.u)).toI), (PV.l (((elemAt x2 x4).getD 12 PV.u)).toL), (PV.i (((elemAt x2 x4).getD 13 PV.u)).toI), (PV.i (((elemAt x1 x4).getD 0 PV.u)).toI), (PV.i (((elemAt x1 x4).getD 1 PV.u)).toI), (PV.i (((elemAt x1 x4).getD 2 PV.u)).toI), (PV.i (((elemAt x1 x4).getD 3 PV.u)).toI), (PV.i (((elemAt x1 x4).getD 4 PV.u)).toI), (PV.i (((elemAt x1 x4).getD 5 PV.u)).toI), (PV.i (((elemAt x1 x4).getD 6 PV.u)).toI), (PV.i (((elemAt x1 x4).getD 7 PV.u)).toI), (PV.i (((elemAt x1 x4).getD 8 PV.u)).toI), (PV.i (((elemAt x1 x4).getD 9 PV.u)).toI), (PV.i (((elemAt x1 x4).getD 10 PV.u)).toI), (PV.i (((elemAt x1 x4).getD 11 PV.u)).toI), (PV.l (((elemAt x1 x4).getD 12 PV.u)).toL), (PV.i (((elemAt x1 x4).getD 13 PV.u)).toI)] []).bind fun r1 =>
  (bif (!(((r1).1.getD 0 PV.u)).toB) then some ([(PV.b false)], [])
  else rW f_slices_EqualFunc___celluloid_api_Fill___celluloid_api_Fill_celluloid_api_Fill_celluloid_api_Fill_ [] at_slices_EqualFunc___celluloid_api_Fill___celluloid_api_Fill_celluloid_api_Fill_celluloid_api_Fill__L0 (S_slices_EqualFunc___celluloid_api_Fill___celluloid_api_Fill_celluloid_api_Fill_celluloid_api_Fill__L0 (x1) (x2) (x3) ((IntKind.wrap .i64 (x4 + (1 : Int))))))
  else none)
  else none)
  else some ([(PV.b true)], [])) := by rw [rW_fix]; generalize cW = C; generalize rW = R; kernel_rfl
/- celluloid/style.byteOf -/
theorem w_style_byteOf (a1 : List UInt8) (a2 : Int) (a3 : Int) : cW f_style_byteOf [.s a1, .i a2, .i a3] [] =
  (cW f_bits_PutBytes [(PV.s a1), (PV.i a2), (PV.s (toBytes (List.set [[(PV.i (0 : Int))]] 0 [(PV.i (IntKind.wrap .u8 a3))])))] []).bind fun r1 =>
  some ([(PV.s (((r1).1.getD 0 PV.u)).toS), (PV.i (((r1).1.getD 1 PV.u)).toI)], []) := by rw [cW_fix]; generalize cW = C; generalize rW = R; kernel_rfl
/- slices.ContainsFunc[[]celluloid/api.Stroke,celluloid/api.Stroke] -/
theorem w_slices_ContainsFunc___celluloid_api_Stroke_celluloid_api_Stroke_ (a1 : List (List PV)) : cW f_slices_ContainsFunc___celluloid_api_Stroke_celluloid_api_Stroke_ [.l a1, (.f f_style_Right_2 0)] [] =
  (cW f_slices_IndexFunc___celluloid_api_Stroke_celluloid_api_Stroke_ [(PV.l a1), (PV.f f_style_Right_2 0)] []).bind fun r1 =>
  some ([(PV.b (decide ((((r1).1.getD 0 PV.u)).toI ≥ (0 : Int))))], []) := by rw [cW_fix]; generalize cW = C; generalize rW = R; kernel_rfl
/- slices.IndexFunc[[]celluloid/api.Fill,celluloid/api.Fill] -/
noncomputable def S_slices_IndexFunc___celluloid_api_Fill_celluloid_api_Fill__L0 (x1 : List (List PV)) (x2 : Int) (x3 : Int) : St := mkSt [(0, .v (.sl 151 x1)), (1, .v (.fn 143 [])), (7, .v (.int .i64 x2)), (8, .v (.int .i64 x3))] [] 1000 19
noncomputable def at_slices_IndexFunc___celluloid_api_Fill_celluloid_api_Fill__L0 : List Item := (atLoop Tryz.f171 0)
theorem w_slices_IndexFunc___celluloid_api_Fill_celluloid_api_Fill_ (a1 : List (List PV)) : cW f_slices_IndexFunc___celluloid_api_Fill_celluloid_api_Fill_ [.l a1, (.f f_style_Right_1 0)] [] =
  rW f_slices_IndexFunc___celluloid_api_Fill_celluloid_api_Fill_ [] at_slices_IndexFunc___celluloid_api_Fill_celluloid_api_Fill__L0 (S_slices_IndexFunc___celluloid_api_Fill_celluloid_api_Fill__L0 (a1) ((((List.length a1) : Nat) : Int)) ((0 : Int))) := by rw [cW_fix]; generalize cW = C; generalize rW = R; kernel_rfl
theorem w_slices_IndexFunc___celluloid_api_Fill_celluloid_api_Fill__L0 (x1 : List (List PV)) (x2 : Int) (x3 : Int) : rW f_slices_IndexFunc___celluloid_api_Fill_celluloid_api_Fill_ [] at_slices_IndexFunc___celluloid_api_Fill_celluloid_api_Fill__L0 (S_slices_IndexFunc___celluloid_api_Fill_celluloid_api_Fill__L0 x1 x2 x3) =
  (bif (decide (x3 < x2)) then (bif (inB x3 (List.length x1)) then (cW f_style_Right_1 [(PV.i (((elemAt x1 x3).getD 0 PV.u)).toI), (PV.i (((elemAt x1 x3).getD 1 PV.u)).toI), (PV.i (((elemAt x1 x3).getD 2 PV.u)).toI), (PV.i (((elemAt x1 x3).getD 3 PV.u)).toI), (PV.i (((elemAt x1 x3).getD 4 PV.u)).toI), (PV.i (((elemAt x1 x3).getD 5 PV.u)).toI), (PV.i (((elemAt x1 x3).getD 6 PV.u)).toI), (PV.i (((elemAt x1 x3).getD 7 PV.u)).toI), (PV.i (((elemAt x1 x3).getD 8 PV.u)).toI), (PV.i (((elemAt x1 x3).getD 9 PV.u)).toI), (PV.i (((elemAt x1 x3).getD 10 PV.u)).toI), (PV.i (((elemAt x1 x3).getD 11 PV.u)).toI), (PV.l (((elemAt x1 x3).getD 12 PV.u)).toL), (PV.i (((elemAt x1 x3).getD 13 PV.u)).toI)] []).bind fun r1 =>
  (bif (((r1).1.getD 0 PV.u)).toB then some ([(PV.i x3)], [])
  else rW f_slices_IndexFunc___celluloid_api_Fill_celluloid_api_Fill_ [] at_slices_IndexFunc___celluloid_api_Fill_celluloid_api_Fill__L0 (S_slices_IndexFunc___celluloid_api_Fill_celluloid_api_Fill__L0 (x1) (x2) ((IntKind.wrap .i64 (x3 + (1 : Int))))))
  else none)
  else some ([(PV.i (-1 : Int))], [])) := by rw [rW_fix]; generalize cW = C; generalize rW = R; kernel_rfl
/- slices.Equal[[]celluloid/api.Stroke,celluloid/api.Stroke] -/
noncomputable def S_slices_Equal___celluloid_api_Stroke_celluloid_api_Stroke__L0 (x1 : List (List PV)) (x2 : List (List PV)) (x3 : Int) (x4 : Int) : St := mkSt [(0, .v (.sl 154 x1)), (1, .v (.sl 154 x2)), (12, .v (.int .i64 x3)), (13, .v (.int .i64 x4))] [] 1000 26
noncomputable def at_slices_Equal___celluloid_api_Stroke_celluloid_api_Stroke__L0 : List Item := (atLoop Tryz.f185 0)
theorem w_slices_Equal___celluloid_api_Stroke_celluloid_api_Stroke_ (a1 : List (List PV)) (a2 : List (List PV)) : cW f_slices_Equal___celluloid_api_Stroke_celluloid_api_Stroke_ [.l a1, .l a2] [] =
  (bif ((((List.length a1) : Nat) : Int) != (((List.length a2) : Nat) : Int)) then some ([(PV.b false)], [])
  else rW f_slices_Equal___celluloid_api_Stroke_celluloid_api_Stroke_ [] at_slices_Equal___celluloid_api_Stroke_celluloid_api_Stroke__L0 (S_slices_Equal___celluloid_api_Stroke_celluloid_api_Stroke__L0 (a1) (a2) ((((List.length a1) : Nat) : Int)) ((0 : Int)))) := by rw [cW_fix]; generalize cW = C; generalize rW = R; kernel_rfl
theorem w_slices_Equal___celluloid_api_Stroke_celluloid_api_Stroke__L0 (x1 : List (List PV)) (x2 : List (List PV)) (x3 : Int) (x4 : Int) : rW f_slices_Equal___celluloid_api_Stroke_celluloid_api_Stroke_ [] at_slices_Equal___celluloid_api_Stroke_celluloid_api_Stroke__L0 (S_slices_Equal___celluloid_api_Stroke_celluloid_api_Stroke__L0 x1 x2 x3 x4) =
  (bif (decide (x4 < x3)) then (bif (inB x4 (List.length x1)) then (bif (inB x4 (List.length x2)) then (bif (!(((((elemAt x1 x4).getD 0 PV.u)).toI == (((elemAt x2 x4).getD 0 PV.u)).toI) && (((((elemAt x1 x4).getD 1 PV.u)).toI == (((elemAt x2 x4).getD 1 PV.u)).toI) && (((((elemAt x1 x4).getD 2 PV.u)).toI == (((elemAt x2 x4).getD 2 PV.u)).toI) && (((((elemAt x1 x4).getD 3 PV.u)).toI == (((elemAt x2 x4).getD 3 PV.u)).toI) && ((((elemAt x1 x4).getD 4 PV.u)).toI == (((elemAt x2 x4).getD 4 PV.u)).toI)))))) then some ([(PV.b false)], [])
  else rW f_slices_Equal___celluloid_api_Stroke_celluloid_api_Stroke_ [] at_slices_Equal___celluloid_api_Stroke_celluloid_api_Stroke__L0 (S_slices_Equal___celluloid_api_Stroke_celluloid_api_Stroke__L0 (x1) (x2) (x3) ((IntKind.wrap .i64 (x4 + (1 : Int))))))
  else none)
  else none)
  else some ([(PV.b true)], [])) := by rw [rW_fix]; generalize cW = C; generalize rW = R; kernel_rfl
end Go.AI
