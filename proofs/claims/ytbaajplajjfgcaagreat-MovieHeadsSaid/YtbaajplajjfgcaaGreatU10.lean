/- Equations of the program's functions, on. -/
import Derived.Test.YtbaajplajjfgcaaGreatU09
import Derived.KernelRfl
set_option linter.unusedVariables false
set_option maxRecDepth 100000
namespace Go.AI
open Go Go.Proofs
/- celluloid/morph.Put -/
noncomputable def S_morph_Put_L0 (x1 : List (List PV)) (x2 : Int) (x3 : Int) (x4 : List UInt8) (x5 : Int) (x6 : Int) (x7 : Int) (x8 : Int) (x9 : Int) (x10 : Int) (x11 : Int) (x12 : Int) (x13 : Int) (x14 : Int) (x15 : List (List PV)) (x16 : List (List PV)) (x17 : List (List PV)) (x18 : List (List PV)) (x19 : List (List PV)) (x20 : List (List PV)) (x21 : List UInt8) (x22 : Int) (x23 : List UInt8) (x24 : Int) : St := mkSt [(2, .v (.ptr (.n 1 0 0) 0)), (3, .v (.ptr (.n 1 1 0) 0)), (4, .v (.ptr (.n 1 2 0) 0)), (6, .v (.ptr (.n 6 5 0) 0)), (42, .v (.sl 151 x1)), (43, .v (.int .i64 x2)), (44, .v (.int .i64 x3))] [((.n 1 0 0), .cells 80 [.str x4, .int .i64 x5]), ((.n 1 1 0), .cells 53 [.int .i64 x6, .int .i64 x7, .int .i64 x8, .int .i64 x9, .int .i64 x10, .int .i64 x11, .int .i64 x12, .int .i64 x13, .int .i64 x14, .sl 151 x15, .sl 151 x16, .sl 154 x17, .sl 154 x18, .sl 120 x19, .sl 120 x20]), ((.n 1 2 0), .cells 80 [.str x21, .int .i64 x22]), ((.n 6 5 0), .cells 80 [.str x23, .int .i64 x24])] 1000 138
noncomputable def at_morph_Put_L0 : List Item := (atLoop Tryz.f26 0)
noncomputable def S_morph_Put_L2 (x1 : List (List PV)) (x2 : Int) (x3 : Int) (x4 : List UInt8) (x5 : Int) (x6 : Int) (x7 : Int) (x8 : Int) (x9 : Int) (x10 : Int) (x11 : Int) (x12 : Int) (x13 : Int) (x14 : Int) (x15 : List (List PV)) (x16 : List (List PV)) (x17 : List (List PV)) (x18 : List (List PV)) (x19 : List (List PV)) (x20 : List (List PV)) (x21 : List UInt8) (x22 : Int) (x23 : List UInt8) (x24 : Int) : St := mkSt [(2, .v (.ptr (.n 1 0 0) 0)), (3, .v (.ptr (.n 1 1 0) 0)), (4, .v (.ptr (.n 1 2 0) 0)), (6, .v (.ptr (.n 6 5 0) 0)), (64, .v (.sl 154 x1)), (65, .v (.int .i64 x2)), (66, .v (.int .i64 x3))] [((.n 1 0 0), .cells 80 [.str x4, .int .i64 x5]), ((.n 1 1 0), .cells 53 [.int .i64 x6, .int .i64 x7, .int .i64 x8, .int .i64 x9, .int .i64 x10, .int .i64 x11, .int .i64 x12, .int .i64 x13, .int .i64 x14, .sl 151 x15, .sl 151 x16, .sl 154 x17, .sl 154 x18, .sl 120 x19, .sl 120 x20]), ((.n 1 2 0), .cells 80 [.str x21, .int .i64 x22]), ((.n 6 5 0), .cells 80 [.str x23, .int .i64 x24])] 2000 138
noncomputable def at_morph_Put_L2 : List Item := (atLoop Tryz.f26 2)
theorem w_morph_Put (a1 : List UInt8) (a2 : Int) (a3 : Int) (a4 : Int) (a5 : Int) (a6 : Int) (a7 : Int) (a8 : Int) (a9 : Int) (a10 : Int) (a11 : Int) (a12 : List (List PV)) (a13 : List (List PV)) (a14 : List (List PV)) (a15 : List (List PV)) (a16 : List (List PV)) (a17 : List (List PV)) : cW f_morph_Put [.s a1, .i a2, .i a3, .i a4, .i a5, .i a6, .i a7, .i a8, .i a9, .i a10, .i a11, .l a12, .l a13, .l a14, .l a15, .l a16, .l a17] [] =
  (cW f_morph_Right [(PV.i a3), (PV.i a4), (PV.i a5), (PV.i a6), (PV.i a7), (PV.i a8), (PV.i a9), (PV.i a10), (PV.i a11), (PV.l a12), (PV.l a13), (PV.l a14), (PV.l a15), (PV.l a16), (PV.l a17)] []).bind fun r1 =>
  (bif (!(((r1).1.getD 0 PV.u)).toB) then some ([(PV.s []), (PV.i (0 : Int)), (PV.i (1 : Int))], [])
  else (cW f_bits_PutLittle [(PV.s a1), (PV.i a2), (PV.i a3), (PV.i (2 : Int))] []).bind fun r2 =>
  (cW f_field_PutRect [(PV.s (((r2).1.getD 0 PV.u)).toS), (PV.i (((r2).1.getD 1 PV.u)).toI), (PV.i a4), (PV.i a5), (PV.i a6), (PV.i a7)] []).bind fun r3 =>
  (cW f_field_PutRect [(PV.s (((r3).1.getD 0 PV.u)).toS), (PV.i (((r3).1.getD 1 PV.u)).toI), (PV.i a8), (PV.i a9), (PV.i a10), (PV.i a11)] []).bind fun r4 =>
  (cW f_morph_byteOf [(PV.s []), (PV.i (0 : Int)), (PV.i (((List.length a12) : Nat) : Int))] []).bind fun r5 =>
  rW f_morph_Put [] at_morph_Put_L0 (S_morph_Put_L0 (a12) ((((List.length a12) : Nat) : Int)) ((0 : Int)) ((((r4).1.getD 0 PV.u)).toS) ((((r4).1.getD 1 PV.u)).toI) (a3) (a4) (a5) (a6) (a7) (a8) (a9) (a10) (a11) (a12) (a13) (a14) (a15) (a16) (a17) ([]) ((0 : Int)) ((((r5).1.getD 0 PV.u)).toS) ((((r5).1.getD 1 PV.u)).toI))) := by rw [cW_fix]; generalize cW = C; generalize rW = R; kernel_rfl
theorem w_morph_Put_L0 (x1 : List (List PV)) (x2 : Int) (x3 : Int) (x4 : List UInt8) (x5 : Int) (x6 : Int) (x7 : Int) (x8 : Int) (x9 : Int) (x10 : Int) (x11 : Int) (x12 : Int) (x13 : Int) (x14 : Int) (x15 : List (List PV)) (x16 : List (List PV)) (x17 : List (List PV)) (x18 : List (List PV)) (x19 : List (List PV)) (x20 : List (List PV)) (x21 : List UInt8) (x22 : Int) (x23 : List UInt8) (x24 : Int) : rW f_morph_Put [] at_morph_Put_L0 (S_morph_Put_L0 x1 x2 x3 x4 x5 x6 x7 x8 x9 x10 x11 x12 x13 x14 x15 x16 x17 x18 x19 x20 x21 x22 x23 x24) =
  (bif (decide (x3 < x2)) then (bif (inB x3 (List.length x1)) then (bif (inB x3 (List.length x16)) then (cW f_morph_fill [(PV.s x23), (PV.i x24), (PV.i (((elemAt x1 x3).getD 0 PV.u)).toI), (PV.i (((elemAt x1 x3).getD 1 PV.u)).toI), (PV.i (((elemAt x1 x3).getD 2 PV.u)).toI), (PV.i (((elemAt x1 x3).getD 3 PV.u)).toI), (PV.i (((elemAt x1 x3).getD 4 PV.u)).toI), (PV.i (((elemAt x1 x3).getD 5 PV.u)).toI), (PV.i (((elemAt x1 x3).getD 6 PV.u)).toI), (PV.i (((elemAt x1 x3).getD 7 PV.u)).toI), (PV.i (((elemAt x1 x3).getD 8 PV.u)).toI), (PV.i (((elemAt x1 x3).getD 9 PV.u)).toI), (PV.i (((elemAt x1 x3).getD 10 PV.u)).toI), (PV.i (((elemAt x1 x3).getD 11 PV.u)).toI), (PV.l (((elemAt x1 x3).getD 12 PV.u)).toL), (PV.i (((elemAt x1 x3).getD 13 PV.u)).toI), (PV.i (((elemAt x16 x3).getD 0 PV.u)).toI), (PV.i (((elemAt x16 x3).getD 1 PV.u)).toI), (PV.i (((elemAt x16 x3).getD 2 PV.u)).toI), (PV.i (((elemAt x16 x3).getD 3 PV.u)).toI), (PV.i (((elemAt x16 x3).getD 4 PV.u)).toI), (PV.i (((elemAt x16 x3).getD 5 PV.u)).toI), (PV.i (((elemAt x16 x3).getD 6 PV.u)).toI), (PV.i (((elemAt x16 x3).getD 7 PV.u)).toI), (PV.i (((elemAt x16 x3).getD 8 PV.u)).toI), (PV.i (((elemAt x16 x3).getD 9 PV.u)).toI), (PV.i (((elemAt x16 x3).getD 10 PV.u)).toI), (PV.i (((elemAt x16 x3).getD 11 PV.u)).toI), (PV.l (((elemAt x16 x3).getD 12 PV.u)).toL), (PV.i (((elemAt x16 x3).getD 13 PV.u)).toI)] []).bind fun r6 =>
  rW f_morph_Put [] at_morph_Put_L0 (S_morph_Put_L0 (x1) (x2) ((IntKind.wrap .i64 (x3 + (1 : Int)))) (x4) (x5) (x6) (x7) (x8) (x9) (x10) (x11) (x12) (x13) (x14) (x15) (x16) (x17) (x18) (x19) (x20) (x21) (x22) ((((r6).1.getD 0 PV.u)).toS) ((((r6).1.getD 1 PV.u)).toI))
  else none)
  else none)
  else (cW f_morph_byteOf [(PV.s x23), (PV.i x24), (PV.i (((List.length x17) : Nat) : Int))] []).bind fun r7 =>
  rW f_morph_Put [] at_morph_Put_L2 (S_morph_Put_L2 (x17) ((((List.length x17) : Nat) : Int)) ((0 : Int)) (x4) (x5) (x6) (x7) (x8) (x9) (x10) (x11) (x12) (x13) (x14) (x15) (x16) (x17) (x18) (x19) (x20) (x21) (x22) ((((r7).1.getD 0 PV.u)).toS) ((((r7).1.getD 1 PV.u)).toI))) := by rw [rW_fix]; generalize cW = C; generalize rW = R; kernel_rfl
theorem w_morph_Put_L2 (x1 : List (List PV)) (x2 : Int) (x3 : Int) (x4 : List UInt8) (x5 : Int) (x6 : Int) (x7 : Int) (x8 : Int) (x9 : Int) (x10 : Int) (x11 : Int) (x12 : Int) (x13 : Int) (x14 : Int) (x15 : List (List PV)) (x16 : List (List PV)) (x17 : List (List PV)) (x18 : List (List PV)) (x19 : List (List PV)) (x20 : List (List PV)) (x21 : List UInt8) (x22 : Int) (x23 : List UInt8) (x24 : Int) : rW f_morph_Put [] at_morph_Put_L2 (S_morph_Put_L2 x1 x2 x3 x4 x5 x6 x7 x8 x9 x10 x11 x12 x13 x14 x15 x16 x17 x18 x19 x20 x21 x22 x23 x24) =
  (bif (decide (x3 < x2)) then (bif (inB x3 (List.length x1)) then (cW f_bits_PutLittle [(PV.s x23), (PV.i x24), (PV.i (((elemAt x1 x3).getD 0 PV.u)).toI), (PV.i (2 : Int))] []).bind fun r8 =>
  (bif (inB x3 (List.length x18)) then (cW f_bits_PutLittle [(PV.s (((r8).1.getD 0 PV.u)).toS), (PV.i (((r8).1.getD 1 PV.u)).toI), (PV.i (((elemAt x18 x3).getD 0 PV.u)).toI), (PV.i (2 : Int))] []).bind fun r9 =>
  (cW f_field_PutRGBA [(PV.s (((r9).1.getD 0 PV.u)).toS), (PV.i (((r9).1.getD 1 PV.u)).toI), (PV.i (((elemAt x1 x3).getD 1 PV.u)).toI), (PV.i (((elemAt x1 x3).getD 2 PV.u)).toI), (PV.i (((elemAt x1 x3).getD 3 PV.u)).toI), (PV.i (((elemAt x1 x3).getD 4 PV.u)).toI)] []).bind fun r10 =>
  (bif (inB x3 (List.length x18)) then (cW f_field_PutRGBA [(PV.s (((r10).1.getD 0 PV.u)).toS), (PV.i (((r10).1.getD 1 PV.u)).toI), (PV.i (((elemAt x18 x3).getD 1 PV.u)).toI), (PV.i (((elemAt x18 x3).getD 2 PV.u)).toI), (PV.i (((elemAt x18 x3).getD 3 PV.u)).toI), (PV.i (((elemAt x18 x3).getD 4 PV.u)).toI)] []).bind fun r11 =>
  rW f_morph_Put [] at_morph_Put_L2 (S_morph_Put_L2 (x1) (x2) ((IntKind.wrap .i64 (x3 + (1 : Int)))) (x4) (x5) (x6) (x7) (x8) (x9) (x10) (x11) (x12) (x13) (x14) (x15) (x16) (x17) (x18) (x19) (x20) (x21) (x22) ((((r11).1.getD 0 PV.u)).toS) ((((r11).1.getD 1 PV.u)).toI))
  else none)
  else none)
  else none)
  else (cW f_shape_PutRecords [(PV.s x23), (PV.i x24), (PV.i (((List.length x15) : Nat) : Int)), (PV.i (((List.length x17) : Nat) : Int)), (PV.l x19), (PV.i (1 : Int))] []).bind fun r12 =>
  (cW f_bits_PutLittle [(PV.s x4), (PV.i x5), (PV.i (((List.length (((r12).1.getD 0 PV.u)).toS) : Nat) : Int)), (PV.i (4 : Int))] []).bind fun r13 =>
  (cW f_bits_PutBytes [(PV.s (((r13).1.getD 0 PV.u)).toS), (PV.i (((r13).1.getD 1 PV.u)).toI), (PV.s (((r12).1.getD 0 PV.u)).toS)] []).bind fun r14 =>
  (cW f_shape_PutRecords [(PV.s (((r14).1.getD 0 PV.u)).toS), (PV.i (((r14).1.getD 1 PV.u)).toI), (PV.i (0 : Int)), (PV.i (0 : Int)), (PV.l x20), (PV.i (2 : Int))] []).bind fun r15 =>
  some ([(PV.s (((r15).1.getD 0 PV.u)).toS), (PV.i (((r15).1.getD 1 PV.u)).toI), (PV.i (((r15).1.getD 2 PV.u)).toI)], [])) := by rw [rW_fix]; generalize cW = C; generalize rW = R; kernel_rfl
/- celluloid/morph.pair -/
theorem w_morph_pair (a1 : Int) (a2 : Int) (a3 : Int) (a4 : Int) (a5 : Int) (a6 : Int) (a7 : Int) (a8 : Int) (a9 : Int) (a10 : Int) (a11 : Int) (a12 : Int) (a13 : List (List PV)) (a14 : Int) (a15 : Int) (a16 : Int) (a17 : Int) (a18 : Int) (a19 : Int) (a20 : Int) (a21 : Int) (a22 : Int) (a23 : Int) (a24 : Int) (a25 : Int) (a26 : Int) (a27 : List (List PV)) (a28 : Int) : cW f_morph_pair [.i a1, .i a2, .i a3, .i a4, .i a5, .i a6, .i a7, .i a8, .i a9, .i a10, .i a11, .i a12, .l a13, .i a14, .i a15, .i a16, .i a17, .i a18, .i a19, .i a20, .i a21, .i a22, .i a23, .i a24, .i a25, .i a26, .l a27, .i a28] [] =
  ((bif (a1 == a15) then (bif (a12 == a26) then (bif (a14 == a28) then some [(PV.b ((((List.length a13) : Nat) : Int) == (((List.length a27) : Nat) : Int)))]
   else some [(PV.b false)])
   else some [(PV.b false)])
   else some [(PV.b false)])).bind fun r1 =>
  some ([(PV.b ((r1.getD 0 PV.u)).toB)], []) := by rw [cW_fix]; generalize cW = C; generalize rW = R; kernel_rfl
/- celluloid/morph.Right -/
theorem w_morph_Right (a1 : Int) (a2 : Int) (a3 : Int) (a4 : Int) (a5 : Int) (a6 : Int) (a7 : Int) (a8 : Int) (a9 : Int) (a10 : List (List PV)) (a11 : List (List PV)) (a12 : List (List PV)) (a13 : List (List PV)) (a14 : List (List PV)) (a15 : List (List PV)) : cW f_morph_Right [.i a1, .i a2, .i a3, .i a4, .i a5, .i a6, .i a7, .i a8, .i a9, .l a10, .l a11, .l a12, .l a13, .l a14, .l a15] [] =
  ((bif (decide (a1 ≥ (0 : Int))) then (bif (decide (a1 < (65536 : Int))) then (cW f_field_RightRect [(PV.i a2), (PV.i a3), (PV.i a4), (PV.i a5)] []).bind fun r1 =>
   (bif (((r1).1.getD 0 PV.u)).toB then (cW f_field_RightRect [(PV.i a6), (PV.i a7), (PV.i a8), (PV.i a9)] []).bind fun r2 =>
   (bif (((r2).1.getD 0 PV.u)).toB then (cW f_style_Right [(PV.l a10), (PV.l a12)] []).bind fun r3 =>
   (bif (((r3).1.getD 0 PV.u)).toB then (cW f_style_Right [(PV.l a11), (PV.l a13)] []).bind fun r4 =>
   (bif (((r4).1.getD 0 PV.u)).toB then (cW f_slices_EqualFunc___celluloid_api_Fill___celluloid_api_Fill_celluloid_api_Fill_celluloid_api_Fill_ [(PV.l a10), (PV.l a11), (PV.f f_morph_pair 0)] []).bind fun r5 =>
   (bif (((r5).1.getD 0 PV.u)).toB then (bif ((((List.length a12) : Nat) : Int) == (((List.length a13) : Nat) : Int)) then (cW f_shape_RightRecords [(PV.i (((List.length a10) : Nat) : Int)), (PV.i (((List.length a12) : Nat) : Int)), (PV.l a14), (PV.i (1 : Int))] []).bind fun r6 =>
   (bif (((r6).1.getD 0 PV.u)).toB then (cW f_shape_RightRecords [(PV.i (0 : Int)), (PV.i (0 : Int)), (PV.l a15), (PV.i (2 : Int))] []).bind fun r7 =>
   some [(PV.b (((r7).1.getD 0 PV.u)).toB)]
   else some [(PV.b false)])
   else some [(PV.b false)])
   else some [(PV.b false)])
   else some [(PV.b false)])
   else some [(PV.b false)])
   else some [(PV.b false)])
   else some [(PV.b false)])
   else some [(PV.b false)])
   else some [(PV.b false)])).bind fun r8 =>
  some ([(PV.b ((r8.getD 0 PV.u)).toB)], []) := by rw [cW_fix]; generalize cW = C; generalize rW = R; kernel_rfl
/- celluloid/morph.byteOf -/
theorem w_morph_byteOf (a1 : List UInt8) (a2 : Int) (a3 : Int) : cW f_morph_byteOf [.s a1, .i a2, .i a3] [] =
  (cW f_bits_PutBytes [(PV.s a1), (PV.i a2), (PV.s (toBytes (List.set [[(PV.i (0 : Int))]] 0 [(PV.i (IntKind.wrap .u8 a3))])))] []).bind fun r1 =>
  some ([(PV.s (((r1).1.getD 0 PV.u)).toS), (PV.i (((r1).1.getD 1 PV.u)).toI)], []) := by rw [cW_fix]; generalize cW = C; generalize rW = R; kernel_rfl
/- celluloid/celluloidref10.Small -/
theorem w_celluloidref10_Small (a1 : Int) (a2 : Int) (a3 : Int) (a4 : Int) (a5 : Int) (a6 : Int) (a7 : Int) (a8 : Int) (a9 : Int) (a10 : List (List PV)) (a11 : List (List PV)) (a12 : List (List PV)) (a13 : List (List PV)) (a14 : List (List PV)) (a15 : List (List PV)) : cW f_celluloidref10_Small [.i a1, .i a2, .i a3, .i a4, .i a5, .i a6, .i a7, .i a8, .i a9, .l a10, .l a11, .l a12, .l a13, .l a14, .l a15] [] =
  ((cW f_celluloidref08_Small [(PV.l a10), (PV.l a12)] []).bind fun r1 =>
   (bif (((r1).1.getD 0 PV.u)).toB then (cW f_celluloidref08_Small [(PV.l a11), (PV.l a13)] []).bind fun r2 =>
   (bif (((r2).1.getD 0 PV.u)).toB then (cW f_celluloidref09_Small [(PV.l a14), (PV.i (600 : Int))] []).bind fun r3 =>
   (bif (((r3).1.getD 0 PV.u)).toB then (cW f_celluloidref09_Small [(PV.l a15), (PV.i (600 : Int))] []).bind fun r4 =>
   some [(PV.b (((r4).1.getD 0 PV.u)).toB)]
   else some [(PV.b false)])
   else some [(PV.b false)])
   else some [(PV.b false)])).bind fun r5 =>
  some ([(PV.b ((r5.getD 0 PV.u)).toB)], []) := by rw [cW_fix]; generalize cW = C; generalize rW = R; kernel_rfl
/- celluloid/morph.fill -/
noncomputable def S_morph_fill_L0 (x1 : List (List PV)) (x2 : Int) (x3 : Int) (x4 : List UInt8) (x5 : Int) (x6 : Int) (x7 : Int) (x8 : Int) (x9 : Int) (x10 : Int) (x11 : Int) (x12 : Int) (x13 : Int) (x14 : Int) (x15 : Int) (x16 : Int) (x17 : Int) (x18 : List (List PV)) (x19 : Int) (x20 : List UInt8) (x21 : Int) : St := mkSt [(3, .v (.ptr (.n 1 0 0) 0)), (5, .v (.ptr (.n 1 2 0) 0)), (6, .v (.ptr (.n 1 3 0) 0)), (74, .v (.sl 230 x1)), (75, .v (.int .i64 x2)), (76, .v (.int .i64 x3))] [((.n 1 0 0), .cells 80 [.str x4, .int .i64 x5]), ((.n 1 2 0), .cells 151 [.int .i64 x6, .int .i64 x7, .int .i64 x8, .int .i64 x9, .int .i64 x10, .int .i64 x11, .int .i64 x12, .int .i64 x13, .int .i64 x14, .int .i64 x15, .int .i64 x16, .int .i64 x17, .sl 230 x18, .int .i64 x19]), ((.n 1 3 0), .cells 80 [.str x20, .int .i64 x21])] 1000 111
noncomputable def at_morph_fill_L0 : List Item := (atLoop Tryz.f63 0)
theorem w_morph_fill (a1 : List UInt8) (a2 : Int) (a3 : Int) (a4 : Int) (a5 : Int) (a6 : Int) (a7 : Int) (a8 : Int) (a9 : Int) (a10 : Int) (a11 : Int) (a12 : Int) (a13 : Int) (a14 : Int) (a15 : List (List PV)) (a16 : Int) (a17 : Int) (a18 : Int) (a19 : Int) (a20 : Int) (a21 : Int) (a22 : Int) (a23 : Int) (a24 : Int) (a25 : Int) (a26 : Int) (a27 : Int) (a28 : Int) (a29 : List (List PV)) (a30 : Int) : cW f_morph_fill [.s a1, .i a2, .i a3, .i a4, .i a5, .i a6, .i a7, .i a8, .i a9, .i a10, .i a11, .i a12, .i a13, .i a14, .l a15, .i a16, .i a17, .i a18, .i a19, .i a20, .i a21, .i a22, .i a23, .i a24, .i a25, .i a26, .i a27, .i a28, .l a29, .i a30] [] =
  (cW f_morph_byteOf [(PV.s a1), (PV.i a2), (PV.i a3)] []).bind fun r1 =>
  (bif (a3 == (0 : Int)) then (cW f_field_PutRGBA [(PV.s (((r1).1.getD 0 PV.u)).toS), (PV.i (((r1).1.getD 1 PV.u)).toI), (PV.i a4), (PV.i a5), (PV.i a6), (PV.i a7)] []).bind fun r2 =>
  (cW f_field_PutRGBA [(PV.s (((r2).1.getD 0 PV.u)).toS), (PV.i (((r2).1.getD 1 PV.u)).toI), (PV.i a18), (PV.i a19), (PV.i a20), (PV.i a21)] []).bind fun r3 =>
  some ([(PV.s (((r3).1.getD 0 PV.u)).toS), (PV.i (((r3).1.getD 1 PV.u)).toI)], [])
  else ((bif (a3 == (64 : Int)) then some [(PV.b true)]
   else some [(PV.b (a3 == (65 : Int)))])).bind fun r4 =>
  (bif ((r4.getD 0 PV.u)).toB then (cW f_bits_PutLittle [(PV.s (((r1).1.getD 0 PV.u)).toS), (PV.i (((r1).1.getD 1 PV.u)).toI), (PV.i a16), (PV.i (2 : Int))] []).bind fun r5 =>
  (cW f_field_PutMatrix [(PV.s (((r5).1.getD 0 PV.u)).toS), (PV.i (((r5).1.getD 1 PV.u)).toI), (PV.i a8), (PV.i a9), (PV.i a10), (PV.i a11), (PV.i a12), (PV.i a13)] []).bind fun r6 =>
  (cW f_field_PutMatrix [(PV.s (((r6).1.getD 0 PV.u)).toS), (PV.i (((r6).1.getD 1 PV.u)).toI), (PV.i a22), (PV.i a23), (PV.i a24), (PV.i a25), (PV.i a26), (PV.i a27)] []).bind fun r7 =>
  (bif ((r4.getD 0 PV.u)).toB then some ([(PV.s (((r7).1.getD 0 PV.u)).toS), (PV.i (((r7).1.getD 1 PV.u)).toI)], [])
  else (cW f_morph_byteOf [(PV.s (((r7).1.getD 0 PV.u)).toS), (PV.i (((r7).1.getD 1 PV.u)).toI), (PV.i (IntKind.wrap .i64 ((IntKind.wrap .i64 (a14 * (64 : Int))) + (((List.length a15) : Nat) : Int))))] []).bind fun r8 =>
  rW f_morph_fill [] at_morph_fill_L0 (S_morph_fill_L0 (a15) ((((List.length a15) : Nat) : Int)) ((0 : Int)) ((((r8).1.getD 0 PV.u)).toS) ((((r8).1.getD 1 PV.u)).toI) (a17) (a18) (a19) (a20) (a21) (a22) (a23) (a24) (a25) (a26) (a27) (a28) (a29) (a30) ([]) ((0 : Int))))
  else (cW f_field_PutMatrix [(PV.s (((r1).1.getD 0 PV.u)).toS), (PV.i (((r1).1.getD 1 PV.u)).toI), (PV.i a8), (PV.i a9), (PV.i a10), (PV.i a11), (PV.i a12), (PV.i a13)] []).bind fun r9 =>
  (cW f_field_PutMatrix [(PV.s (((r9).1.getD 0 PV.u)).toS), (PV.i (((r9).1.getD 1 PV.u)).toI), (PV.i a22), (PV.i a23), (PV.i a24), (PV.i a25), (PV.i a26), (PV.i a27)] []).bind fun r10 =>
  (bif ((r4.getD 0 PV.u)).toB then some ([(PV.s (((r10).1.getD 0 PV.u)).toS), (PV.i (((r10).1.getD 1 PV.u)).toI)], [])
  else (cW f_morph_byteOf [(PV.s (((r10).1.getD 0 PV.u)).toS), (PV.i (((r10).1.getD 1 PV.u)).toI), (PV.i (IntKind.wrap .i64 ((IntKind.wrap .i64 (a14 * (64 : Int))) + (((List.length a15) : Nat) : Int))))] []).bind fun r11 =>
  rW f_morph_fill [] at_morph_fill_L0 (S_morph_fill_L0 (a15) ((((List.length a15) : Nat) : Int)) ((0 : Int)) ((((r11).1.getD 0 PV.u)).toS) ((((r11).1.getD 1 PV.u)).toI) (a17) (a18) (a19) (a20) (a21) (a22) (a23) (a24) (a25) (a26) (a27) (a28) (a29) (a30) ([]) ((0 : Int)))))) := by rw [cW_fix]; generalize cW = C; generalize rW = R; kernel_rfl
theorem w_morph_fill_L0 (x1 : List (List PV)) (x2 : Int) (x3 : Int) (x4 : List UInt8) (x5 : Int) (x6 : Int) (x7 : Int) (x8 : Int) (x9 : Int) (x10 : Int) (x11 : Int) (x12 : Int) (x13 : Int) (x14 : Int) (x15 : Int) (x16 : Int) (x17 : Int) (x18 : List (List PV)) (x19 : Int) (x20 : List UInt8) (x21 : Int) : rW f_morph_fill [] at_morph_fill_L0 (S_morph_fill_L0 x1 x2 x3 x4 x5 x6 x7 x8 x9 x10 x11 x12 x13 x14 x15 x16 x17 x18 x19 x20 x21) =
  (bif (decide (x3 < x2)) then (bif (inB x3 (List.length x1)) then (cW f_morph_byteOf [(PV.s x4), (PV.i x5), (PV.i (((elemAt x1 x3).getD 0 PV.u)).toI)] []).bind fun r12 =>
  (cW f_field_PutRGBA [(PV.s (((r12).1.getD 0 PV.u)).toS), (PV.i (((r12).1.getD 1 PV.u)).toI), (PV.i (((elemAt x1 x3).getD 1 PV.u)).toI), (PV.i (((elemAt x1 x3).getD 2 PV.u)).toI), (PV.i (((elemAt x1 x3).getD 3 PV.u)).toI), (PV.i (((elemAt x1 x3).getD 4 PV.u)).toI)] []).bind fun r13 =>
  (bif (inB x3 (List.length x18)) then (cW f_morph_byteOf [(PV.s (((r13).1.getD 0 PV.u)).toS), (PV.i (((r13).1.getD 1 PV.u)).toI), (PV.i (((elemAt x18 x3).getD 0 PV.u)).toI)] []).bind fun r14 =>
  (bif (inB x3 (List.length x18)) then (cW f_field_PutRGBA [(PV.s (((r14).1.getD 0 PV.u)).toS), (PV.i (((r14).1.getD 1 PV.u)).toI), (PV.i (((elemAt x18 x3).getD 1 PV.u)).toI), (PV.i (((elemAt x18 x3).getD 2 PV.u)).toI), (PV.i (((elemAt x18 x3).getD 3 PV.u)).toI), (PV.i (((elemAt x18 x3).getD 4 PV.u)).toI)] []).bind fun r15 =>
  rW f_morph_fill [] at_morph_fill_L0 (S_morph_fill_L0 (x1) (x2) ((IntKind.wrap .i64 (x3 + (1 : Int)))) ((((r15).1.getD 0 PV.u)).toS) ((((r15).1.getD 1 PV.u)).toI) (x6) (x7) (x8) (x9) (x10) (x11) (x12) (x13) (x14) (x15) (x16) (x17) (x18) (x19) (x20) (x21))
  else none)
  else none)
  else none)
  else some ([(PV.s x4), (PV.i x5)], [])) := by rw [rW_fix]; generalize cW = C; generalize rW = R; kernel_rfl
end Go.AI
