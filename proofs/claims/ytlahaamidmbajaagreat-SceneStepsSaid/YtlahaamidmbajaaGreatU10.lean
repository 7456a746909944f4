/- Equations of the program's functions, on. -/
import Derived.Test.YtlahaamidmbajaaGreatU09
import Derived.KernelRfl
set_option linter.unusedVariables false
set_option maxRecDepth 100000
namespace Go.AI
open Go Go.Proofs
/- celluloid/celluloidref10.Right -/
noncomputable def S_celluloidref10_Right_L0 (x1 : Int) (x2 : Int) (x3 : Int) (x4 : Int) (x5 : Int) (x6 : Int) (x7 : Int) (x8 : Int) (x9 : Int) (x10 : Int) (x11 : List (List PV)) (x12 : List (List PV)) (x13 : List (List PV)) (x14 : List (List PV)) (x15 : List (List PV)) (x16 : List (List PV)) : St := mkSt [(1, .v (.ptr (.n 1 0 0) 0)), (3, .v (.int .i64 x1))] [((.n 1 0 0), .cells 91 [.int .i64 x2, .int .i64 x3, .int .i64 x4, .int .i64 x5, .int .i64 x6, .int .i64 x7, .int .i64 x8, .int .i64 x9, .int .i64 x10, .sl 169 x11, .sl 169 x12, .sl 173 x13, .sl 173 x14, .sl 176 x15, .sl 176 x16])] 1000 119
noncomputable def at_celluloidref10_Right_L0 : List Item := (atLoop Tryz.f52 0)
theorem w_celluloidref10_Right (a1 : Int) (a2 : Int) (a3 : Int) (a4 : Int) (a5 : Int) (a6 : Int) (a7 : Int) (a8 : Int) (a9 : Int) (a10 : List (List PV)) (a11 : List (List PV)) (a12 : List (List PV)) (a13 : List (List PV)) (a14 : List (List PV)) (a15 : List (List PV)) : cW f_celluloidref10_Right [.i a1, .i a2, .i a3, .i a4, .i a5, .i a6, .i a7, .i a8, .i a9, .l a10, .l a11, .l a12, .l a13, .l a14, .l a15] [] =
  ((bif (decide (a1 < (0 : Int))) then some [(PV.b true)]
   else (bif (decide (a1 > (65535 : Int))) then some [(PV.b true)]
   else (cW f_celluloidref07_Rect [(PV.i a2), (PV.i a3), (PV.i a4), (PV.i a5)] []).bind fun r1 =>
   (bif (!(((r1).1.getD 0 PV.u)).toB) then some [(PV.b true)]
   else (cW f_celluloidref07_Rect [(PV.i a6), (PV.i a7), (PV.i a8), (PV.i a9)] []).bind fun r2 =>
   (bif (!(((r2).1.getD 0 PV.u)).toB) then some [(PV.b true)]
   else (bif ((((List.length a10) : Nat) : Int) != (((List.length a11) : Nat) : Int)) then some [(PV.b true)]
   else some [(PV.b ((((List.length a12) : Nat) : Int) != (((List.length a13) : Nat) : Int)))])))))).bind fun r3 =>
  (bif ((r3.getD 0 PV.u)).toB then some ([(PV.b false)], [])
  else rW f_celluloidref10_Right [] at_celluloidref10_Right_L0 (S_celluloidref10_Right_L0 ((0 : Int)) (a1) (a2) (a3) (a4) (a5) (a6) (a7) (a8) (a9) (a10) (a11) (a12) (a13) (a14) (a15))) := by rw [cW_fix]; generalize cW = C; generalize rW = R; kernel_rfl
theorem w_celluloidref10_Right_L0 (x1 : Int) (x2 : Int) (x3 : Int) (x4 : Int) (x5 : Int) (x6 : Int) (x7 : Int) (x8 : Int) (x9 : Int) (x10 : Int) (x11 : List (List PV)) (x12 : List (List PV)) (x13 : List (List PV)) (x14 : List (List PV)) (x15 : List (List PV)) (x16 : List (List PV)) : rW f_celluloidref10_Right [] at_celluloidref10_Right_L0 (S_celluloidref10_Right_L0 x1 x2 x3 x4 x5 x6 x7 x8 x9 x10 x11 x12 x13 x14 x15 x16) =
  (bif (decide (x1 < (((List.length x11) : Nat) : Int))) then (bif (inB x1 (List.length x11)) then (bif (inB x1 (List.length x12)) then ((bif ((((elemAt x11 x1).getD 0 PV.u)).toI != (((elemAt x12 x1).getD 0 PV.u)).toI) then some [(PV.b true)]
   else (bif ((((elemAt x11 x1).getD 11 PV.u)).toI != (((elemAt x12 x1).getD 11 PV.u)).toI) then some [(PV.b true)]
   else (bif ((((elemAt x11 x1).getD 13 PV.u)).toI != (((elemAt x12 x1).getD 13 PV.u)).toI) then some [(PV.b true)]
   else some [(PV.b ((((List.length (((elemAt x11 x1).getD 12 PV.u)).toL) : Nat) : Int) != (((List.length (((elemAt x12 x1).getD 12 PV.u)).toL) : Nat) : Int)))])))).bind fun r4 =>
  (bif ((r4.getD 0 PV.u)).toB then some ([(PV.b false)], [])
  else rW f_celluloidref10_Right [] at_celluloidref10_Right_L0 (S_celluloidref10_Right_L0 ((IntKind.wrap .i64 (x1 + (1 : Int)))) (x2) (x3) (x4) (x5) (x6) (x7) (x8) (x9) (x10) (x11) (x12) (x13) (x14) (x15) (x16)))
  else none)
  else none)
  else ((cW f_celluloidref08_Right [(PV.l x11), (PV.l x13)] []).bind fun r5 =>
   (bif (((r5).1.getD 0 PV.u)).toB then (cW f_celluloidref08_Right [(PV.l x12), (PV.l x14)] []).bind fun r6 =>
   some [(PV.b (((r6).1.getD 0 PV.u)).toB)]
   else some [(PV.b false)])).bind fun r7 =>
  ((bif ((r7.getD 0 PV.u)).toB then (cW f_celluloidref09_Records [(PV.i (((List.length x11) : Nat) : Int)), (PV.i (((List.length x13) : Nat) : Int)), (PV.l x15), (PV.i (1 : Int))] []).bind fun r8 =>
   (bif (((r8).1.getD 0 PV.u)).toB then (cW f_celluloidref09_Records [(PV.i (0 : Int)), (PV.i (0 : Int)), (PV.l x16), (PV.i (2 : Int))] []).bind fun r9 =>
   some [(PV.b (((r9).1.getD 0 PV.u)).toB)]
   else some [(PV.b false)])
   else some [(PV.b false)])).bind fun r10 =>
  some ([(PV.b ((r10.getD 0 PV.u)).toB)], [])) := by rw [rW_fix]; generalize cW = C; generalize rW = R; kernel_rfl
/- celluloid/morph.pair -/
/- celluloid/celluloidref10.Small -/
theorem w_celluloidref10_Small (a1 : Int) (a2 : Int) (a3 : Int) (a4 : Int) (a5 : Int) (a6 : Int) (a7 : Int) (a8 : Int) (a9 : Int) (a10 : List (List PV)) (a11 : List (List PV)) (a12 : List (List PV)) (a13 : List (List PV)) (a14 : List (List PV)) (a15 : List (List PV)) : cW f_celluloidref10_Small [.i a1, .i a2, .i a3, .i a4, .i a5, .i a6, .i a7, .i a8, .i a9, .l a10, .l a11, .l a12, .l a13, .l a14, .l a15] [] =
  ((cW f_celluloidref08_Small [(PV.l a10), (PV.l a12)] []).bind fun r1 =>
   (bif (((r1).1.getD 0 PV.u)).toB then (cW f_celluloidref08_Small [(PV.l a11), (PV.l a13)] []).bind fun r2 =>
   (bif (((r2).1.getD 0 PV.u)).toB then (cW f_celluloidref09_Small [(PV.l a14), (PV.i (600 : Int))] []).bind fun r3 =>
   (bif (((r3).1.getD 0 PV.u)).toB then (cW f_celluloidref09_Small [(PV.l a15), (PV.i (600 : Int))] []).bind fun r4 =>
   some [(PV.b (((r4).1.getD 0 PV.u)).toB)]
   else some [(PV.b false)])
   else some [(PV.b false)])
   else some [(PV.b false)])).bind fun r5 =>
  some ([(PV.b ((r5.getD 0 PV.u)).toB)], []) := by rw [cW_fix]; generalize cW = C; generalize rW = R; kernel_rfl
/- celluloid/celluloidref10.Equal -/
theorem w_celluloidref10_Equal (a1 : Int) (a2 : Int) (a3 : Int) (a4 : Int) (a5 : Int) (a6 : Int) (a7 : Int) (a8 : Int) (a9 : Int) (a10 : List (List PV)) (a11 : List (List PV)) (a12 : List (List PV)) (a13 : List (List PV)) (a14 : List (List PV)) (a15 : List (List PV)) (a16 : Int) (a17 : Int) (a18 : Int) (a19 : Int) (a20 : Int) (a21 : Int) (a22 : Int) (a23 : Int) (a24 : Int) (a25 : List (List PV)) (a26 : List (List PV)) (a27 : List (List PV)) (a28 : List (List PV)) (a29 : List (List PV)) (a30 : List (List PV)) : cW f_celluloidref10_Equal [.i a1, .i a2, .i a3, .i a4, .i a5, .i a6, .i a7, .i a8, .i a9, .l a10, .l a11, .l a12, .l a13, .l a14, .l a15, .i a16, .i a17, .i a18, .i a19, .i a20, .i a21, .i a22, .i a23, .i a24, .l a25, .l a26, .l a27, .l a28, .l a29, .l a30] [] =
  ((cW f_celluloidref08_SameLists [(PV.l a10), (PV.l a25), (PV.l a12), (PV.l a27)] []).bind fun r1 =>
   (bif (((r1).1.getD 0 PV.u)).toB then (cW f_celluloidref08_SameLists [(PV.l a11), (PV.l a26), (PV.l a13), (PV.l a28)] []).bind fun r2 =>
   some [(PV.b (((r2).1.getD 0 PV.u)).toB)]
   else some [(PV.b false)])).bind fun r3 =>
  ((bif (a1 == a16) then (bif ((a2 == a17) && ((a3 == a18) && ((a4 == a19) && (a5 == a20)))) then (bif ((a6 == a21) && ((a7 == a22) && ((a8 == a23) && (a9 == a24)))) then (bif ((r3.getD 0 PV.u)).toB then (cW f_celluloidref09_Same [(PV.l a14), (PV.l a29)] []).bind fun r4 =>
   (bif (((r4).1.getD 0 PV.u)).toB then (cW f_celluloidref09_Same [(PV.l a15), (PV.l a30)] []).bind fun r5 =>
   some [(PV.b (((r5).1.getD 0 PV.u)).toB)]
   else some [(PV.b false)])
   else some [(PV.b false)])
   else some [(PV.b false)])
   else some [(PV.b false)])
   else some [(PV.b false)])).bind fun r6 =>
  some ([(PV.b ((r6.getD 0 PV.u)).toB)], []) := by rw [cW_fix]; generalize cW = C; generalize rW = R; kernel_rfl
end Go.AI
