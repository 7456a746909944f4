/- Equations of the program's functions, on. -/
import Derived.Test.YtbaajplajjfgcaaGreatT23m
import Derived.KernelRfl
set_option linter.unusedVariables false
set_option maxRecDepth 100000
namespace Go.AI
open Go Go.Proofs
/- celluloid/celluloidlaw13.MovieHeads -/
theorem w_celluloidlaw13_MovieHeads (a1 : Bool) (a2 : Int) (a3 : Int) (a4 : Int) (a5 : Int) (a6 : Int) (a7 : Int) (a8 : Int) (a9 : List (List PV)) : cM f_celluloidlaw13_MovieHeads [.b a1, .i a2, .i a3, .i a4, .i a5, .i a6, .i a7, .i a8, .l a9] [] =
  (cM f_celluloidlaw13_mref [(PV.b a1), (PV.i a2), (PV.i a3), (PV.i a4), (PV.i a5), (PV.i a6), (PV.i a7), (PV.i a8), (PV.l a9)] []).bind fun r1 =>
  (bif (!(((r1).1.getD 9 PV.u)).toB) then (cM f_celluloidlaw13_awake [] []).bind fun r2 =>
  some ([(PV.b (((r2).1.getD 0 PV.u)).toB)], [])
  else (cM f_movie_Encode [(PV.b a1), (PV.i a2), (PV.i a3), (PV.i a4), (PV.i a5), (PV.i a6), (PV.i a7), (PV.i a8), (PV.l a9)] []).bind fun r3 =>
  (cM f_movie_Encode [(PV.b false), (PV.i a2), (PV.i a3), (PV.i a4), (PV.i a5), (PV.i a6), (PV.i a7), (PV.i a8), (PV.l a9)] []).bind fun r4 =>
  (bif ((((r3).1.getD 1 PV.u)).toI != (0 : Int)) then ((bif ((((r4).1.getD 1 PV.u)).toI == (((r3).1.getD 1 PV.u)).toI) then (cM f_celluloidlaw13_awake [] []).bind fun r5 =>
   some [(PV.b (((r5).1.getD 0 PV.u)).toB)]
   else some [(PV.b false)])).bind fun r6 =>
  some ([(PV.b ((r6.getD 0 PV.u)).toB)], [])
  else ((bif ((((r4).1.getD 1 PV.u)).toI != (0 : Int)) then some [(PV.b true)]
   else (bif (decide ((((List.length (((r3).1.getD 0 PV.u)).toS) : Nat) : Int) < (8 : Int))) then some [(PV.b true)]
   else some [(PV.b (decide ((((List.length (((r4).1.getD 0 PV.u)).toS) : Nat) : Int) < (8 : Int))))]))).bind fun r7 =>
  (bif ((r7.getD 0 PV.u)).toB then some ([(PV.b false)], [])
  else (bif (inB (4 : Int) (List.length (((r3).1.getD 0 PV.u)).toS)) then (bif (inB (5 : Int) (List.length (((r3).1.getD 0 PV.u)).toS)) then (bif (inB (6 : Int) (List.length (((r3).1.getD 0 PV.u)).toS)) then (bif (inB (7 : Int) (List.length (((r3).1.getD 0 PV.u)).toS)) then (bif (inB (0 : Int) (List.length (((r3).1.getD 0 PV.u)).toS)) then (bif (((bt (((r3).1.getD 0 PV.u)).toS (0 : Int)) == (67 : Int)) == a1) then (bif (inB (0 : Int) (List.length (((r3).1.getD 0 PV.u)).toS)) then (bif ((bt (((r3).1.getD 0 PV.u)).toS (0 : Int)) == (67 : Int)) then (bif (okB (1 : Int) (3 : Int) (List.length (((r3).1.getD 0 PV.u)).toS)) then (bif ((cutL (1 : Int) (3 : Int) (((r3).1.getD 0 PV.u)).toS) == [87, 83]) then (bif (inB (3 : Int) (List.length (((r3).1.getD 0 PV.u)).toS)) then (bif ((IntKind.wrap .i64 (bt (((r3).1.getD 0 PV.u)).toS (3 : Int))) == a2) then (bif ((bitsOp Go.BinOp.or .i64 (bitsOp Go.BinOp.or .i64 (bitsOp Go.BinOp.or .i64 (IntKind.wrap .i64 (bt (((r3).1.getD 0 PV.u)).toS (4 : Int))) (shl .i64 (IntKind.wrap .i64 (bt (((r3).1.getD 0 PV.u)).toS (5 : Int))) (8 : Int))) (shl .i64 (IntKind.wrap .i64 (bt (((r3).1.getD 0 PV.u)).toS (6 : Int))) (16 : Int))) (shl .i64 (IntKind.wrap .i64 (bt (((r3).1.getD 0 PV.u)).toS (7 : Int))) (24 : Int))) == (((List.length (((r4).1.getD 0 PV.u)).toS) : Nat) : Int)) then (cM f_celluloidlaw13_awake [] []).bind fun r9 =>
  some ([(PV.b (((r9).1.getD 0 PV.u)).toB)], [])
  else some ([(PV.b false)], []))
  else some ([(PV.b false)], []))
  else none)
  else some ([(PV.b false)], []))
  else none)
  else (bif (inB (0 : Int) (List.length (((r3).1.getD 0 PV.u)).toS)) then (bif ((bt (((r3).1.getD 0 PV.u)).toS (0 : Int)) == (70 : Int)) then (bif (okB (1 : Int) (3 : Int) (List.length (((r3).1.getD 0 PV.u)).toS)) then (bif ((cutL (1 : Int) (3 : Int) (((r3).1.getD 0 PV.u)).toS) == [87, 83]) then (bif (inB (3 : Int) (List.length (((r3).1.getD 0 PV.u)).toS)) then (bif ((IntKind.wrap .i64 (bt (((r3).1.getD 0 PV.u)).toS (3 : Int))) == a2) then (bif ((bitsOp Go.BinOp.or .i64 (bitsOp Go.BinOp.or .i64 (bitsOp Go.BinOp.or .i64 (IntKind.wrap .i64 (bt (((r3).1.getD 0 PV.u)).toS (4 : Int))) (shl .i64 (IntKind.wrap .i64 (bt (((r3).1.getD 0 PV.u)).toS (5 : Int))) (8 : Int))) (shl .i64 (IntKind.wrap .i64 (bt (((r3).1.getD 0 PV.u)).toS (6 : Int))) (16 : Int))) (shl .i64 (IntKind.wrap .i64 (bt (((r3).1.getD 0 PV.u)).toS (7 : Int))) (24 : Int))) == (((List.length (((r4).1.getD 0 PV.u)).toS) : Nat) : Int)) then (cM f_celluloidlaw13_awake [] []).bind fun r8 =>
  some ([(PV.b (((r8).1.getD 0 PV.u)).toB)], [])
  else some ([(PV.b false)], []))
  else some ([(PV.b false)], []))
  else none)
  else some ([(PV.b false)], []))
  else none)
  else some ([(PV.b false)], []))
  else none))
  else none)
  else some ([(PV.b false)], []))
  else none)
  else none)
  else none)
  else none)
  else none)))) := by rw [cM_fix]; generalize cM = C; generalize rM = R; kernel_rfl
/- celluloid/celluloidlaw13.awake -/
theorem w_celluloidlaw13_awake  : cM f_celluloidlaw13_awake [] [] =
  (cM f_movie_Encode [(PV.b false), (PV.i (0 : Int)), (PV.i (0 : Int)), (PV.i (0 : Int)), (PV.i (0 : Int)), (PV.i (0 : Int)), (PV.i (0 : Int)), (PV.i (0 : Int)), (PV.l [])] []).bind fun r1 =>
  (cM f_movie_Decode [(PV.s (((r1).1.getD 0 PV.u)).toS)] []).bind fun r2 =>
  (cM f_movie_PutTag [(PV.i (28 : Int)), (PV.i (3 : Int)), (PV.i (0 : Int)), (PV.i (0 : Int)), (PV.i (0 : Int)), (PV.i (0 : Int)), (PV.i (0 : Int)), (PV.i (0 : Int)), (PV.i (0 : Int)), (PV.i (0 : Int)), (PV.i (0 : Int)), (PV.i (0 : Int)), (PV.i (0 : Int)), (PV.i (0 : Int)), (PV.i (0 : Int)), (PV.i (0 : Int)), (PV.i (0 : Int)), (PV.i (0 : Int)), (PV.i (0 : Int)), (PV.i (0 : Int)), (PV.i (0 : Int)), (PV.i (0 : Int)), (PV.i (0 : Int)), (PV.i (0 : Int)), (PV.i (0 : Int)), (PV.i (0 : Int)), (PV.i (0 : Int)), (PV.i (0 : Int)), (PV.i (0 : Int)), (PV.i (0 : Int)), (PV.l []), (PV.l []), (PV.l []), (PV.i (0 : Int)), (PV.i (0 : Int)), (PV.i (0 : Int)), (PV.i (0 : Int)), (PV.i (0 : Int)), (PV.i (0 : Int)), (PV.i (0 : Int)), (PV.i (0 : Int)), (PV.i (0 : Int)), (PV.l []), (PV.l []), (PV.l []), (PV.l []), (PV.l []), (PV.l []), (PV.i (0 : Int)), (PV.i (0 : Int)), (PV.i (0 : Int)), (PV.l []), (PV.i (0 : Int)), (PV.i (0 : Int)), (PV.l [])] []).bind fun r3 =>
  ((bif ((((r1).1.getD 0 PV.u)).toS == [70, 87, 83, 0, 15, 0, 0, 0, 0, 0, 0, 0, 0, 0, 0]) then (bif ((((r1).1.getD 1 PV.u)).toI == (0 : Int)) then (bif ((((List.length (((r2).1.getD 8 PV.u)).toL) : Nat) : Int) == (0 : Int)) then (bif ((((r2).1.getD 9 PV.u)).toI == (0 : Int)) then (bif (((((r3).1.getD 0 PV.u)).toI == (28 : Int)) && ((((r3).1.getD 1 PV.u)).toS == [3, 0])) then some [(PV.b ((((r3).1.getD 2 PV.u)).toI == (0 : Int)))]
   else some [(PV.b false)])
   else some [(PV.b false)])
   else some [(PV.b false)])
   else some [(PV.b false)])
   else some [(PV.b false)])).bind fun r4 =>
  some ([(PV.b ((r4.getD 0 PV.u)).toB)], []) := by rw [cM_fix]; generalize cM = C; generalize rM = R; kernel_rfl
end Go.AI
