/- Equations of the program's functions, on. -/
import Derived.Test.YtbaajplajjfgcaaGreatU10
import Derived.KernelRfl
set_option linter.unusedVariables false
set_option maxRecDepth 100000
namespace Go.AI
open Go Go.Proofs
/- (*celluloid/deflate.writer).symbol -/
theorem w___celluloid_deflate_writer__symbol (a2 : Int) (p0_1 : List (List PV)) (p0_2 : Int) : cW f___celluloid_deflate_writer__symbol [.u, .i a2] [(t_deflate_writer, [.l p0_1, .i p0_2])] =
  (bif (decide (a2 < (144 : Int))) then (cW f___celluloid_deflate_writer__code [PV.u, (PV.i (IntKind.wrap .i64 ((48 : Int) + a2))), (PV.i (8 : Int))] [(t_deflate_writer, [(PV.l p0_1), (PV.i p0_2)])]).bind fun r1 =>
  some ([], [(t_deflate_writer, [(PV.l (((((r1).2.getD 0 (0, []))).2.getD 0 PV.u)).toL), (PV.i (((((r1).2.getD 0 (0, []))).2.getD 1 PV.u)).toI)])])
  else (bif (decide (a2 < (256 : Int))) then (cW f___celluloid_deflate_writer__code [PV.u, (PV.i (IntKind.wrap .i64 ((IntKind.wrap .i64 ((400 : Int) + a2)) - (144 : Int)))), (PV.i (9 : Int))] [(t_deflate_writer, [(PV.l p0_1), (PV.i p0_2)])]).bind fun r2 =>
  some ([], [(t_deflate_writer, [(PV.l (((((r2).2.getD 0 (0, []))).2.getD 0 PV.u)).toL), (PV.i (((((r2).2.getD 0 (0, []))).2.getD 1 PV.u)).toI)])])
  else (bif (decide (a2 < (280 : Int))) then (cW f___celluloid_deflate_writer__code [PV.u, (PV.i (IntKind.wrap .i64 (a2 - (256 : Int)))), (PV.i (7 : Int))] [(t_deflate_writer, [(PV.l p0_1), (PV.i p0_2)])]).bind fun r3 =>
  some ([], [(t_deflate_writer, [(PV.l (((((r3).2.getD 0 (0, []))).2.getD 0 PV.u)).toL), (PV.i (((((r3).2.getD 0 (0, []))).2.getD 1 PV.u)).toI)])])
  else (cW f___celluloid_deflate_writer__code [PV.u, (PV.i (IntKind.wrap .i64 ((IntKind.wrap .i64 ((192 : Int) + a2)) - (280 : Int)))), (PV.i (8 : Int))] [(t_deflate_writer, [(PV.l p0_1), (PV.i p0_2)])]).bind fun r4 =>
  some ([], [(t_deflate_writer, [(PV.l (((((r4).2.getD 0 (0, []))).2.getD 0 PV.u)).toL), (PV.i (((((r4).2.getD 0 (0, []))).2.getD 1 PV.u)).toI)])])))) := by rw [cW_fix]; generalize cW = C; generalize rW = R; kernel_rfl
/- celluloid/deflate.distanceOf -/
theorem w_deflate_distanceOf (a1 : Int) : cW f_deflate_distanceOf [.i a1] [] =
  (bif (decide (a1 < (4 : Int))) then some ([(PV.i (IntKind.wrap .i64 (a1 + (1 : Int)))), (PV.i (0 : Int))], [])
  else (bif (decide ((0 : Int) ≤ (IntKind.wrap .i64 ((IntKind.wrap .i64 (Int.tdiv a1 (2 : Int))) - (1 : Int))))) then some ([(PV.i (IntKind.wrap .i64 ((shl .i64 (IntKind.wrap .i64 ((2 : Int) + (Int.tmod a1 (2 : Int)))) (IntKind.wrap .i64 ((IntKind.wrap .i64 (Int.tdiv a1 (2 : Int))) - (1 : Int)))) + (1 : Int)))), (PV.i (IntKind.wrap .i64 ((IntKind.wrap .i64 (Int.tdiv a1 (2 : Int))) - (1 : Int))))], [])
  else none)) := by rw [cW_fix]; generalize cW = C; generalize rW = R; kernel_rfl
/- celluloid/deflate.Close -/
/- (*celluloid/deflate.writer).bits -/
noncomputable def S___celluloid_deflate_writer__bits_L0 (x1 : Int) (x2 : Int) (x3 : Int) (x4 : List (List PV)) (x5 : Int) : St := mkSt [(0, .v (.ptr (.p 0) 0)), (1, .v (.int .i64 x1)), (7, .v (.int .i64 x2)), (8, .v (.int .i64 x3))] [((.c (.p 0) 0), .row 5 x4), ((.p 0), .cells 174 [.wr (.c (.p 0) 0), .int .i64 x5])] 1000 61
noncomputable def at___celluloid_deflate_writer__bits_L0 : List Item := (atLoop Tryz.f73 0)
theorem w___celluloid_deflate_writer__bits (a2 : Int) (a3 : Int) (p0_1 : List (List PV)) (p0_2 : Int) : cW f___celluloid_deflate_writer__bits [.u, .i a2, .i a3] [(t_deflate_writer, [.l p0_1, .i p0_2])] =
  rW f___celluloid_deflate_writer__bits [t_deflate_writer] at___celluloid_deflate_writer__bits_L0 (S___celluloid_deflate_writer__bits_L0 (a2) (a3) ((0 : Int)) (p0_1) (p0_2)) := by rw [cW_fix]; generalize cW = C; generalize rW = R; kernel_rfl
theorem w___celluloid_deflate_writer__bits_L0 (x1 : Int) (x2 : Int) (x3 : Int) (x4 : List (List PV)) (x5 : Int) : rW f___celluloid_deflate_writer__bits [t_deflate_writer] at___celluloid_deflate_writer__bits_L0 (S___celluloid_deflate_writer__bits_L0 x1 x2 x3 x4 x5) =
  (bif (decide (x3 < x2)) then (bif (x5 == (0 : Int)) then (bif ((decide ((((List.length x4) + 1) * 1) ≤ 140737488355328)) && (decide (((List.length x4) + 1) ≤ 4611686018427387904))) then (bif (inB (IntKind.wrap .i64 ((((List.length (x4 ++ [[(PV.i (0 : Int))]])) : Nat) : Int) - (1 : Int))) (List.length (x4 ++ [[(PV.i (0 : Int))]]))) then (bif (inB (IntKind.wrap .i64 ((((List.length (x4 ++ [[(PV.i (0 : Int))]])) : Nat) : Int) - (1 : Int))) (List.length (x4 ++ [[(PV.i (0 : Int))]]))) then (bif (decide ((0 : Int) ≤ x3)) then (bif (inB (IntKind.wrap .i64 ((((List.length (x4 ++ [[(PV.i (0 : Int))]])) : Nat) : Int) - (1 : Int))) (List.length (x4 ++ [[(PV.i (0 : Int))]]))) then (bif (inB (IntKind.wrap .i64 ((((List.length (x4 ++ [[(PV.i (0 : Int))]])) : Nat) : Int) - (1 : Int))) (List.length (x4 ++ [[(PV.i (0 : Int))]]))) then rW f___celluloid_deflate_writer__bits [t_deflate_writer] at___celluloid_deflate_writer__bits_L0 (S___celluloid_deflate_writer__bits_L0 (x1) (x2) ((IntKind.wrap .i64 (x3 + (1 : Int)))) ((List.set (x4 ++ [[(PV.i (0 : Int))]]) (Int.toNat (IntKind.wrap .i64 ((((List.length (x4 ++ [[(PV.i (0 : Int))]])) : Nat) : Int) - (1 : Int)))) (putAt (elemAt (x4 ++ [[(PV.i (0 : Int))]]) (IntKind.wrap .i64 ((((List.length (x4 ++ [[(PV.i (0 : Int))]])) : Nat) : Int) - (1 : Int)))) 0 [(PV.i (bitsOp Go.BinOp.or .u8 (((elemAt (x4 ++ [[(PV.i (0 : Int))]]) (IntKind.wrap .i64 ((((List.length (x4 ++ [[(PV.i (0 : Int))]])) : Nat) : Int) - (1 : Int)))).getD 0 PV.u)).toI (IntKind.wrap .u8 (shl .i64 (bitsOp Go.BinOp.and .i64 (shr .i64 x1 x3) (1 : Int)) (0 : Int)))))]))) ((7 : Int)))
  else none)
  else none)
  else none)
  else none)
  else none)
  else none)
  else (bif (inB (IntKind.wrap .i64 ((((List.length x4) : Nat) : Int) - (1 : Int))) (List.length x4)) then (bif (inB (IntKind.wrap .i64 ((((List.length x4) : Nat) : Int) - (1 : Int))) (List.length x4)) then (bif (decide ((0 : Int) ≤ x3)) then (bif (decide ((0 : Int) ≤ (IntKind.wrap .i64 ((8 : Int) - x5)))) then (bif (inB (IntKind.wrap .i64 ((((List.length x4) : Nat) : Int) - (1 : Int))) (List.length x4)) then (bif (inB (IntKind.wrap .i64 ((((List.length x4) : Nat) : Int) - (1 : Int))) (List.length x4)) then rW f___celluloid_deflate_writer__bits [t_deflate_writer] at___celluloid_deflate_writer__bits_L0 (S___celluloid_deflate_writer__bits_L0 (x1) (x2) ((IntKind.wrap .i64 (x3 + (1 : Int)))) ((List.set x4 (Int.toNat (IntKind.wrap .i64 ((((List.length x4) : Nat) : Int) - (1 : Int)))) (putAt (elemAt x4 (IntKind.wrap .i64 ((((List.length x4) : Nat) : Int) - (1 : Int)))) 0 [(PV.i (bitsOp Go.BinOp.or .u8 (((elemAt x4 (IntKind.wrap .i64 ((((List.length x4) : Nat) : Int) - (1 : Int)))).getD 0 PV.u)).toI (IntKind.wrap .u8 (shl .i64 (bitsOp Go.BinOp.and .i64 (shr .i64 x1 x3) (1 : Int)) (IntKind.wrap .i64 ((8 : Int) - x5))))))]))) ((IntKind.wrap .i64 (x5 - (1 : Int)))))
  else none)
  else none)
  else none)
  else none)
  else none)
  else none))
  else some ([], [(t_deflate_writer, [(PV.l x4), (PV.i x5)])])) := by rw [rW_fix]; generalize cW = C; generalize rW = R; kernel_rfl
/- (*celluloid/deflate.writer).run -/
noncomputable def S___celluloid_deflate_writer__run_L0 (x1 : Int) (x2 : Int) (x3 : Int) (x4 : Int) (x5 : Int) (x6 : Int) (x7 : List (List PV)) (x8 : Int) : St := mkSt [(0, .v (.ptr (.p 0) 0)), (1, .v (.int .i64 x1)), (2, .v (.int .i64 x2)), (6, .v (.int .i64 x3)), (7, .v (.int .i64 x4)), (8, .v (.int .i64 x5)), (9, .v (.int .i64 x6))] [((.c (.p 0) 0), .row 5 x7), ((.p 0), .cells 174 [.wr (.c (.p 0) 0), .int .i64 x8])] 1000 65
noncomputable def at___celluloid_deflate_writer__run_L0 : List Item := (atLoop Tryz.f77 0)
noncomputable def S___celluloid_deflate_writer__run_L2 (x1 : Int) (x2 : Int) (x3 : Int) (x4 : Int) (x5 : Int) (x6 : List (List PV)) (x7 : Int) : St := mkSt [(0, .v (.ptr (.p 0) 0)), (2, .v (.int .i64 x1)), (6, .v (.int .i64 x2)), (7, .v (.int .i64 x3)), (8, .v (.int .i64 x4)), (41, .v (.int .i64 x5))] [((.c (.p 0) 0), .row 5 x6), ((.p 0), .cells 174 [.wr (.c (.p 0) 0), .int .i64 x7])] 2000 65
noncomputable def at___celluloid_deflate_writer__run_L2 : List Item := (atLoop Tryz.f77 2)
theorem w___celluloid_deflate_writer__run (a2 : Int) (a3 : Int) (p0_1 : List (List PV)) (p0_2 : Int) : cW f___celluloid_deflate_writer__run [.u, .i a2, .i a3] [(t_deflate_writer, [.l p0_1, .i p0_2])] =
  rW f___celluloid_deflate_writer__run [t_deflate_writer] at___celluloid_deflate_writer__run_L0 (S___celluloid_deflate_writer__run_L0 (a2) (a3) ((257 : Int)) ((3 : Int)) ((0 : Int)) ((257 : Int)) (p0_1) (p0_2)) := by rw [cW_fix]; generalize cW = C; generalize rW = R; kernel_rfl
theorem w___celluloid_deflate_writer__run_L0 (x1 : Int) (x2 : Int) (x3 : Int) (x4 : Int) (x5 : Int) (x6 : Int) (x7 : List (List PV)) (x8 : Int) : rW f___celluloid_deflate_writer__run [t_deflate_writer] at___celluloid_deflate_writer__run_L0 (S___celluloid_deflate_writer__run_L0 x1 x2 x3 x4 x5 x6 x7 x8) =
  (bif (decide (x6 < (285 : Int))) then (cW f_deflate_lengthOf [(PV.i x6)] []).bind fun r1 =>
  (bif (decide ((((r1).1.getD 0 PV.u)).toI ≤ x1)) then rW f___celluloid_deflate_writer__run [t_deflate_writer] at___celluloid_deflate_writer__run_L0 (S___celluloid_deflate_writer__run_L0 (x1) (x2) (x6) ((((r1).1.getD 0 PV.u)).toI) ((((r1).1.getD 1 PV.u)).toI) ((IntKind.wrap .i64 (x6 + (1 : Int)))) (x7) (x8))
  else rW f___celluloid_deflate_writer__run [t_deflate_writer] at___celluloid_deflate_writer__run_L0 (S___celluloid_deflate_writer__run_L0 (x1) (x2) (x3) (x4) (x5) ((IntKind.wrap .i64 (x6 + (1 : Int)))) (x7) (x8)))
  else (bif (x1 == (258 : Int)) then (cW f___celluloid_deflate_writer__symbol [PV.u, (PV.i (285 : Int))] [(t_deflate_writer, [(PV.l x7), (PV.i x8)])]).bind fun r2 =>
  (cW f___celluloid_deflate_writer__bits [PV.u, (PV.i (IntKind.wrap .i64 (x1 - (258 : Int)))), (PV.i (0 : Int))] [(t_deflate_writer, [(PV.l (((((r2).2.getD 0 (0, []))).2.getD 0 PV.u)).toL), (PV.i (((((r2).2.getD 0 (0, []))).2.getD 1 PV.u)).toI)])]).bind fun r3 =>
  rW f___celluloid_deflate_writer__run [t_deflate_writer] at___celluloid_deflate_writer__run_L2 (S___celluloid_deflate_writer__run_L2 (x2) ((0 : Int)) ((1 : Int)) ((0 : Int)) ((0 : Int)) ((((((r3).2.getD 0 (0, []))).2.getD 0 PV.u)).toL) ((((((r3).2.getD 0 (0, []))).2.getD 1 PV.u)).toI))
  else (cW f___celluloid_deflate_writer__symbol [PV.u, (PV.i x3)] [(t_deflate_writer, [(PV.l x7), (PV.i x8)])]).bind fun r4 =>
  (cW f___celluloid_deflate_writer__bits [PV.u, (PV.i (IntKind.wrap .i64 (x1 - x4))), (PV.i x5)] [(t_deflate_writer, [(PV.l (((((r4).2.getD 0 (0, []))).2.getD 0 PV.u)).toL), (PV.i (((((r4).2.getD 0 (0, []))).2.getD 1 PV.u)).toI)])]).bind fun r5 =>
  rW f___celluloid_deflate_writer__run [t_deflate_writer] at___celluloid_deflate_writer__run_L2 (S___celluloid_deflate_writer__run_L2 (x2) ((0 : Int)) ((1 : Int)) ((0 : Int)) ((0 : Int)) ((((((r5).2.getD 0 (0, []))).2.getD 0 PV.u)).toL) ((((((r5).2.getD 0 (0, []))).2.getD 1 PV.u)).toI)))) := by rw [rW_fix]; generalize cW = C; generalize rW = R; kernel_rfl
theorem w___celluloid_deflate_writer__run_L2 (x1 : Int) (x2 : Int) (x3 : Int) (x4 : Int) (x5 : Int) (x6 : List (List PV)) (x7 : Int) : rW f___celluloid_deflate_writer__run [t_deflate_writer] at___celluloid_deflate_writer__run_L2 (S___celluloid_deflate_writer__run_L2 x1 x2 x3 x4 x5 x6 x7) =
  (bif (decide (x5 < (30 : Int))) then (cW f_deflate_distanceOf [(PV.i x5)] []).bind fun r6 =>
  (bif (decide ((((r6).1.getD 0 PV.u)).toI ≤ x1)) then rW f___celluloid_deflate_writer__run [t_deflate_writer] at___celluloid_deflate_writer__run_L2 (S___celluloid_deflate_writer__run_L2 (x1) (x5) ((((r6).1.getD 0 PV.u)).toI) ((((r6).1.getD 1 PV.u)).toI) ((IntKind.wrap .i64 (x5 + (1 : Int)))) (x6) (x7))
  else rW f___celluloid_deflate_writer__run [t_deflate_writer] at___celluloid_deflate_writer__run_L2 (S___celluloid_deflate_writer__run_L2 (x1) (x2) (x3) (x4) ((IntKind.wrap .i64 (x5 + (1 : Int)))) (x6) (x7)))
  else (cW f___celluloid_deflate_writer__code [PV.u, (PV.i x2), (PV.i (5 : Int))] [(t_deflate_writer, [(PV.l x6), (PV.i x7)])]).bind fun r7 =>
  (cW f___celluloid_deflate_writer__bits [PV.u, (PV.i (IntKind.wrap .i64 (x1 - x3))), (PV.i x4)] [(t_deflate_writer, [(PV.l (((((r7).2.getD 0 (0, []))).2.getD 0 PV.u)).toL), (PV.i (((((r7).2.getD 0 (0, []))).2.getD 1 PV.u)).toI)])]).bind fun r8 =>
  some ([], [(t_deflate_writer, [(PV.l (((((r8).2.getD 0 (0, []))).2.getD 0 PV.u)).toL), (PV.i (((((r8).2.getD 0 (0, []))).2.getD 1 PV.u)).toI)])])) := by rw [rW_fix]; generalize cW = C; generalize rW = R; kernel_rfl
/- celluloid/deflate.alike -/
noncomputable def S_deflate_alike_L0 (x1 : List UInt8) (x2 : Int) (x3 : Int) (x4 : Int) : St := mkSt [(0, .v (.str x1)), (1, .v (.int .i64 x2)), (2, .v (.int .i64 x3)), (7, .v (.int .i64 x4))] [] 1000 34
noncomputable def at_deflate_alike_L0 : List Item := (atLoop Tryz.f124 0)
theorem w_deflate_alike (a1 : List UInt8) (a2 : Int) (a3 : Int) : cW f_deflate_alike [.s a1, .i a2, .i a3] [] =
  rW f_deflate_alike [] at_deflate_alike_L0 (S_deflate_alike_L0 (a1) (a2) (a3) ((0 : Int))) := by rw [cW_fix]; generalize cW = C; generalize rW = R; kernel_rfl
theorem w_deflate_alike_L0 (x1 : List UInt8) (x2 : Int) (x3 : Int) (x4 : Int) : rW f_deflate_alike [] at_deflate_alike_L0 (S_deflate_alike_L0 x1 x2 x3 x4) =
  ((bif (decide (x4 < (258 : Int))) then (bif (decide ((IntKind.wrap .i64 (x2 + x4)) < (((List.length x1) : Nat) : Int))) then (bif (inB (IntKind.wrap .i64 (x2 + x4)) (List.length x1)) then (bif (inB (IntKind.wrap .i64 (x3 + x4)) (List.length x1)) then some [(PV.b ((bt x1 (IntKind.wrap .i64 (x2 + x4))) == (bt x1 (IntKind.wrap .i64 (x3 + x4)))))]
   else none)
   else none)
   else some [(PV.b false)])
   else some [(PV.b false)])).bind fun r1 =>
  (bif ((r1.getD 0 PV.u)).toB then rW f_deflate_alike [] at_deflate_alike_L0 (S_deflate_alike_L0 (x1) (x2) (x3) ((IntKind.wrap .i64 (x4 + (1 : Int)))))
  else some ([(PV.i x4)], [])) := by rw [rW_fix]; generalize cW = C; generalize rW = R; kernel_rfl
/- celluloid/adler.parts -/
theorem w_adler_parts (a1 : Int) : cW f_adler_parts [.i a1] [] =
  some ([(PV.i (Int.tmod (IntKind.wrap .i64 (bitsOp Go.BinOp.and .u32 (IntKind.wrap .u32 a1) (65535 : Int))) (65521 : Int))), (PV.i (Int.tmod (IntKind.wrap .i64 (shr .u32 (IntKind.wrap .u32 a1) (16 : Int))) (65521 : Int)))], []) := by rw [cW_fix]; generalize cW = C; generalize rW = R; kernel_rfl
/- celluloid/deflate.at -/
theorem w_deflate_at (a1 : List UInt8) (a2 : Int) : cW f_deflate_at [.s a1, .i a2] [] =
  ((bif (decide (a2 < (0 : Int))) then some [(PV.b true)]
   else some [(PV.b (decide (a2 > (IntKind.wrap .i64 ((((List.length a1) : Nat) : Int) - (3 : Int))))))])).bind fun r1 =>
  (bif ((r1.getD 0 PV.u)).toB then some ([(PV.i (0 : Int)), (PV.i (0 : Int)), (PV.i (0 : Int)), (PV.b false)], [])
  else (bif (inB a2 (List.length a1)) then (bif (inB (IntKind.wrap .i64 (a2 + (1 : Int))) (List.length a1)) then (bif (inB (IntKind.wrap .i64 (a2 + (2 : Int))) (List.length a1)) then some ([(PV.i (bt a1 a2)), (PV.i (bt a1 (IntKind.wrap .i64 (a2 + (1 : Int))))), (PV.i (bt a1 (IntKind.wrap .i64 (a2 + (2 : Int))))), (PV.b true)], [])
  else none)
  else none)
  else none)) := by rw [cW_fix]; generalize cW = C; generalize rW = R; kernel_rfl
/- celluloid/adler.More -/
noncomputable def S_adler_More_L0 (x1 : List UInt8) (x2 : Int) (x3 : Int) (x4 : Int) (x5 : Int) : St := mkSt [(1, .v (.str x1)), (5, .v (.int .i64 x2)), (6, .v (.int .i64 x3)), (14, .v (.int .i64 x4)), (15, .v (.int .i64 x5))] [] 1000 34
noncomputable def at_adler_More_L0 : List Item := (atLoop Tryz.f78 0)
theorem w_adler_More (a1 : Int) (a2 : List UInt8) : cW f_adler_More [.i a1, .s a2] [] =
  (cW f_adler_parts [(PV.i a1)] []).bind fun r1 =>
  rW f_adler_More [] at_adler_More_L0 (S_adler_More_L0 (a2) ((((r1).1.getD 0 PV.u)).toI) ((((r1).1.getD 1 PV.u)).toI) ((((List.length a2) : Nat) : Int)) ((0 : Int))) := by rw [cW_fix]; generalize cW = C; generalize rW = R; kernel_rfl
theorem w_adler_More_L0 (x1 : List UInt8) (x2 : Int) (x3 : Int) (x4 : Int) (x5 : Int) : rW f_adler_More [] at_adler_More_L0 (S_adler_More_L0 x1 x2 x3 x4 x5) =
  (bif (decide (x5 < x4)) then (bif (inB x5 (List.length x1)) then rW f_adler_More [] at_adler_More_L0 (S_adler_More_L0 (x1) ((Int.tmod (IntKind.wrap .i64 (x2 + (IntKind.wrap .i64 (bt x1 x5)))) (65521 : Int))) ((Int.tmod (IntKind.wrap .i64 (x3 + (Int.tmod (IntKind.wrap .i64 (x2 + (IntKind.wrap .i64 (bt x1 x5)))) (65521 : Int)))) (65521 : Int))) (x4) ((IntKind.wrap .i64 (x5 + (1 : Int)))))
  else none)
  else some ([(PV.i (bitsOp Go.BinOp.or .i64 (shl .i64 x3 (16 : Int)) x2))], [])) := by rw [rW_fix]; generalize cW = C; generalize rW = R; kernel_rfl
/- (*celluloid/deflate.writer).code -/
noncomputable def S___celluloid_deflate_writer__code_L0 (x1 : Int) (x2 : Int) (x3 : List (List PV)) (x4 : Int) : St := mkSt [(0, .v (.ptr (.p 0) 0)), (1, .v (.int .i64 x1)), (6, .v (.int .i64 x2))] [((.c (.p 0) 0), .row 5 x3), ((.p 0), .cells 174 [.wr (.c (.p 0) 0), .int .i64 x4])] 1000 19
noncomputable def at___celluloid_deflate_writer__code_L0 : List Item := (atLoop Tryz.f125 0)
theorem w___celluloid_deflate_writer__code (a2 : Int) (a3 : Int) (p0_1 : List (List PV)) (p0_2 : Int) : cW f___celluloid_deflate_writer__code [.u, .i a2, .i a3] [(t_deflate_writer, [.l p0_1, .i p0_2])] =
  rW f___celluloid_deflate_writer__code [t_deflate_writer] at___celluloid_deflate_writer__code_L0 (S___celluloid_deflate_writer__code_L0 (a2) ((IntKind.wrap .i64 (a3 - (1 : Int)))) (p0_1) (p0_2)) := by rw [cW_fix]; generalize cW = C; generalize rW = R; kernel_rfl
theorem w___celluloid_deflate_writer__code_L0 (x1 : Int) (x2 : Int) (x3 : List (List PV)) (x4 : Int) : rW f___celluloid_deflate_writer__code [t_deflate_writer] at___celluloid_deflate_writer__code_L0 (S___celluloid_deflate_writer__code_L0 x1 x2 x3 x4) =
  (bif (decide (x2 ≥ (0 : Int))) then (bif (decide ((0 : Int) ≤ x2)) then (cW f___celluloid_deflate_writer__bits [PV.u, (PV.i (bitsOp Go.BinOp.and .i64 (shr .i64 x1 x2) (1 : Int))), (PV.i (1 : Int))] [(t_deflate_writer, [(PV.l x3), (PV.i x4)])]).bind fun r1 =>
  rW f___celluloid_deflate_writer__code [t_deflate_writer] at___celluloid_deflate_writer__code_L0 (S___celluloid_deflate_writer__code_L0 (x1) ((IntKind.wrap .i64 (x2 - (1 : Int)))) ((((((r1).2.getD 0 (0, []))).2.getD 0 PV.u)).toL) ((((((r1).2.getD 0 (0, []))).2.getD 1 PV.u)).toI))
  else none)
  else some ([], [(t_deflate_writer, [(PV.l x3), (PV.i x4)])])) := by rw [rW_fix]; generalize cW = C; generalize rW = R; kernel_rfl
/- celluloid/adler.Sum -/
theorem w_adler_Sum (a1 : List UInt8) : cW f_adler_Sum [.s a1] [] =
  (cW f_adler_More [(PV.i (1 : Int)), (PV.s a1)] []).bind fun r1 =>
  some ([(PV.i (((r1).1.getD 0 PV.u)).toI)], []) := by rw [cW_fix]; generalize cW = C; generalize rW = R; kernel_rfl
/- celluloid/deflate.best -/
noncomputable def S_deflate_best_L0 (x1 : List UInt8) (x2 : Int) (x3 : List (List PV)) (x4 : Int) (x5 : Int) (x6 : Int) : St := mkSt [(0, .v (.str x1)), (1, .v (.int .i64 x2)), (2, .v (.sl 3 x3)), (8, .v (.int .i64 x4)), (9, .v (.int .i64 x5)), (10, .v (.int .i64 x6))] [] 1000 59
noncomputable def at_deflate_best_L0 : List Item := (atLoop Tryz.f75 0)
theorem w_deflate_best (a1 : List UInt8) (a2 : Int) (a3 : List (List PV)) : cW f_deflate_best [.s a1, .i a2, .l a3] [] =
  rW f_deflate_best [] at_deflate_best_L0 (S_deflate_best_L0 (a1) (a2) (a3) ((0 : Int)) ((0 : Int)) ((IntKind.wrap .i64 ((((List.length a3) : Nat) : Int) - (1 : Int))))) := by rw [cW_fix]; generalize cW = C; generalize rW = R; kernel_rfl
theorem w_deflate_best_L0 (x1 : List UInt8) (x2 : Int) (x3 : List (List PV)) (x4 : Int) (x5 : Int) (x6 : Int) : rW f_deflate_best [] at_deflate_best_L0 (S_deflate_best_L0 x1 x2 x3 x4 x5 x6) =
  ((bif (decide (x6 ≥ (0 : Int))) then (bif (inB x6 (List.length x3)) then some [(PV.b (decide ((IntKind.wrap .i64 (x2 - (((elemAt x3 x6).getD 0 PV.u)).toI)) ≤ (32768 : Int))))]
   else none)
   else some [(PV.b false)])).bind fun r1 =>
  (bif ((r1.getD 0 PV.u)).toB then (bif (inB x6 (List.length x3)) then (cW f_deflate_alike [(PV.s x1), (PV.i x2), (PV.i (((elemAt x3 x6).getD 0 PV.u)).toI)] []).bind fun r2 =>
  (bif (decide ((((r2).1.getD 0 PV.u)).toI > x4)) then (bif (inB x6 (List.length x3)) then ((bif ((((r2).1.getD 0 PV.u)).toI == (258 : Int)) then some [(PV.b true)]
   else some [(PV.b ((IntKind.wrap .i64 (x2 + (((r2).1.getD 0 PV.u)).toI)) == (((List.length x1) : Nat) : Int)))])).bind fun r3 =>
  (bif ((r3.getD 0 PV.u)).toB then (bif (decide ((((r2).1.getD 0 PV.u)).toI < (3 : Int))) then some ([(PV.i (0 : Int)), (PV.i (0 : Int))], [])
  else some ([(PV.i (((r2).1.getD 0 PV.u)).toI), (PV.i (IntKind.wrap .i64 (x2 - (((elemAt x3 x6).getD 0 PV.u)).toI)))], []))
  else rW f_deflate_best [] at_deflate_best_L0 (S_deflate_best_L0 (x1) (x2) (x3) ((((r2).1.getD 0 PV.u)).toI) ((IntKind.wrap .i64 (x2 - (((elemAt x3 x6).getD 0 PV.u)).toI))) ((IntKind.wrap .i64 (x6 - (1 : Int))))))
  else none)
  else ((bif (x4 == (258 : Int)) then some [(PV.b true)]
   else some [(PV.b ((IntKind.wrap .i64 (x2 + x4)) == (((List.length x1) : Nat) : Int)))])).bind fun r4 =>
  (bif ((r4.getD 0 PV.u)).toB then (bif (decide (x4 < (3 : Int))) then some ([(PV.i (0 : Int)), (PV.i (0 : Int))], [])
  else some ([(PV.i x4), (PV.i x5)], []))
  else rW f_deflate_best [] at_deflate_best_L0 (S_deflate_best_L0 (x1) (x2) (x3) (x4) (x5) ((IntKind.wrap .i64 (x6 - (1 : Int)))))))
  else none)
  else (bif (decide (x4 < (3 : Int))) then some ([(PV.i (0 : Int)), (PV.i (0 : Int))], [])
  else some ([(PV.i x4), (PV.i x5)], []))) := by rw [rW_fix]; generalize cW = C; generalize rW = R; kernel_rfl
/- celluloid/deflate.lengthOf -/
theorem w_deflate_lengthOf (a1 : Int) : cW f_deflate_lengthOf [.i a1] [] =
  (bif (decide ((IntKind.wrap .i64 (a1 - (257 : Int))) < (8 : Int))) then some ([(PV.i (IntKind.wrap .i64 ((IntKind.wrap .i64 (a1 - (257 : Int))) + (3 : Int)))), (PV.i (0 : Int))], [])
  else (bif (decide ((0 : Int) ≤ (IntKind.wrap .i64 ((IntKind.wrap .i64 (Int.tdiv (IntKind.wrap .i64 (a1 - (257 : Int))) (4 : Int))) - (1 : Int))))) then some ([(PV.i (IntKind.wrap .i64 ((shl .i64 (IntKind.wrap .i64 ((4 : Int) + (Int.tmod (IntKind.wrap .i64 (a1 - (257 : Int))) (4 : Int)))) (IntKind.wrap .i64 ((IntKind.wrap .i64 (Int.tdiv (IntKind.wrap .i64 (a1 - (257 : Int))) (4 : Int))) - (1 : Int)))) + (3 : Int)))), (PV.i (IntKind.wrap .i64 ((IntKind.wrap .i64 (Int.tdiv (IntKind.wrap .i64 (a1 - (257 : Int))) (4 : Int))) - (1 : Int))))], [])
  else none)) := by rw [cW_fix]; generalize cW = C; generalize rW = R; kernel_rfl
end Go.AI
