/- Equations of the program's functions, on. -/
import Derived.Test.YtlahaamidmbajaaGreatU08
import Derived.KernelRfl
set_option linter.unusedVariables false
set_option maxRecDepth 100000
namespace Go.AI
open Go Go.Proofs
/- celluloid/celluloidref09.Equal -/
theorem w_celluloidref09_Equal (a1 : Int) (a2 : Int) (a3 : Int) (a4 : Int) (a5 : Int) (a6 : List (List PV)) (a7 : List (List PV)) (a8 : List (List PV)) (a9 : Int) (a10 : Int) (a11 : Int) (a12 : Int) (a13 : Int) (a14 : List (List PV)) (a15 : List (List PV)) (a16 : List (List PV)) : cW f_celluloidref09_Equal [.i a1, .i a2, .i a3, .i a4, .i a5, .l a6, .l a7, .l a8, .i a9, .i a10, .i a11, .i a12, .i a13, .l a14, .l a15, .l a16] [] =
  ((bif (a1 == a9) then (bif ((a2 == a10) && ((a3 == a11) && ((a4 == a12) && (a5 == a13)))) then (cW f_celluloidref08_SameLists [(PV.l a6), (PV.l a14), (PV.l a7), (PV.l a15)] []).bind fun r1 =>
   (bif (((r1).1.getD 0 PV.u)).toB then (cW f_celluloidref09_Same [(PV.l a8), (PV.l a16)] []).bind fun r2 =>
   some [(PV.b (((r2).1.getD 0 PV.u)).toB)]
   else some [(PV.b false)])
   else some [(PV.b false)])
   else some [(PV.b false)])).bind fun r3 =>
  some ([(PV.b ((r3.getD 0 PV.u)).toB)], []) := by rw [cW_fix]; generalize cW = C; generalize rW = R; kernel_rfl
/- celluloid/celluloidref09.Same -/
noncomputable def S_celluloidref09_Same_L0 (x1 : List (List PV)) (x2 : List (List PV)) (x3 : Int) : St := mkSt [(0, .v (.sl 176 x1)), (1, .v (.sl 176 x2)), (5, .v (.int .i64 x3))] [] 1000 91
noncomputable def at_celluloidref09_Same_L0 : List Item := (atLoop Tryz.f114 0)
theorem w_celluloidref09_Same (a1 : List (List PV)) (a2 : List (List PV)) : cW f_celluloidref09_Same [.l a1, .l a2] [] =
  (bif ((((List.length a1) : Nat) : Int) != (((List.length a2) : Nat) : Int)) then some ([(PV.b false)], [])
  else rW f_celluloidref09_Same [] at_celluloidref09_Same_L0 (S_celluloidref09_Same_L0 (a1) (a2) ((0 : Int)))) := by rw [cW_fix]; generalize cW = C; generalize rW = R; kernel_rfl
theorem w_celluloidref09_Same_L0 (x1 : List (List PV)) (x2 : List (List PV)) (x3 : Int) : rW f_celluloidref09_Same [] at_celluloidref09_Same_L0 (S_celluloidref09_Same_L0 x1 x2 x3) =
  (bif (decide (x3 < (((List.length x1) : Nat) : Int))) then (bif (inB x3 (List.length x1)) then (bif (inB x3 (List.length x2)) then ((bif ((((elemAt x1 x3).getD 0 PV.u)).toI != (((elemAt x2 x3).getD 0 PV.u)).toI) then some [(PV.b true)]
   else (bif ((((elemAt x1 x3).getD 1 PV.u)).toI != (((elemAt x2 x3).getD 1 PV.u)).toI) then some [(PV.b true)]
   else (bif ((((elemAt x1 x3).getD 2 PV.u)).toI != (((elemAt x2 x3).getD 2 PV.u)).toI) then some [(PV.b true)]
   else (bif ((((elemAt x1 x3).getD 3 PV.u)).toI != (((elemAt x2 x3).getD 3 PV.u)).toI) then some [(PV.b true)]
   else (bif ((((elemAt x1 x3).getD 4 PV.u)).toI != (((elemAt x2 x3).getD 4 PV.u)).toI) then some [(PV.b true)]
   else (bif ((((elemAt x1 x3).getD 5 PV.u)).toI != (((elemAt x2 x3).getD 5 PV.u)).toI) then some [(PV.b true)]
   else (bif ((((elemAt x1 x3).getD 6 PV.u)).toI != (((elemAt x2 x3).getD 6 PV.u)).toI) then some [(PV.b true)]
   else some [(PV.b ((((elemAt x1 x3).getD 7 PV.u)).toI != (((elemAt x2 x3).getD 7 PV.u)).toI))])))))))).bind fun r1 =>
  (bif ((r1.getD 0 PV.u)).toB then some ([(PV.b false)], [])
  else (cW f_celluloidref08_SameLists [(PV.l (((elemAt x1 x3).getD 8 PV.u)).toL), (PV.l (((elemAt x2 x3).getD 8 PV.u)).toL), (PV.l (((elemAt x1 x3).getD 9 PV.u)).toL), (PV.l (((elemAt x2 x3).getD 9 PV.u)).toL)] []).bind fun r2 =>
  (bif (!(((r2).1.getD 0 PV.u)).toB) then some ([(PV.b false)], [])
  else rW f_celluloidref09_Same [] at_celluloidref09_Same_L0 (S_celluloidref09_Same_L0 (x1) (x2) ((IntKind.wrap .i64 (x3 + (1 : Int)))))))
  else none)
  else none)
  else some ([(PV.b true)], [])) := by rw [rW_fix]; generalize cW = C; generalize rW = R; kernel_rfl
/- celluloid/shape.RightRecords -/
/- celluloid/celluloidref09.Records -/
noncomputable def S_celluloidref09_Records_L0 (x1 : Int) (x2 : Int) (x3 : List (List PV)) (x4 : Int) (x5 : Int) : St := mkSt [(0, .v (.int .i64 x1)), (1, .v (.int .i64 x2)), (2, .v (.sl 176 x3)), (3, .v (.int .i64 x4)), (9, .v (.int .i64 x5))] [] 1000 84
noncomputable def at_celluloidref09_Records_L0 : List Item := (atLoop Tryz.f45 0)
theorem w_celluloidref09_Records (a1 : Int) (a2 : Int) (a3 : List (List PV)) (a4 : Int) : cW f_celluloidref09_Records [.i a1, .i a2, .l a3, .i a4] [] =
  ((cW f_celluloidref09_in [(PV.i a1), (PV.i (0 : Int)), (PV.i (15 : Int))] []).bind fun r1 =>
   (bif (!(((r1).1.getD 0 PV.u)).toB) then some [(PV.b true)]
   else (cW f_celluloidref09_in [(PV.i a2), (PV.i (0 : Int)), (PV.i (15 : Int))] []).bind fun r2 =>
   (bif (!(((r2).1.getD 0 PV.u)).toB) then some [(PV.b true)]
   else (cW f_celluloidref09_in [(PV.i a4), (PV.i (0 : Int)), (PV.i (2 : Int))] []).bind fun r3 =>
   (bif (!(((r3).1.getD 0 PV.u)).toB) then some [(PV.b true)]
   else some [(PV.b (decide ((((List.length a3) : Nat) : Int) > (512 : Int))))])))).bind fun r4 =>
  (bif ((r4.getD 0 PV.u)).toB then some ([(PV.b false)], [])
  else rW f_celluloidref09_Records [] at_celluloidref09_Records_L0 (S_celluloidref09_Records_L0 (a1) (a2) (a3) (a4) ((0 : Int)))) := by rw [cW_fix]; generalize cW = C; generalize rW = R; kernel_rfl
theorem w_celluloidref09_Records_L0 (x1 : Int) (x2 : Int) (x3 : List (List PV)) (x4 : Int) (x5 : Int) : rW f_celluloidref09_Records [] at_celluloidref09_Records_L0 (S_celluloidref09_Records_L0 x1 x2 x3 x4 x5) =
  (bif (decide (x5 < (((List.length x3) : Nat) : Int))) then ((bif (inB x5 (List.length x3)) then (cW f_celluloidref09_one [(PV.i (((elemAt x3 x5).getD 0 PV.u)).toI), (PV.i (((elemAt x3 x5).getD 1 PV.u)).toI), (PV.i (((elemAt x3 x5).getD 2 PV.u)).toI), (PV.i (((elemAt x3 x5).getD 3 PV.u)).toI), (PV.i (((elemAt x3 x5).getD 4 PV.u)).toI), (PV.i (((elemAt x3 x5).getD 5 PV.u)).toI), (PV.i (((elemAt x3 x5).getD 6 PV.u)).toI), (PV.i (((elemAt x3 x5).getD 7 PV.u)).toI), (PV.l (((elemAt x3 x5).getD 8 PV.u)).toL), (PV.l (((elemAt x3 x5).getD 9 PV.u)).toL), (PV.i x1), (PV.i x2)] []).bind fun r5 =>
   (bif (!(((r5).1.getD 0 PV.u)).toB) then some [(PV.b true)]
   else (bif (inB x5 (List.length x3)) then (bif ((((elemAt x3 x5).getD 0 PV.u)).toI == (3 : Int)) then (bif (decide (x4 > (0 : Int))) then some [(PV.b true)]
   else (bif (inB x5 (List.length x3)) then (bif ((((elemAt x3 x5).getD 0 PV.u)).toI == (2 : Int)) then some [(PV.b (decide (x4 > (1 : Int))))]
   else some [(PV.b false)])
   else none))
   else (bif (inB x5 (List.length x3)) then (bif ((((elemAt x3 x5).getD 0 PV.u)).toI == (2 : Int)) then some [(PV.b (decide (x4 > (1 : Int))))]
   else some [(PV.b false)])
   else none))
   else none))
   else none)).bind fun r6 =>
  (bif ((r6.getD 0 PV.u)).toB then some ([(PV.b false)], [])
  else (bif (inB x5 (List.length x3)) then (bif ((((elemAt x3 x5).getD 0 PV.u)).toI == (3 : Int)) then (bif (inB x5 (List.length x3)) then (bif (inB x5 (List.length x3)) then rW f_celluloidref09_Records [] at_celluloidref09_Records_L0 (S_celluloidref09_Records_L0 ((((List.length (((elemAt x3 x5).getD 8 PV.u)).toL) : Nat) : Int)) ((((List.length (((elemAt x3 x5).getD 9 PV.u)).toL) : Nat) : Int)) (x3) (x4) ((IntKind.wrap .i64 (x5 + (1 : Int)))))
  else none)
  else none)
  else rW f_celluloidref09_Records [] at_celluloidref09_Records_L0 (S_celluloidref09_Records_L0 (x1) (x2) (x3) (x4) ((IntKind.wrap .i64 (x5 + (1 : Int))))))
  else none))
  else some ([(PV.b true)], [])) := by rw [rW_fix]; generalize cW = C; generalize rW = R; kernel_rfl
/- slices.ContainsFunc[[]int,int] -/
/- celluloid/shape.sound -/
/- celluloid/celluloidref09.one -/
theorem w_celluloidref09_one (a1 : Int) (a2 : Int) (a3 : Int) (a4 : Int) (a5 : Int) (a6 : Int) (a7 : Int) (a8 : Int) (a9 : List (List PV)) (a10 : List (List PV)) (a11 : Int) (a12 : Int) : cW f_celluloidref09_one [.i a1, .i a2, .i a3, .i a4, .i a5, .i a6, .i a7, .i a8, .l a9, .l a10, .i a11, .i a12] [] =
  ((bif (a6 != (0 : Int)) then some [(PV.b true)]
   else (bif (a7 != (0 : Int)) then some [(PV.b true)]
   else some [(PV.b (a8 != (0 : Int)))]))).bind fun r1 =>
  ((bif (a4 != (0 : Int)) then some [(PV.b true)]
   else some [(PV.b (a5 != (0 : Int)))])).bind fun r2 =>
  ((bif (a2 != (0 : Int)) then some [(PV.b true)]
   else some [(PV.b (a3 != (0 : Int)))])).bind fun r3 =>
  (bif (a1 == (1 : Int)) then ((bif (!((r1.getD 0 PV.u)).toB) then (bif (!(decide ((IntKind.wrap .i64 ((((List.length a9) : Nat) : Int) + (((List.length a10) : Nat) : Int))) > (0 : Int)))) then (bif (!((r2.getD 0 PV.u)).toB) then (cW f_celluloidref09_in [(PV.i a2), (PV.i (-1048576 : Int)), (PV.i (1048576 : Int))] []).bind fun r4 =>
   (bif (((r4).1.getD 0 PV.u)).toB then (cW f_celluloidref09_in [(PV.i a3), (PV.i (-1048576 : Int)), (PV.i (1048576 : Int))] []).bind fun r5 =>
   some [(PV.b (((r5).1.getD 0 PV.u)).toB)]
   else some [(PV.b false)])
   else some [(PV.b false)])
   else some [(PV.b false)])
   else some [(PV.b false)])).bind fun r6 =>
  some ([(PV.b ((r6.getD 0 PV.u)).toB)], [])
  else (bif (a1 == (2 : Int)) then ((bif (decide (a6 > (-1 : Int))) then some [(PV.b true)]
   else (bif (decide (a7 > (-1 : Int))) then some [(PV.b true)]
   else some [(PV.b (decide (a8 > (-1 : Int))))]))).bind fun r7 =>
  ((bif (!(decide ((IntKind.wrap .i64 ((((List.length a9) : Nat) : Int) + (((List.length a10) : Nat) : Int))) > (0 : Int)))) then (bif (!((r2.getD 0 PV.u)).toB) then (bif (!((r3.getD 0 PV.u)).toB) then (bif ((r7.getD 0 PV.u)).toB then (cW f_celluloidref09_in [(PV.i a6), (PV.i (-1 : Int)), (PV.i a11)] []).bind fun r8 =>
   (bif (((r8).1.getD 0 PV.u)).toB then (cW f_celluloidref09_in [(PV.i a7), (PV.i (-1 : Int)), (PV.i a11)] []).bind fun r9 =>
   (bif (((r9).1.getD 0 PV.u)).toB then (cW f_celluloidref09_in [(PV.i a8), (PV.i (-1 : Int)), (PV.i a12)] []).bind fun r10 =>
   some [(PV.b (((r10).1.getD 0 PV.u)).toB)]
   else some [(PV.b false)])
   else some [(PV.b false)])
   else some [(PV.b false)])
   else some [(PV.b false)])
   else some [(PV.b false)])
   else some [(PV.b false)])).bind fun r11 =>
  some ([(PV.b ((r11.getD 0 PV.u)).toB)], [])
  else (bif (a1 == (3 : Int)) then ((bif (!((r1.getD 0 PV.u)).toB) then (bif (!((r2.getD 0 PV.u)).toB) then (bif (!((r3.getD 0 PV.u)).toB) then (cW f_celluloidref08_Right [(PV.l a9), (PV.l a10)] []).bind fun r12 =>
   some [(PV.b (((r12).1.getD 0 PV.u)).toB)]
   else some [(PV.b false)])
   else some [(PV.b false)])
   else some [(PV.b false)])).bind fun r13 =>
  some ([(PV.b ((r13.getD 0 PV.u)).toB)], [])
  else (bif (a1 == (4 : Int)) then ((bif (!((r1.getD 0 PV.u)).toB) then (bif (!(decide ((IntKind.wrap .i64 ((((List.length a9) : Nat) : Int) + (((List.length a10) : Nat) : Int))) > (0 : Int)))) then (bif (!((r2.getD 0 PV.u)).toB) then (cW f_celluloidref09_in [(PV.i a2), (PV.i (-65536 : Int)), (PV.i (65535 : Int))] []).bind fun r14 =>
   (bif (((r14).1.getD 0 PV.u)).toB then (cW f_celluloidref09_in [(PV.i a3), (PV.i (-65536 : Int)), (PV.i (65535 : Int))] []).bind fun r15 =>
   some [(PV.b (((r15).1.getD 0 PV.u)).toB)]
   else some [(PV.b false)])
   else some [(PV.b false)])
   else some [(PV.b false)])
   else some [(PV.b false)])).bind fun r16 =>
  some ([(PV.b ((r16.getD 0 PV.u)).toB)], [])
  else (bif (a1 == (5 : Int)) then ((bif (!((r1.getD 0 PV.u)).toB) then (bif (!(decide ((IntKind.wrap .i64 ((((List.length a9) : Nat) : Int) + (((List.length a10) : Nat) : Int))) > (0 : Int)))) then (cW f_celluloidref09_in [(PV.i a2), (PV.i (-65536 : Int)), (PV.i (65535 : Int))] []).bind fun r17 =>
   (bif (((r17).1.getD 0 PV.u)).toB then (cW f_celluloidref09_in [(PV.i a3), (PV.i (-65536 : Int)), (PV.i (65535 : Int))] []).bind fun r18 =>
   (bif (((r18).1.getD 0 PV.u)).toB then (cW f_celluloidref09_in [(PV.i a4), (PV.i (-65536 : Int)), (PV.i (65535 : Int))] []).bind fun r19 =>
   (bif (((r19).1.getD 0 PV.u)).toB then (cW f_celluloidref09_in [(PV.i a5), (PV.i (-65536 : Int)), (PV.i (65535 : Int))] []).bind fun r20 =>
   some [(PV.b (((r20).1.getD 0 PV.u)).toB)]
   else some [(PV.b false)])
   else some [(PV.b false)])
   else some [(PV.b false)])
   else some [(PV.b false)])
   else some [(PV.b false)])).bind fun r21 =>
  some ([(PV.b ((r21.getD 0 PV.u)).toB)], [])
  else some ([(PV.b false)], [])))))) := by rw [cW_fix]; generalize cW = C; generalize rW = R; kernel_rfl
/- slices.IndexFunc[[]int,int] -/
/- celluloid/celluloidref09.Right -/
theorem w_celluloidref09_Right (a1 : Int) (a2 : Int) (a3 : Int) (a4 : Int) (a5 : Int) (a6 : List (List PV)) (a7 : List (List PV)) (a8 : List (List PV)) : cW f_celluloidref09_Right [.i a1, .i a2, .i a3, .i a4, .i a5, .l a6, .l a7, .l a8] [] =
  ((cW f_celluloidref09_in [(PV.i a1), (PV.i (0 : Int)), (PV.i (65535 : Int))] []).bind fun r1 =>
   (bif (((r1).1.getD 0 PV.u)).toB then (cW f_celluloidref07_Rect [(PV.i a2), (PV.i a3), (PV.i a4), (PV.i a5)] []).bind fun r2 =>
   (bif (((r2).1.getD 0 PV.u)).toB then (cW f_celluloidref08_Right [(PV.l a6), (PV.l a7)] []).bind fun r3 =>
   (bif (((r3).1.getD 0 PV.u)).toB then (cW f_celluloidref09_Records [(PV.i (((List.length a6) : Nat) : Int)), (PV.i (((List.length a7) : Nat) : Int)), (PV.l a8), (PV.i (0 : Int))] []).bind fun r4 =>
   some [(PV.b (((r4).1.getD 0 PV.u)).toB)]
   else some [(PV.b false)])
   else some [(PV.b false)])
   else some [(PV.b false)])).bind fun r5 =>
  some ([(PV.b ((r5.getD 0 PV.u)).toB)], []) := by rw [cW_fix]; generalize cW = C; generalize rW = R; kernel_rfl
/- celluloid/celluloidref09.in -/
theorem w_celluloidref09_in (a1 : Int) (a2 : Int) (a3 : Int) : cW f_celluloidref09_in [.i a1, .i a2, .i a3] [] =
  ((bif (decide (a1 ≥ a2)) then some [(PV.b (decide (a1 ≤ a3)))]
   else some [(PV.b false)])).bind fun r1 =>
  some ([(PV.b ((r1.getD 0 PV.u)).toB)], []) := by rw [cW_fix]; generalize cW = C; generalize rW = R; kernel_rfl
/- celluloid/celluloidref09.Small -/
noncomputable def S_celluloidref09_Small_L0 (x1 : List (List PV)) (x2 : Int) (x3 : Int) : St := mkSt [(0, .v (.sl 176 x1)), (1, .v (.int .i64 x2)), (5, .v (.int .i64 x3))] [] 1000 33
noncomputable def at_celluloidref09_Small_L0 : List Item := (atLoop Tryz.f46 0)
theorem w_celluloidref09_Small (a1 : List (List PV)) (a2 : Int) : cW f_celluloidref09_Small [.l a1, .i a2] [] =
  rW f_celluloidref09_Small [] at_celluloidref09_Small_L0 (S_celluloidref09_Small_L0 (a1) (a2) ((0 : Int))) := by rw [cW_fix]; generalize cW = C; generalize rW = R; kernel_rfl
theorem w_celluloidref09_Small_L0 (x1 : List (List PV)) (x2 : Int) (x3 : Int) : rW f_celluloidref09_Small [] at_celluloidref09_Small_L0 (S_celluloidref09_Small_L0 x1 x2 x3) =
  ((bif (decide (x3 < (((List.length x1) : Nat) : Int))) then some [(PV.b (decide (x3 < x2)))]
   else some [(PV.b false)])).bind fun r1 =>
  (bif ((r1.getD 0 PV.u)).toB then (bif (inB x3 (List.length x1)) then (bif (inB x3 (List.length x1)) then (cW f_celluloidref08_Small [(PV.l (((elemAt x1 x3).getD 8 PV.u)).toL), (PV.l (((elemAt x1 x3).getD 9 PV.u)).toL)] []).bind fun r2 =>
  (bif (!(((r2).1.getD 0 PV.u)).toB) then some ([(PV.b false)], [])
  else rW f_celluloidref09_Small [] at_celluloidref09_Small_L0 (S_celluloidref09_Small_L0 (x1) (x2) ((IntKind.wrap .i64 (x3 + (1 : Int))))))
  else none)
  else none)
  else some ([(PV.b (decide ((((List.length x1) : Nat) : Int) ≤ x2)))], [])) := by rw [rW_fix]; generalize cW = C; generalize rW = R; kernel_rfl
/- celluloid/shape.within$1 -/
/- celluloid/shape.same -/
/- celluloid/shape.within -/
end Go.AI
