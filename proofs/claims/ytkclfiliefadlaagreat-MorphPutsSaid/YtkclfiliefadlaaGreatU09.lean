/- Equations of the program's functions, on. -/
import Derived.Test.YtkclfiliefadlaaGreatU08
import Derived.KernelRfl
set_option linter.unusedVariables false
set_option maxRecDepth 100000
namespace Go.AI
open Go Go.Proofs
noncomputable def S_q76 (x1 x2 x3 : Int) (x4 : List (List PV)) (x5 x6 : Int) : St := mkSt [(0, .v (.int .i64 x1)), (1, .v (.int .i64 x2)), (3, .v (.int .i64 x3)), (27, .v (.sl 52 x4)), (28, .v (.int .i64 x5)), (29, .v (.int .i64 x6)), (39, .any), (40, .any), (41, .any), (42, .any), (43, .any), (44, .any), (45, .any), (48, .any), (49, .any), (50, .any), (51, .any), (52, .any), (53, .any), (54, .any)] [] 1000 66
noncomputable def at_q76 : List Item := (atLoop Tryz.f47 0)
theorem w_q117 (a1 a2 : Int) (a3 : List (List PV)) (a4 : Int) : cW f_q117 [.i a1, .i a2, .l a3, .i a4] [] =
  ((cW f_q121 [PV.i 0, PV.i 15, (PV.l (List.set (List.set [[PV.i 0], [PV.i 0]] 0 [PV.i a1]) 1 [PV.i a2]))] []).bind fun r1 =>
   (bif (!(r1.1.getD 0 PV.u).toB) then some [PV.b true]
   else (cW f_q121 [PV.i 0, PV.i 2, (PV.l (List.set [[PV.i 0]] 0 [PV.i a4]))] []).bind fun r2 =>
   (bif (!(r2.1.getD 0 PV.u).toB) then some [PV.b true]
   else some [(PV.b (decide (((a3.length : Nat) : Int) > (512 : Int))))]))).bind fun r3 =>
  (bif ((r3.getD 0 PV.u)).toB then some ([PV.b false], [])
  else rW f_q117 [] at_q76 (S_q76 (a1) (a2) (a4) (a3) (((a3.length : Nat) : Int)) 0)) := by rw [cW_fix]; generalize cW = C; generalize rW = R; kernel_rfl
theorem w_q76 (x1 x2 x3 : Int) (x4 : List (List PV)) (x5 x6 : Int) : rW f_q117 [] at_q76 (S_q76 x1 x2 x3 x4 x5 x6) =
  (bif (decide (x6 < x5)) then (bif (inB x6 (List.length x4)) then ((cW f_q213 [PV.i ((elemAt x4 x6).getD 0 PV.u).toI, PV.i ((elemAt x4 x6).getD 1 PV.u).toI, PV.i ((elemAt x4 x6).getD 2 PV.u).toI, PV.i ((elemAt x4 x6).getD 3 PV.u).toI, PV.i ((elemAt x4 x6).getD 4 PV.u).toI, PV.i ((elemAt x4 x6).getD 5 PV.u).toI, PV.i ((elemAt x4 x6).getD 6 PV.u).toI, PV.i ((elemAt x4 x6).getD 7 PV.u).toI, PV.l ((elemAt x4 x6).getD 8 PV.u).toL, PV.l ((elemAt x4 x6).getD 9 PV.u).toL, PV.i x1, PV.i x2] []).bind fun r4 =>
   (bif (!(r4.1.getD 0 PV.u).toB) then some [PV.b true]
   else (bif (((elemAt x4 x6).getD 0 PV.u).toI == (3 : Int)) then (bif (x3 != (0 : Int)) then some [PV.b true]
   else (bif (((elemAt x4 x6).getD 0 PV.u).toI == (2 : Int)) then some [(PV.b (x3 == (2 : Int)))]
   else some [PV.b false]))
   else (bif (((elemAt x4 x6).getD 0 PV.u).toI == (2 : Int)) then some [(PV.b (x3 == (2 : Int)))]
   else some [PV.b false])))).bind fun r5 =>
  (bif ((r5.getD 0 PV.u)).toB then some ([PV.b false], [])
  else (bif (((elemAt x4 x6).getD 0 PV.u).toI == (3 : Int)) then rW f_q117 [] at_q76 (S_q76 ((((List.length ((elemAt x4 x6).getD 8 PV.u).toL) : Nat) : Int)) ((((List.length ((elemAt x4 x6).getD 9 PV.u).toL) : Nat) : Int)) x3 x4 x5 ((IntKind.wrap .i64 (x6 + (1 : Int)))))
  else rW f_q117 [] at_q76 (S_q76 x1 x2 x3 x4 x5 ((IntKind.wrap .i64 (x6 + (1 : Int)))))))
  else none)
  else some ([PV.b true], [])) := by rw [rW_fix]; generalize cW = C; generalize rW = R; kernel_rfl
noncomputable def S_q80 (x1 : Int) (x2 : List UInt8) (x3 : Int) (x4 : List (List PV)) (x5 : List UInt8) (x6 x7 : Int) (x8 x9 : Int) (x10 x11 : Int) : St := mkSt [(3, .v (.int .i64 x1)), (9, .v (.ptr (.n 1 2 0) 0)), (14, .v (.ptr (.n 4 6 0) 0))] [((.n 1 2 0), .cells 23 [.str x2, .int .i64 x3]), ((.c (.n 4 6 0) 7), .row 52 x4), ((.n 4 6 0), .cells 184 [.str x5, .int .i64 x6, .int .i64 x7, .int .i64 x8, .int .i64 x9, .int .i64 x10, .int .i64 x11, .wr (.c (.n 4 6 0) 7)])] 1000 88
noncomputable def at_q80 : List Item := (atLoop Tryz.f63 0)
theorem w_q143 (a1 : List UInt8) (a2 a3 : Int) (a4 a5 : Int) : cW f_q143 [.s a1, .i a2, .i a3, .i a4, .i a5] [] =
  ((cW f_q121 [PV.i 0, PV.i 15, (PV.l (List.set (List.set [[PV.i 0], [PV.i 0]] 0 [PV.i a3]) 1 [PV.i a4]))] []).bind fun r1 =>
   (bif (!(r1.1.getD 0 PV.u).toB) then some [PV.b true]
   else (cW f_q121 [PV.i 0, PV.i 2, (PV.l (List.set [[PV.i 0]] 0 [PV.i a5]))] []).bind fun r2 =>
   some [(PV.b (!(r2.1.getD 0 PV.u).toB))])).bind fun r3 =>
  (bif ((r3.getD 0 PV.u)).toB then some ([(PV.l []), (PV.s []), PV.i 0, PV.i 1], [])
  else (cW f_q170 [PV.s a1, PV.i a2, PV.i 0] []).bind fun r4 =>
  (cW f_q183 [PV.s a1, PV.i a2] []).bind fun r5 =>
  (cW f_q20 [PV.u, PV.i 4] [(t_q1, [PV.s (r5.1.getD 0 PV.u).toS, PV.i (r5.1.getD 1 PV.u).toI, PV.i (r4.1.getD 3 PV.u).toI, PV.i a3, PV.i a4, PV.i 0, PV.i 0, (PV.l [])])]).bind fun r6 =>
  (cW f_q20 [PV.u, PV.i 4] [(t_q1, [PV.s ((r6.2.getD 0 (0, [])).2.getD 0 PV.u).toS, PV.i ((r6.2.getD 0 (0, [])).2.getD 1 PV.u).toI, PV.i ((r6.2.getD 0 (0, [])).2.getD 2 PV.u).toI, PV.i ((r6.2.getD 0 (0, [])).2.getD 3 PV.u).toI, PV.i ((r6.2.getD 0 (0, [])).2.getD 4 PV.u).toI, PV.i ((r6.2.getD 0 (0, [])).2.getD 5 PV.u).toI, PV.i ((r6.2.getD 0 (0, [])).2.getD 6 PV.u).toI, PV.l ((r6.2.getD 0 (0, [])).2.getD 7 PV.u).toL])]).bind fun r7 =>
  rW f_q143 [] at_q80 (S_q80 (a5) ([]) 0 (((r7.2.getD 0 (0, [])).2.getD 7 PV.u).toL) (((r7.2.getD 0 (0, [])).2.getD 0 PV.u).toS) (((r7.2.getD 0 (0, [])).2.getD 1 PV.u).toI) (((r7.2.getD 0 (0, [])).2.getD 2 PV.u).toI) (((r7.2.getD 0 (0, [])).2.getD 3 PV.u).toI) (((r7.2.getD 0 (0, [])).2.getD 4 PV.u).toI) ((r6.1.getD 0 PV.u).toI) ((r7.1.getD 0 PV.u).toI))) := by rw [cW_fix]; generalize cW = C; generalize rW = R; kernel_rfl
theorem w_q80 (x1 : Int) (x2 : List UInt8) (x3 : Int) (x4 : List (List PV)) (x5 : List UInt8) (x6 x7 : Int) (x8 x9 : Int) (x10 x11 : Int) : rW f_q143 [] at_q80 (S_q80 x1 x2 x3 x4 x5 x6 x7 x8 x9 x10 x11) =
  (bif (x7 == (0 : Int)) then (cW f_q20 [PV.u, PV.i 1] [(t_q1, [PV.s x5, PV.i x6, PV.i x7, PV.i x8, PV.i x9, PV.i x10, PV.i x11, PV.l x4])]).bind fun r8 =>
  (bif ((r8.1.getD 0 PV.u).toI == (1 : Int)) then (cW f_q157 [PV.u] [(t_q1, [PV.s ((r8.2.getD 0 (0, [])).2.getD 0 PV.u).toS, PV.i ((r8.2.getD 0 (0, [])).2.getD 1 PV.u).toI, PV.i ((r8.2.getD 0 (0, [])).2.getD 2 PV.u).toI, PV.i ((r8.2.getD 0 (0, [])).2.getD 3 PV.u).toI, PV.i ((r8.2.getD 0 (0, [])).2.getD 4 PV.u).toI, PV.i ((r8.2.getD 0 (0, [])).2.getD 5 PV.u).toI, PV.i ((r8.2.getD 0 (0, [])).2.getD 6 PV.u).toI, PV.l ((r8.2.getD 0 (0, [])).2.getD 7 PV.u).toL])]).bind fun r9 =>
  rW f_q143 [] at_q80 (S_q80 x1 x2 x3 (((r9.2.getD 0 (0, [])).2.getD 7 PV.u).toL) (((r9.2.getD 0 (0, [])).2.getD 0 PV.u).toS) (((r9.2.getD 0 (0, [])).2.getD 1 PV.u).toI) (((r9.2.getD 0 (0, [])).2.getD 2 PV.u).toI) (((r9.2.getD 0 (0, [])).2.getD 3 PV.u).toI) (((r9.2.getD 0 (0, [])).2.getD 4 PV.u).toI) (((r9.2.getD 0 (0, [])).2.getD 5 PV.u).toI) (((r9.2.getD 0 (0, [])).2.getD 6 PV.u).toI))
  else (cW f_q20 [PV.u, PV.i 5] [(t_q1, [PV.s ((r8.2.getD 0 (0, [])).2.getD 0 PV.u).toS, PV.i ((r8.2.getD 0 (0, [])).2.getD 1 PV.u).toI, PV.i ((r8.2.getD 0 (0, [])).2.getD 2 PV.u).toI, PV.i ((r8.2.getD 0 (0, [])).2.getD 3 PV.u).toI, PV.i ((r8.2.getD 0 (0, [])).2.getD 4 PV.u).toI, PV.i ((r8.2.getD 0 (0, [])).2.getD 5 PV.u).toI, PV.i ((r8.2.getD 0 (0, [])).2.getD 6 PV.u).toI, PV.l ((r8.2.getD 0 (0, [])).2.getD 7 PV.u).toL])]).bind fun r10 =>
  (bif ((r10.1.getD 0 PV.u).toI == (0 : Int)) then (bif (((r10.2.getD 0 (0, [])).2.getD 2 PV.u).toI != (0 : Int)) then some ([(PV.l []), (PV.s []), PV.i 0, PV.i ((r10.2.getD 0 (0, [])).2.getD 2 PV.u).toI], [])
  else (cW f_q183 [PV.s ((r10.2.getD 0 (0, [])).2.getD 0 PV.u).toS, PV.i ((r10.2.getD 0 (0, [])).2.getD 1 PV.u).toI] []).bind fun r11 =>
  some ([PV.l ((r10.2.getD 0 (0, [])).2.getD 7 PV.u).toL, PV.s (r11.1.getD 0 PV.u).toS, PV.i (r11.1.getD 1 PV.u).toI, PV.i 0], []))
  else (cW f_q4 [PV.u, PV.i (r10.1.getD 0 PV.u).toI, PV.i x1] [(t_q1, [PV.s ((r10.2.getD 0 (0, [])).2.getD 0 PV.u).toS, PV.i ((r10.2.getD 0 (0, [])).2.getD 1 PV.u).toI, PV.i ((r10.2.getD 0 (0, [])).2.getD 2 PV.u).toI, PV.i ((r10.2.getD 0 (0, [])).2.getD 3 PV.u).toI, PV.i ((r10.2.getD 0 (0, [])).2.getD 4 PV.u).toI, PV.i ((r10.2.getD 0 (0, [])).2.getD 5 PV.u).toI, PV.i ((r10.2.getD 0 (0, [])).2.getD 6 PV.u).toI, PV.l ((r10.2.getD 0 (0, [])).2.getD 7 PV.u).toL])]).bind fun r12 =>
  rW f_q143 [] at_q80 (S_q80 x1 x2 x3 (((r12.2.getD 0 (0, [])).2.getD 7 PV.u).toL) (((r12.2.getD 0 (0, [])).2.getD 0 PV.u).toS) (((r12.2.getD 0 (0, [])).2.getD 1 PV.u).toI) (((r12.2.getD 0 (0, [])).2.getD 2 PV.u).toI) (((r12.2.getD 0 (0, [])).2.getD 3 PV.u).toI) (((r12.2.getD 0 (0, [])).2.getD 4 PV.u).toI) (((r12.2.getD 0 (0, [])).2.getD 5 PV.u).toI) (((r12.2.getD 0 (0, [])).2.getD 6 PV.u).toI))))
  else (bif (x7 != (0 : Int)) then some ([(PV.l []), (PV.s []), PV.i 0, PV.i x7], [])
  else (cW f_q183 [PV.s x5, PV.i x6] []).bind fun r13 =>
  some ([PV.l x4, PV.s (r13.1.getD 0 PV.u).toS, PV.i (r13.1.getD 1 PV.u).toI, PV.i 0], []))) := by rw [rW_fix]; generalize cW = C; generalize rW = R; kernel_rfl
/- celluloid/celluloidref09.several -/
theorem w_q78 (a2 a3 : Int) (a4 a5 : Int) (a6 a7 : Int) (a8 a9 : Int) (a10 a11 : List (List PV)) (p0_1 : List UInt8) (p0_2 p0_3 p0_4 : Int) : cW f_q78 [.u, .i a2, .i a3, .i a4, .i a5, .i a6, .i a7, .i a8, .i a9, .l a10, .l a11] [(t_q5, [.s p0_1, .i p0_2, .i p0_3, .i p0_4])] =
  (bif (a2 == (1 : Int)) then (cW f_q133 [(PV.l (List.set (List.set [[PV.i 0], [PV.i 0]] 0 [PV.i a3]) 1 [PV.i a4]))] []).bind fun r1 =>
  (cW f_q18 [PV.u, PV.i 1, PV.i 6] [(t_q5, [PV.s p0_1, PV.i p0_2, PV.i p0_3, PV.i p0_4])]).bind fun r2 =>
  (cW f_q18 [PV.u, PV.i (r1.1.getD 0 PV.u).toI, PV.i 5] [(t_q5, [PV.s ((r2.2.getD 0 (0, [])).2.getD 0 PV.u).toS, PV.i ((r2.2.getD 0 (0, [])).2.getD 1 PV.u).toI, PV.i ((r2.2.getD 0 (0, [])).2.getD 2 PV.u).toI, PV.i ((r2.2.getD 0 (0, [])).2.getD 3 PV.u).toI])]).bind fun r3 =>
  (cW f_q40 [PV.u, PV.i (r1.1.getD 0 PV.u).toI, (PV.l (List.set (List.set [[PV.i 0], [PV.i 0]] 0 [PV.i a3]) 1 [PV.i a4]))] [(t_q5, [PV.s ((r3.2.getD 0 (0, [])).2.getD 0 PV.u).toS, PV.i ((r3.2.getD 0 (0, [])).2.getD 1 PV.u).toI, PV.i ((r3.2.getD 0 (0, [])).2.getD 2 PV.u).toI, PV.i ((r3.2.getD 0 (0, [])).2.getD 3 PV.u).toI])]).bind fun r4 =>
  some ([], [(t_q5, [PV.s ((r4.2.getD 0 (0, [])).2.getD 0 PV.u).toS, PV.i ((r4.2.getD 0 (0, [])).2.getD 1 PV.u).toI, PV.i ((r4.2.getD 0 (0, [])).2.getD 2 PV.u).toI, PV.i ((r4.2.getD 0 (0, [])).2.getD 3 PV.u).toI])])
  else (bif (a2 == (2 : Int)) then (cW f_q21 [PV.u, PV.i a2, PV.i a3, PV.i a4, PV.i a5, PV.i a6, PV.i a7, PV.i a8, PV.i a9, PV.l a10, PV.l a11] [(t_q5, [PV.s p0_1, PV.i p0_2, PV.i p0_3, PV.i p0_4])]).bind fun r5 =>
  some ([], [(t_q5, [PV.s ((r5.2.getD 0 (0, [])).2.getD 0 PV.u).toS, PV.i ((r5.2.getD 0 (0, [])).2.getD 1 PV.u).toI, PV.i ((r5.2.getD 0 (0, [])).2.getD 2 PV.u).toI, PV.i ((r5.2.getD 0 (0, [])).2.getD 3 PV.u).toI])])
  else (bif (a2 == (3 : Int)) then (cW f_q18 [PV.u, PV.i 16, PV.i 6] [(t_q5, [PV.s p0_1, PV.i p0_2, PV.i p0_3, PV.i p0_4])]).bind fun r6 =>
  (cW f_q178 [PV.s ((r6.2.getD 0 (0, [])).2.getD 0 PV.u).toS, PV.i ((r6.2.getD 0 (0, [])).2.getD 1 PV.u).toI, PV.l a10, PV.l a11] []).bind fun r7 =>
  (cW f_q129 [PV.u, (PV.i ((a10.length : Nat) : Int)), (PV.i ((a11.length : Nat) : Int))] [(t_q5, [PV.s (r7.1.getD 0 PV.u).toS, PV.i (r7.1.getD 1 PV.u).toI, PV.i ((r6.2.getD 0 (0, [])).2.getD 2 PV.u).toI, PV.i ((r6.2.getD 0 (0, [])).2.getD 3 PV.u).toI])]).bind fun r8 =>
  some ([], [(t_q5, [PV.s ((r8.2.getD 0 (0, [])).2.getD 0 PV.u).toS, PV.i ((r8.2.getD 0 (0, [])).2.getD 1 PV.u).toI, PV.i ((r8.2.getD 0 (0, [])).2.getD 2 PV.u).toI, PV.i ((r8.2.getD 0 (0, [])).2.getD 3 PV.u).toI])])
  else (bif (a2 == (4 : Int)) then (cW f_q133 [(PV.l (List.set (List.set [[PV.i 0], [PV.i 0]] 0 [PV.i a3]) 1 [PV.i a4]))] []).bind fun r9 =>
  (cW f_q18 [PV.u, PV.i 3, PV.i 2] [(t_q5, [PV.s p0_1, PV.i p0_2, PV.i p0_3, PV.i p0_4])]).bind fun r10 =>
  (cW f_q18 [PV.u, (PV.i (IntKind.wrap .i64 ((bif (decide ((2 : Int) > (r9.1.getD 0 PV.u).toI)) then (2 : Int) else (r9.1.getD 0 PV.u).toI) - (2 : Int)))), PV.i 4] [(t_q5, [PV.s ((r10.2.getD 0 (0, [])).2.getD 0 PV.u).toS, PV.i ((r10.2.getD 0 (0, [])).2.getD 1 PV.u).toI, PV.i ((r10.2.getD 0 (0, [])).2.getD 2 PV.u).toI, PV.i ((r10.2.getD 0 (0, [])).2.getD 3 PV.u).toI])]).bind fun r11 =>
  (bif (a3 == (0 : Int)) then (cW f_q18 [PV.u, PV.i 1, PV.i 2] [(t_q5, [PV.s ((r11.2.getD 0 (0, [])).2.getD 0 PV.u).toS, PV.i ((r11.2.getD 0 (0, [])).2.getD 1 PV.u).toI, PV.i ((r11.2.getD 0 (0, [])).2.getD 2 PV.u).toI, PV.i ((r11.2.getD 0 (0, [])).2.getD 3 PV.u).toI])]).bind fun r12 =>
  (cW f_q40 [PV.u, (PV.i (bif (decide ((2 : Int) > (r9.1.getD 0 PV.u).toI)) then (2 : Int) else (r9.1.getD 0 PV.u).toI)), (PV.l (List.set [[PV.i 0]] 0 [PV.i a4]))] [(t_q5, [PV.s ((r12.2.getD 0 (0, [])).2.getD 0 PV.u).toS, PV.i ((r12.2.getD 0 (0, [])).2.getD 1 PV.u).toI, PV.i ((r12.2.getD 0 (0, [])).2.getD 2 PV.u).toI, PV.i ((r12.2.getD 0 (0, [])).2.getD 3 PV.u).toI])]).bind fun r13 =>
  some ([], [(t_q5, [PV.s ((r13.2.getD 0 (0, [])).2.getD 0 PV.u).toS, PV.i ((r13.2.getD 0 (0, [])).2.getD 1 PV.u).toI, PV.i ((r13.2.getD 0 (0, [])).2.getD 2 PV.u).toI, PV.i ((r13.2.getD 0 (0, [])).2.getD 3 PV.u).toI])])
  else (bif (a4 == (0 : Int)) then (cW f_q18 [PV.u, PV.i 0, PV.i 2] [(t_q5, [PV.s ((r11.2.getD 0 (0, [])).2.getD 0 PV.u).toS, PV.i ((r11.2.getD 0 (0, [])).2.getD 1 PV.u).toI, PV.i ((r11.2.getD 0 (0, [])).2.getD 2 PV.u).toI, PV.i ((r11.2.getD 0 (0, [])).2.getD 3 PV.u).toI])]).bind fun r14 =>
  (cW f_q40 [PV.u, (PV.i (bif (decide ((2 : Int) > (r9.1.getD 0 PV.u).toI)) then (2 : Int) else (r9.1.getD 0 PV.u).toI)), (PV.l (List.set [[PV.i 0]] 0 [PV.i a3]))] [(t_q5, [PV.s ((r14.2.getD 0 (0, [])).2.getD 0 PV.u).toS, PV.i ((r14.2.getD 0 (0, [])).2.getD 1 PV.u).toI, PV.i ((r14.2.getD 0 (0, [])).2.getD 2 PV.u).toI, PV.i ((r14.2.getD 0 (0, [])).2.getD 3 PV.u).toI])]).bind fun r15 =>
  some ([], [(t_q5, [PV.s ((r15.2.getD 0 (0, [])).2.getD 0 PV.u).toS, PV.i ((r15.2.getD 0 (0, [])).2.getD 1 PV.u).toI, PV.i ((r15.2.getD 0 (0, [])).2.getD 2 PV.u).toI, PV.i ((r15.2.getD 0 (0, [])).2.getD 3 PV.u).toI])])
  else (cW f_q18 [PV.u, PV.i 1, PV.i 1] [(t_q5, [PV.s ((r11.2.getD 0 (0, [])).2.getD 0 PV.u).toS, PV.i ((r11.2.getD 0 (0, [])).2.getD 1 PV.u).toI, PV.i ((r11.2.getD 0 (0, [])).2.getD 2 PV.u).toI, PV.i ((r11.2.getD 0 (0, [])).2.getD 3 PV.u).toI])]).bind fun r16 =>
  (cW f_q40 [PV.u, (PV.i (bif (decide ((2 : Int) > (r9.1.getD 0 PV.u).toI)) then (2 : Int) else (r9.1.getD 0 PV.u).toI)), (PV.l (List.set (List.set [[PV.i 0], [PV.i 0]] 0 [PV.i a3]) 1 [PV.i a4]))] [(t_q5, [PV.s ((r16.2.getD 0 (0, [])).2.getD 0 PV.u).toS, PV.i ((r16.2.getD 0 (0, [])).2.getD 1 PV.u).toI, PV.i ((r16.2.getD 0 (0, [])).2.getD 2 PV.u).toI, PV.i ((r16.2.getD 0 (0, [])).2.getD 3 PV.u).toI])]).bind fun r17 =>
  some ([], [(t_q5, [PV.s ((r17.2.getD 0 (0, [])).2.getD 0 PV.u).toS, PV.i ((r17.2.getD 0 (0, [])).2.getD 1 PV.u).toI, PV.i ((r17.2.getD 0 (0, [])).2.getD 2 PV.u).toI, PV.i ((r17.2.getD 0 (0, [])).2.getD 3 PV.u).toI])])))
  else (bif (a2 == (5 : Int)) then (cW f_q133 [(PV.l (List.set (List.set (List.set (List.set [[PV.i 0], [PV.i 0], [PV.i 0], [PV.i 0]] 0 [PV.i a5]) 1 [PV.i a6]) 2 [PV.i a3]) 3 [PV.i a4]))] []).bind fun r18 =>
  (cW f_q18 [PV.u, PV.i 2, PV.i 2] [(t_q5, [PV.s p0_1, PV.i p0_2, PV.i p0_3, PV.i p0_4])]).bind fun r19 =>
  (cW f_q18 [PV.u, (PV.i (IntKind.wrap .i64 ((bif (decide ((2 : Int) > (r18.1.getD 0 PV.u).toI)) then (2 : Int) else (r18.1.getD 0 PV.u).toI) - (2 : Int)))), PV.i 4] [(t_q5, [PV.s ((r19.2.getD 0 (0, [])).2.getD 0 PV.u).toS, PV.i ((r19.2.getD 0 (0, [])).2.getD 1 PV.u).toI, PV.i ((r19.2.getD 0 (0, [])).2.getD 2 PV.u).toI, PV.i ((r19.2.getD 0 (0, [])).2.getD 3 PV.u).toI])]).bind fun r20 =>
  (cW f_q40 [PV.u, (PV.i (bif (decide ((2 : Int) > (r18.1.getD 0 PV.u).toI)) then (2 : Int) else (r18.1.getD 0 PV.u).toI)), (PV.l (List.set (List.set (List.set (List.set [[PV.i 0], [PV.i 0], [PV.i 0], [PV.i 0]] 0 [PV.i a5]) 1 [PV.i a6]) 2 [PV.i a3]) 3 [PV.i a4]))] [(t_q5, [PV.s ((r20.2.getD 0 (0, [])).2.getD 0 PV.u).toS, PV.i ((r20.2.getD 0 (0, [])).2.getD 1 PV.u).toI, PV.i ((r20.2.getD 0 (0, [])).2.getD 2 PV.u).toI, PV.i ((r20.2.getD 0 (0, [])).2.getD 3 PV.u).toI])]).bind fun r21 =>
  some ([], [(t_q5, [PV.s ((r21.2.getD 0 (0, [])).2.getD 0 PV.u).toS, PV.i ((r21.2.getD 0 (0, [])).2.getD 1 PV.u).toI, PV.i ((r21.2.getD 0 (0, [])).2.getD 2 PV.u).toI, PV.i ((r21.2.getD 0 (0, [])).2.getD 3 PV.u).toI])])
  else some ([], [(t_q5, [PV.s p0_1, PV.i p0_2, PV.i p0_3, PV.i p0_4])])))))) := by rw [cW_fix]; generalize cW = C; generalize rW = R; kernel_rfl
noncomputable def S_q86 (x1 : List (List PV)) (x2 x3 : Int) (x4 : List UInt8) (x5 : Int) (x6 : List UInt8) (x7 : Int) : St := mkSt [(1, .v (.sl 3 x1)), (2, .v (.int .i64 x2)), (3, .v (.ptr (.n 1 0 0) 0)), (6, .v (.ptr (.n 1 1 0) 0)), (7, .v (.int .i64 x3))] [((.n 1 0 0), .cells 163 [.str x4, .int .i64 x5]), ((.n 1 1 0), .cells 163 [.str x6, .int .i64 x7])] 1000 25
noncomputable def at_q86 : List Item := (atLoop Tryz.f103 0)
theorem w_q96 (a1 : List UInt8) (a2 : Int) (a3 : List (List PV)) (a4 : Int) : cW f_q96 [.s a1, .i a2, .l a3, .i a4] [] =
  rW f_q96 [] at_q86 (S_q86 (a3) (a4) 0 (a1) (a2) ([]) 0) := by rw [cW_fix]; generalize cW = C; generalize rW = R; kernel_rfl
theorem w_q86 (x1 : List (List PV)) (x2 x3 : Int) (x4 : List UInt8) (x5 : Int) (x6 : List UInt8) (x7 : Int) : rW f_q96 [] at_q86 (S_q86 x1 x2 x3 x4 x5 x6 x7) =
  (bif (decide (x3 < ((x1.length : Nat) : Int))) then (bif (inB x3 (List.length x1)) then (cW f_q165 [PV.s x4, PV.i x5, PV.i ((elemAt x1 x3).getD 0 PV.u).toI, PV.i x2] []).bind fun r1 =>
  rW f_q96 [] at_q86 (S_q86 x1 x2 ((IntKind.wrap .i64 (x3 + (1 : Int)))) ((r1.1.getD 0 PV.u).toS) ((r1.1.getD 1 PV.u).toI) x6 x7)
  else none)
  else some ([PV.s x4, PV.i x5], [])) := by rw [rW_fix]; generalize cW = C; generalize rW = R; kernel_rfl
noncomputable def S_q25 (x1 : Int) (x2 : List (List PV)) (x3 x4 : Int) (x5 : List UInt8) (x6 x7 : Int) (x8 x9 : Int) (x10 x11 : Int) (x12 x13 : Int) (x14 x15 x16 : Int) (x17 x18 : List (List PV)) : St := mkSt [(0, .v (.ptr (.p 0) 0)), (3, .v (.ptr (.n 1 0 0) 0)), (4, .v (.int .i64 x1)), (16, .v (.sl 3 x2)), (17, .v (.int .i64 x3)), (18, .v (.int .i64 x4))] [((.p 0), .cells 153 [.str x5, .int .i64 x6, .int .i64 x7, .int .i64 x8]), ((.n 1 0 0), .cells 52 [.int .i64 x9, .int .i64 x10, .int .i64 x11, .int .i64 x12, .int .i64 x13, .int .i64 x14, .int .i64 x15, .int .i64 x16, .sl 70 x17, .sl 74 x18])] 1000 63
noncomputable def at_q25 : List Item := (atLoop Tryz.f135 0)
noncomputable def S_q17 (x1 : List (List PV)) (x2 x3 : Int) (x4 : List UInt8) (x5 x6 x7 : Int) : St := mkSt [(0, .v (.ptr (.p 0) 0)), (39, .v (.sl 3 x1)), (40, .v (.int .i64 x2)), (41, .v (.int .i64 x3))] [((.p 0), .cells 153 [.str x4, .int .i64 x5, .int .i64 x6, .int .i64 x7])] 2000 63
noncomputable def at_q17 : List Item := (atLoop Tryz.f135 2)
theorem w_q21 (a2 a3 : Int) (a4 a5 : Int) (a6 a7 : Int) (a8 a9 : Int) (a10 a11 : List (List PV)) (p0_1 : List UInt8) (p0_2 p0_3 p0_4 : Int) : cW f_q21 [.u, .i a2, .i a3, .i a4, .i a5, .i a6, .i a7, .i a8, .i a9, .l a10, .l a11] [(t_q5, [.s p0_1, .i p0_2, .i p0_3, .i p0_4])] =
  rW f_q21 [t_q5] at_q25 (S_q25 0 ((List.set (List.set (List.set [[PV.i 0], [PV.i 0], [PV.i 0]] 0 [PV.i a7]) 1 [PV.i a8]) 2 [PV.i a9])) ((((List.length (List.set (List.set (List.set [[PV.i 0], [PV.i 0], [PV.i 0]] 0 [PV.i a7]) 1 [PV.i a8]) 2 [PV.i a9])) : Nat) : Int)) 0 (p0_1) (p0_2) (p0_3) (p0_4) (a2) (a3) (a4) (a5) (a6) (a7) (a8) (a9) (a10) (a11)) := by rw [cW_fix]; generalize cW = C; generalize rW = R; kernel_rfl
theorem w_q25 (x1 : Int) (x2 : List (List PV)) (x3 x4 : Int) (x5 : List UInt8) (x6 x7 : Int) (x8 x9 : Int) (x10 x11 : Int) (x12 x13 : Int) (x14 x15 x16 : Int) (x17 x18 : List (List PV)) : rW f_q21 [t_q5] at_q25 (S_q25 x1 x2 x3 x4 x5 x6 x7 x8 x9 x10 x11 x12 x13 x14 x15 x16 x17 x18) =
  (bif (decide (x4 < x3)) then (bif (inB x4 (List.length x2)) then (bif (decide (((elemAt x2 x4).getD 0 PV.u).toI ≥ (0 : Int))) then (bif (decide ((0 : Int) ≤ x4)) then rW f_q21 [t_q5] at_q25 (S_q25 ((bitsOp Go.BinOp.or .i64 x1 (shl .i64 (2 : Int) x4))) x2 x3 ((IntKind.wrap .i64 (x4 + (1 : Int)))) x5 x6 x7 x8 x9 x10 x11 x12 x13 x14 x15 x16 x17 x18)
  else none)
  else rW f_q21 [t_q5] at_q25 (S_q25 x1 x2 x3 ((IntKind.wrap .i64 (x4 + (1 : Int)))) x5 x6 x7 x8 x9 x10 x11 x12 x13 x14 x15 x16 x17 x18))
  else none)
  else (cW f_q18 [PV.u, PV.i x1, PV.i 6] [(t_q5, [PV.s x5, PV.i x6, PV.i x7, PV.i x8])]).bind fun r1 =>
  rW f_q21 [t_q5] at_q17 (S_q17 ((List.set (List.set (List.set [[PV.i 0], [PV.i 0], [PV.i 0]] 0 [PV.i x14]) 1 [PV.i x15]) 2 [PV.i x16])) ((((List.length (List.set (List.set (List.set [[PV.i 0], [PV.i 0], [PV.i 0]] 0 [PV.i x14]) 1 [PV.i x15]) 2 [PV.i x16])) : Nat) : Int)) 0 (((r1.2.getD 0 (0, [])).2.getD 0 PV.u).toS) (((r1.2.getD 0 (0, [])).2.getD 1 PV.u).toI) (((r1.2.getD 0 (0, [])).2.getD 2 PV.u).toI) (((r1.2.getD 0 (0, [])).2.getD 3 PV.u).toI))) := by rw [rW_fix]; generalize cW = C; generalize rW = R; kernel_rfl
theorem w_q17 (x1 : List (List PV)) (x2 x3 : Int) (x4 : List UInt8) (x5 x6 x7 : Int) : rW f_q21 [t_q5] at_q17 (S_q17 x1 x2 x3 x4 x5 x6 x7) =
  (bif (decide (x3 < x2)) then (bif (inB x3 (List.length x1)) then (bif (x3 == (2 : Int)) then (bif (decide (((elemAt x1 x3).getD 0 PV.u).toI ≥ (0 : Int))) then (cW f_q18 [PV.u, PV.i ((elemAt x1 x3).getD 0 PV.u).toI, PV.i x7] [(t_q5, [PV.s x4, PV.i x5, PV.i x6, PV.i x7])]).bind fun r2 =>
  rW f_q21 [t_q5] at_q17 (S_q17 x1 x2 ((IntKind.wrap .i64 (x3 + (1 : Int)))) (((r2.2.getD 0 (0, [])).2.getD 0 PV.u).toS) (((r2.2.getD 0 (0, [])).2.getD 1 PV.u).toI) (((r2.2.getD 0 (0, [])).2.getD 2 PV.u).toI) (((r2.2.getD 0 (0, [])).2.getD 3 PV.u).toI))
  else rW f_q21 [t_q5] at_q17 (S_q17 x1 x2 ((IntKind.wrap .i64 (x3 + (1 : Int)))) x4 x5 x6 x7))
  else (bif (decide (((elemAt x1 x3).getD 0 PV.u).toI ≥ (0 : Int))) then (cW f_q18 [PV.u, PV.i ((elemAt x1 x3).getD 0 PV.u).toI, PV.i x6] [(t_q5, [PV.s x4, PV.i x5, PV.i x6, PV.i x7])]).bind fun r3 =>
  rW f_q21 [t_q5] at_q17 (S_q17 x1 x2 ((IntKind.wrap .i64 (x3 + (1 : Int)))) (((r3.2.getD 0 (0, [])).2.getD 0 PV.u).toS) (((r3.2.getD 0 (0, [])).2.getD 1 PV.u).toI) (((r3.2.getD 0 (0, [])).2.getD 2 PV.u).toI) (((r3.2.getD 0 (0, [])).2.getD 3 PV.u).toI))
  else rW f_q21 [t_q5] at_q17 (S_q17 x1 x2 ((IntKind.wrap .i64 (x3 + (1 : Int)))) x4 x5 x6 x7)))
  else none)
  else some ([], [(t_q5, [PV.s x4, PV.i x5, PV.i x6, PV.i x7])])) := by rw [rW_fix]; generalize cW = C; generalize rW = R; kernel_rfl
theorem w_q185 (a1 p0_1 p1_1 : Int) : cW f_q185 [.i a1] [(t_int, [.i p0_1]), (t_int, [.i p1_1])] =
  ((bif (decide (a1 < p0_1)) then some [PV.b true]
   else some [(PV.b (decide (a1 > p1_1)))])).bind fun r1 =>
  some ([PV.b ((r1.getD 0 PV.u)).toB], [(t_int, [PV.i p0_1]), (t_int, [PV.i p1_1])]) := by rw [cW_fix]; generalize cW = C; generalize rW = R; kernel_rfl
theorem w_q35 (a2 : Int) (p0_1 : List UInt8) (p0_2 p0_3 : Int) (p0_4 p0_5 : Int) (p0_6 p0_7 : Int) (p0_8 : List (List PV)) : cW f_q35 [.u, .i a2] [(t_q1, [.s p0_1, .i p0_2, .i p0_3, .i p0_4, .i p0_5, .i p0_6, .i p0_7, .l p0_8])] =
  (bif (p0_3 != (0 : Int)) then some ([PV.i 0], [(t_q1, [PV.s p0_1, PV.i p0_2, PV.i p0_3, PV.i p0_4, PV.i p0_5, PV.i p0_6, PV.i p0_7, PV.l p0_8])])
  else (cW f_q211 [PV.s p0_1, PV.i p0_2, PV.i a2] []).bind fun r1 =>
  some ([PV.i (r1.1.getD 0 PV.u).toI], [(t_q1, [PV.s (r1.1.getD 1 PV.u).toS, PV.i (r1.1.getD 2 PV.u).toI, PV.i (r1.1.getD 3 PV.u).toI, PV.i p0_4, PV.i p0_5, PV.i p0_6, PV.i p0_7, PV.l p0_8])])) := by rw [cW_fix]; generalize cW = C; generalize rW = R; kernel_rfl
/- celluloid/celluloidref09.TakeRecords -/
noncomputable def S_q87 (x1 : List (List PV)) (x2 x3 : Int) : St := mkSt [(0, .v (.sl 52 x1)), (1, .v (.int .i64 x2)), (5, .v (.int .i64 x3)), (11, .any), (12, .any), (13, .any)] [] 1000 33
noncomputable def at_q87 : List Item := (atLoop Tryz.f32 0)
theorem w_q125 (a1 : List (List PV)) (a2 : Int) : cW f_q125 [.l a1, .i a2] [] =
  rW f_q125 [] at_q87 (S_q87 (a1) (a2) 0) := by rw [cW_fix]; generalize cW = C; generalize rW = R; kernel_rfl
theorem w_q87 (x1 : List (List PV)) (x2 x3 : Int) : rW f_q125 [] at_q87 (S_q87 x1 x2 x3) =
  ((bif (decide (x3 < ((x1.length : Nat) : Int))) then some [(PV.b (decide (x3 < x2)))]
   else some [PV.b false])).bind fun r1 =>
  (bif ((r1.getD 0 PV.u)).toB then (bif (inB x3 (List.length x1)) then (bif (inB x3 (List.length x1)) then (cW f_q113 [PV.l ((elemAt x1 x3).getD 8 PV.u).toL, PV.l ((elemAt x1 x3).getD 9 PV.u).toL] []).bind fun r2 =>
  (bif (!(r2.1.getD 0 PV.u).toB) then some ([PV.b false], [])
  else rW f_q125 [] at_q87 (S_q87 x1 x2 ((IntKind.wrap .i64 (x3 + (1 : Int))))))
  else none)
  else none)
  else some ([(PV.b (decide (((x1.length : Nat) : Int) ≤ x2)))], [])) := by rw [rW_fix]; generalize cW = C; generalize rW = R; kernel_rfl
noncomputable def S_q8 (x1 : List (List PV)) (x2 x3 x4 : Int) (x5 : List UInt8) (x6 : Int) : St := mkSt [(3, .v (.sl 52 x1)), (9, .v (.ptr (.n 2 2 0) 0)), (10, .v (.int .i64 x2)), (11, .v (.int .i64 x3)), (12, .v (.int .i64 x4))] [((.n 2 2 0), .cells 163 [.str x5, .int .i64 x6])] 1000 175
noncomputable def at_q8 : List Item := (atLoop Tryz.f52 0)
theorem w_q31 (a1 : List UInt8) (a2 a3 : Int) (a4 : List (List PV)) : cW f_q31 [.s a1, .i a2, .i a3, .l a4] [] =
  (cW f_q106 [PV.i a2] []).bind fun r1 =>
  (cW f_q106 [PV.i a3] []).bind fun r2 =>
  (cW f_q16 [PV.s a1, PV.i 0, (PV.l (List.set (List.set [[PV.i 0], [PV.i 0]] 0 [PV.i (r1.1.getD 0 PV.u).toI]) 1 [PV.i (r2.1.getD 0 PV.u).toI])), PV.i 4] []).bind fun r3 =>
  rW f_q31 [] at_q8 (S_q8 (a4) ((r1.1.getD 0 PV.u).toI) ((r2.1.getD 0 PV.u).toI) 0 ((r3.1.getD 0 PV.u).toS) ((r3.1.getD 1 PV.u).toI)) := by rw [cW_fix]; generalize cW = C; generalize rW = R; kernel_rfl
theorem w_q8 (x1 : List (List PV)) (x2 x3 x4 : Int) (x5 : List UInt8) (x6 : Int) : rW f_q31 [] at_q8 (S_q8 x1 x2 x3 x4 x5 x6) =
  (bif (decide (x4 < ((x1.length : Nat) : Int))) then (bif (inB x4 (List.length x1)) then (bif (((elemAt x1 x4).getD 0 PV.u).toI == (1 : Int)) then (cW f_q110 [(PV.l (List.set (List.set [[PV.i 0], [PV.i 0]] 0 [PV.i ((elemAt x1 x4).getD 1 PV.u).toI]) 1 [PV.i ((elemAt x1 x4).getD 2 PV.u).toI])), PV.i 0] []).bind fun r4 =>
  (cW f_q16 [PV.s x5, PV.i x6, (PV.l [[PV.i 1]]), PV.i 6] []).bind fun r5 =>
  (cW f_q16 [PV.s (r5.1.getD 0 PV.u).toS, PV.i (r5.1.getD 1 PV.u).toI, (PV.l (List.set [[PV.i 0]] 0 [PV.i (r4.1.getD 0 PV.u).toI])), PV.i 5] []).bind fun r6 =>
  (cW f_q96 [PV.s (r6.1.getD 0 PV.u).toS, PV.i (r6.1.getD 1 PV.u).toI, (PV.l (List.set (List.set [[PV.i 0], [PV.i 0]] 0 [PV.i ((elemAt x1 x4).getD 1 PV.u).toI]) 1 [PV.i ((elemAt x1 x4).getD 2 PV.u).toI])), PV.i (r4.1.getD 0 PV.u).toI] []).bind fun r7 =>
  rW f_q31 [] at_q8 (S_q8 x1 x2 x3 ((IntKind.wrap .i64 (x4 + (1 : Int)))) ((r7.1.getD 0 PV.u).toS) ((r7.1.getD 1 PV.u).toI))
  else (bif (((elemAt x1 x4).getD 0 PV.u).toI == (2 : Int)) then (cW f_q108 [PV.s x5, PV.i x6, PV.i ((elemAt x1 x4).getD 0 PV.u).toI, PV.i ((elemAt x1 x4).getD 1 PV.u).toI, PV.i ((elemAt x1 x4).getD 2 PV.u).toI, PV.i ((elemAt x1 x4).getD 3 PV.u).toI, PV.i ((elemAt x1 x4).getD 4 PV.u).toI, PV.i ((elemAt x1 x4).getD 5 PV.u).toI, PV.i ((elemAt x1 x4).getD 6 PV.u).toI, PV.i ((elemAt x1 x4).getD 7 PV.u).toI, PV.l ((elemAt x1 x4).getD 8 PV.u).toL, PV.l ((elemAt x1 x4).getD 9 PV.u).toL, PV.i x2, PV.i x3] []).bind fun r8 =>
  rW f_q31 [] at_q8 (S_q8 x1 x2 x3 ((IntKind.wrap .i64 (x4 + (1 : Int)))) ((r8.1.getD 0 PV.u).toS) ((r8.1.getD 1 PV.u).toI))
  else (bif (((elemAt x1 x4).getD 0 PV.u).toI == (3 : Int)) then (cW f_q16 [PV.s x5, PV.i x6, (PV.l [[PV.i 16]]), PV.i 6] []).bind fun r9 =>
  (cW f_q106 [(PV.i (((List.length ((elemAt x1 x4).getD 8 PV.u).toL) : Nat) : Int))] []).bind fun r10 =>
  (cW f_q106 [(PV.i (((List.length ((elemAt x1 x4).getD 9 PV.u).toL) : Nat) : Int))] []).bind fun r11 =>
  (cW f_q34 [PV.s (r9.1.getD 0 PV.u).toS, PV.l ((elemAt x1 x4).getD 8 PV.u).toL, PV.l ((elemAt x1 x4).getD 9 PV.u).toL] []).bind fun r12 =>
  (cW f_q16 [PV.s (r12.1.getD 0 PV.u).toS, PV.i 0, (PV.l (List.set (List.set [[PV.i 0], [PV.i 0]] 0 [PV.i (r10.1.getD 0 PV.u).toI]) 1 [PV.i (r11.1.getD 0 PV.u).toI])), PV.i 4] []).bind fun r13 =>
  rW f_q31 [] at_q8 (S_q8 x1 ((r10.1.getD 0 PV.u).toI) ((r11.1.getD 0 PV.u).toI) ((IntKind.wrap .i64 (x4 + (1 : Int)))) ((r13.1.getD 0 PV.u).toS) ((r13.1.getD 1 PV.u).toI))
  else (bif (((elemAt x1 x4).getD 0 PV.u).toI == (4 : Int)) then (cW f_q110 [(PV.l (List.set (List.set [[PV.i 0], [PV.i 0]] 0 [PV.i ((elemAt x1 x4).getD 1 PV.u).toI]) 1 [PV.i ((elemAt x1 x4).getD 2 PV.u).toI])), PV.i 2] []).bind fun r14 =>
  (cW f_q16 [PV.s x5, PV.i x6, (PV.l [[PV.i 3]]), PV.i 2] []).bind fun r15 =>
  (cW f_q16 [PV.s (r15.1.getD 0 PV.u).toS, PV.i (r15.1.getD 1 PV.u).toI, (PV.l (List.set [[PV.i 0]] 0 [(PV.i (IntKind.wrap .i64 ((r14.1.getD 0 PV.u).toI - (2 : Int))))])), PV.i 4] []).bind fun r16 =>
  (bif (((elemAt x1 x4).getD 1 PV.u).toI == (0 : Int)) then (cW f_q16 [PV.s (r16.1.getD 0 PV.u).toS, PV.i (r16.1.getD 1 PV.u).toI, (PV.l [[PV.i 0], [PV.i 1]]), PV.i 1] []).bind fun r17 =>
  (cW f_q96 [PV.s (r17.1.getD 0 PV.u).toS, PV.i (r17.1.getD 1 PV.u).toI, (PV.l (List.set [[PV.i 0]] 0 [PV.i ((elemAt x1 x4).getD 2 PV.u).toI])), PV.i (r14.1.getD 0 PV.u).toI] []).bind fun r18 =>
  rW f_q31 [] at_q8 (S_q8 x1 x2 x3 ((IntKind.wrap .i64 (x4 + (1 : Int)))) ((r18.1.getD 0 PV.u).toS) ((r18.1.getD 1 PV.u).toI))
  else (bif (((elemAt x1 x4).getD 2 PV.u).toI == (0 : Int)) then (cW f_q16 [PV.s (r16.1.getD 0 PV.u).toS, PV.i (r16.1.getD 1 PV.u).toI, (PV.l [[PV.i 0], [PV.i 0]]), PV.i 1] []).bind fun r19 =>
  (cW f_q96 [PV.s (r19.1.getD 0 PV.u).toS, PV.i (r19.1.getD 1 PV.u).toI, (PV.l (List.set [[PV.i 0]] 0 [PV.i ((elemAt x1 x4).getD 1 PV.u).toI])), PV.i (r14.1.getD 0 PV.u).toI] []).bind fun r20 =>
  rW f_q31 [] at_q8 (S_q8 x1 x2 x3 ((IntKind.wrap .i64 (x4 + (1 : Int)))) ((r20.1.getD 0 PV.u).toS) ((r20.1.getD 1 PV.u).toI))
  else (cW f_q16 [PV.s (r16.1.getD 0 PV.u).toS, PV.i (r16.1.getD 1 PV.u).toI, (PV.l [[PV.i 1]]), PV.i 1] []).bind fun r21 =>
  (cW f_q96 [PV.s (r21.1.getD 0 PV.u).toS, PV.i (r21.1.getD 1 PV.u).toI, (PV.l (List.set (List.set [[PV.i 0], [PV.i 0]] 0 [PV.i ((elemAt x1 x4).getD 1 PV.u).toI]) 1 [PV.i ((elemAt x1 x4).getD 2 PV.u).toI])), PV.i (r14.1.getD 0 PV.u).toI] []).bind fun r22 =>
  rW f_q31 [] at_q8 (S_q8 x1 x2 x3 ((IntKind.wrap .i64 (x4 + (1 : Int)))) ((r22.1.getD 0 PV.u).toS) ((r22.1.getD 1 PV.u).toI))))
  else (bif (((elemAt x1 x4).getD 0 PV.u).toI == (5 : Int)) then (cW f_q110 [(PV.l (List.set (List.set (List.set (List.set [[PV.i 0], [PV.i 0], [PV.i 0], [PV.i 0]] 0 [PV.i ((elemAt x1 x4).getD 3 PV.u).toI]) 1 [PV.i ((elemAt x1 x4).getD 4 PV.u).toI]) 2 [PV.i ((elemAt x1 x4).getD 1 PV.u).toI]) 3 [PV.i ((elemAt x1 x4).getD 2 PV.u).toI])), PV.i 2] []).bind fun r23 =>
  (cW f_q16 [PV.s x5, PV.i x6, (PV.l [[PV.i 2]]), PV.i 2] []).bind fun r24 =>
  (cW f_q16 [PV.s (r24.1.getD 0 PV.u).toS, PV.i (r24.1.getD 1 PV.u).toI, (PV.l (List.set [[PV.i 0]] 0 [(PV.i (IntKind.wrap .i64 ((r23.1.getD 0 PV.u).toI - (2 : Int))))])), PV.i 4] []).bind fun r25 =>
  (cW f_q96 [PV.s (r25.1.getD 0 PV.u).toS, PV.i (r25.1.getD 1 PV.u).toI, (PV.l (List.set (List.set (List.set (List.set [[PV.i 0], [PV.i 0], [PV.i 0], [PV.i 0]] 0 [PV.i ((elemAt x1 x4).getD 3 PV.u).toI]) 1 [PV.i ((elemAt x1 x4).getD 4 PV.u).toI]) 2 [PV.i ((elemAt x1 x4).getD 1 PV.u).toI]) 3 [PV.i ((elemAt x1 x4).getD 2 PV.u).toI])), PV.i (r23.1.getD 0 PV.u).toI] []).bind fun r26 =>
  rW f_q31 [] at_q8 (S_q8 x1 x2 x3 ((IntKind.wrap .i64 (x4 + (1 : Int)))) ((r26.1.getD 0 PV.u).toS) ((r26.1.getD 1 PV.u).toI))
  else rW f_q31 [] at_q8 (S_q8 x1 x2 x3 ((IntKind.wrap .i64 (x4 + (1 : Int)))) x5 x6))))))
  else none)
  else (cW f_q16 [PV.s x5, PV.i x6, (PV.l [[PV.i 0]]), PV.i 6] []).bind fun r27 =>
  some ([PV.s (r27.1.getD 0 PV.u).toS], [])) := by rw [rW_fix]; generalize cW = C; generalize rW = R; kernel_rfl
theorem w_q18 (a2 a3 : Int) (p0_1 : List UInt8) (p0_2 p0_3 p0_4 : Int) : cW f_q18 [.u, .i a2, .i a3] [(t_q5, [.s p0_1, .i p0_2, .i p0_3, .i p0_4])] =
  (cW f_q128 [PV.s p0_1, PV.i p0_2, PV.i a2, PV.i a3] []).bind fun r1 =>
  some ([], [(t_q5, [PV.s (r1.1.getD 0 PV.u).toS, PV.i (r1.1.getD 1 PV.u).toI, PV.i p0_3, PV.i p0_4])]) := by rw [cW_fix]; generalize cW = C; generalize rW = R; kernel_rfl
theorem w_q71 (a1 a2 a3 : Int) : cW f_q71 [.i a1, .i a2, .i a3] [] =
  ((bif (decide (a1 ≥ a2)) then some [(PV.b (decide (a1 ≤ a3)))]
   else some [PV.b false])).bind fun r1 =>
  some ([PV.b ((r1.getD 0 PV.u)).toB], []) := by rw [cW_fix]; generalize cW = C; generalize rW = R; kernel_rfl
theorem w_q121 (a1 a2 : Int) (a3 : List (List PV)) : cW f_q121 [.i a1, .i a2, .l a3] [] =
  (cW f_q175 [PV.l a3, (PV.f f_q185 (List.length [(Id.n 1 0 0), (Id.n 1 1 0)]))] [(t_int, [PV.i a1]), (t_int, [PV.i a2])]).bind fun r1 =>
  some ([(PV.b (!(r1.1.getD 0 PV.u).toB))], []) := by rw [cW_fix]; generalize cW = C; generalize rW = R; kernel_rfl
noncomputable def S_q88 (x1 x2 : Int) : St := mkSt [(0, .v (.int .i64 x1)), (3, .v (.int .i64 x2))] [] 1000 11
noncomputable def at_q88 : List Item := (atLoop Tryz.f100 0)
theorem w_q106 (a1 : Int) : cW f_q106 [.i a1] [] =
  rW f_q106 [] at_q88 (S_q88 (a1) 0) := by rw [cW_fix]; generalize cW = C; generalize rW = R; kernel_rfl
theorem w_q88 (x1 x2 : Int) : rW f_q106 [] at_q88 (S_q88 x1 x2) =
  (bif (decide (x1 > (0 : Int))) then rW f_q106 [] at_q88 (S_q88 ((IntKind.wrap .i64 (Int.tdiv x1 (2 : Int)))) ((IntKind.wrap .i64 (x2 + (1 : Int)))))
  else some ([PV.i x2], [])) := by rw [rW_fix]; generalize cW = C; generalize rW = R; kernel_rfl
noncomputable def S_q36 (x1 x2 : Int) (x3 x4 : Int) (x5 x6 : List (List PV)) (x7 : List UInt8) (x8 x9 : Int) (x10 x11 : Int) (x12 x13 : Int) (x14 x15 x16 : Int) (x17 x18 : List (List PV)) (x19 : List UInt8) (x20 : Int) : St := mkSt [(2, .v (.int .i64 x1)), (3, .v (.int .i64 x2)), (4, .v (.ptr (.n 1 0 0) 0)), (5, .v (.ptr (.n 1 1 0) 0)), (8, .v (.ptr (.n 1 2 0) 0)), (9, .v (.wr (.w 9))), (19, .v (.wr (.w 19))), (20, .v (.int .i64 x3)), (21, .v (.int .i64 x4))] [((.w 9), .row 3 x5), ((.w 19), .row 3 x6), ((.n 1 0 0), .cells 163 [.str x7, .int .i64 x8]), ((.n 1 1 0), .cells 52 [.int .i64 x9, .int .i64 x10, .int .i64 x11, .int .i64 x12, .int .i64 x13, .int .i64 x14, .int .i64 x15, .int .i64 x16, .sl 70 x17, .sl 74 x18]), ((.n 1 2 0), .cells 163 [.str x19, .int .i64 x20])] 1000 67
noncomputable def at_q36 : List Item := (atLoop Tryz.f104 0)
theorem w_q108 (a1 : List UInt8) (a2 a3 : Int) (a4 a5 : Int) (a6 a7 : Int) (a8 a9 a10 : Int) (a11 a12 : List (List PV)) (a13 a14 : Int) : cW f_q108 [.s a1, .i a2, .i a3, .i a4, .i a5, .i a6, .i a7, .i a8, .i a9, .i a10, .l a11, .l a12, .i a13, .i a14] [] =
  rW f_q108 [] at_q36 (S_q36 (a13) (a14) ((((List.length (List.set (List.set (List.set [[PV.i 0], [PV.i 0], [PV.i 0]] 0 [PV.i a10]) 1 [PV.i a9]) 2 [PV.i a8])) : Nat) : Int)) 0 ([[PV.i 0], [PV.i 0]]) ((List.set (List.set (List.set [[PV.i 0], [PV.i 0], [PV.i 0]] 0 [PV.i a10]) 1 [PV.i a9]) 2 [PV.i a8])) (a1) (a2) (a3) (a4) (a5) (a6) (a7) (a8) (a9) (a10) (a11) (a12) ([]) 0) := by rw [cW_fix]; generalize cW = C; generalize rW = R; kernel_rfl
theorem w_q36 (x1 x2 : Int) (x3 x4 : Int) (x5 x6 : List (List PV)) (x7 : List UInt8) (x8 x9 : Int) (x10 x11 : Int) (x12 x13 : Int) (x14 x15 x16 : Int) (x17 x18 : List (List PV)) (x19 : List UInt8) (x20 : Int) : rW f_q108 [] at_q36 (S_q36 x1 x2 x3 x4 x5 x6 x7 x8 x9 x10 x11 x12 x13 x14 x15 x16 x17 x18 x19 x20) =
  (bif (decide (x4 < x3)) then (bif (inB x4 (List.length x6)) then (bif (inB x4 (List.length x6)) then (bif (decide (((elemAt x6 x4).getD 0 PV.u).toI < (0 : Int))) then (bif (decide (((((List.length x5) + 1) + 1000) * 9) ≤ 1099511627776)) then rW f_q108 [] at_q36 (S_q36 x1 x2 x3 ((IntKind.wrap .i64 (x4 + (1 : Int)))) ((x5 ++ [[PV.i 0]])) x6 x7 x8 x9 x10 x11 x12 x13 x14 x15 x16 x17 x18 x19 x20)
  else none)
  else (bif (decide (((((List.length x5) + 1) + 1000) * 9) ≤ 1099511627776)) then rW f_q108 [] at_q36 (S_q36 x1 x2 x3 ((IntKind.wrap .i64 (x4 + (1 : Int)))) ((x5 ++ [[PV.i 1]])) x6 x7 x8 x9 x10 x11 x12 x13 x14 x15 x16 x17 x18 x19 x20)
  else none))
  else none)
  else none)
  else (bif (decide (((((List.length x5) + 1) + 1000) * 9) ≤ 1099511627776)) then (cW f_q16 [PV.s x7, PV.i x8, (PV.l (x5 ++ [[PV.i 0]])), PV.i 1] []).bind fun r1 =>
  (bif (decide (x14 ≥ (0 : Int))) then (cW f_q16 [PV.s (r1.1.getD 0 PV.u).toS, PV.i (r1.1.getD 1 PV.u).toI, (PV.l (List.set [[PV.i 0]] 0 [PV.i x14])), PV.i x1] []).bind fun r2 =>
  (bif (decide (x15 ≥ (0 : Int))) then (cW f_q16 [PV.s (r2.1.getD 0 PV.u).toS, PV.i (r2.1.getD 1 PV.u).toI, (PV.l (List.set [[PV.i 0]] 0 [PV.i x15])), PV.i x1] []).bind fun r3 =>
  (bif (decide (x16 ≥ (0 : Int))) then (cW f_q16 [PV.s (r3.1.getD 0 PV.u).toS, PV.i (r3.1.getD 1 PV.u).toI, (PV.l (List.set [[PV.i 0]] 0 [PV.i x16])), PV.i x2] []).bind fun r4 =>
  some ([PV.s (r4.1.getD 0 PV.u).toS, PV.i (r4.1.getD 1 PV.u).toI], [])
  else some ([PV.s (r3.1.getD 0 PV.u).toS, PV.i (r3.1.getD 1 PV.u).toI], []))
  else (bif (decide (x16 ≥ (0 : Int))) then (cW f_q16 [PV.s (r2.1.getD 0 PV.u).toS, PV.i (r2.1.getD 1 PV.u).toI, (PV.l (List.set [[PV.i 0]] 0 [PV.i x16])), PV.i x2] []).bind fun r5 =>
  some ([PV.s (r5.1.getD 0 PV.u).toS, PV.i (r5.1.getD 1 PV.u).toI], [])
  else some ([PV.s (r2.1.getD 0 PV.u).toS, PV.i (r2.1.getD 1 PV.u).toI], [])))
  else (bif (decide (x15 ≥ (0 : Int))) then (cW f_q16 [PV.s (r1.1.getD 0 PV.u).toS, PV.i (r1.1.getD 1 PV.u).toI, (PV.l (List.set [[PV.i 0]] 0 [PV.i x15])), PV.i x1] []).bind fun r6 =>
  (bif (decide (x16 ≥ (0 : Int))) then (cW f_q16 [PV.s (r6.1.getD 0 PV.u).toS, PV.i (r6.1.getD 1 PV.u).toI, (PV.l (List.set [[PV.i 0]] 0 [PV.i x16])), PV.i x2] []).bind fun r7 =>
  some ([PV.s (r7.1.getD 0 PV.u).toS, PV.i (r7.1.getD 1 PV.u).toI], [])
  else some ([PV.s (r6.1.getD 0 PV.u).toS, PV.i (r6.1.getD 1 PV.u).toI], []))
  else (bif (decide (x16 ≥ (0 : Int))) then (cW f_q16 [PV.s (r1.1.getD 0 PV.u).toS, PV.i (r1.1.getD 1 PV.u).toI, (PV.l (List.set [[PV.i 0]] 0 [PV.i x16])), PV.i x2] []).bind fun r8 =>
  some ([PV.s (r8.1.getD 0 PV.u).toS, PV.i (r8.1.getD 1 PV.u).toI], [])
  else some ([PV.s (r1.1.getD 0 PV.u).toS, PV.i (r1.1.getD 1 PV.u).toI], []))))
  else none)) := by rw [rW_fix]; generalize cW = C; generalize rW = R; kernel_rfl
theorem w_q20 (a2 : Int) (p0_1 : List UInt8) (p0_2 p0_3 : Int) (p0_4 p0_5 : Int) (p0_6 p0_7 : Int) (p0_8 : List (List PV)) : cW f_q20 [.u, .i a2] [(t_q1, [.s p0_1, .i p0_2, .i p0_3, .i p0_4, .i p0_5, .i p0_6, .i p0_7, .l p0_8])] =
  (bif (p0_3 != (0 : Int)) then some ([PV.i 0], [(t_q1, [PV.s p0_1, PV.i p0_2, PV.i p0_3, PV.i p0_4, PV.i p0_5, PV.i p0_6, PV.i p0_7, PV.l p0_8])])
  else (cW f_q170 [PV.s p0_1, PV.i p0_2, PV.i a2] []).bind fun r1 =>
  some ([PV.i (r1.1.getD 0 PV.u).toI], [(t_q1, [PV.s (r1.1.getD 1 PV.u).toS, PV.i (r1.1.getD 2 PV.u).toI, PV.i (r1.1.getD 3 PV.u).toI, PV.i p0_4, PV.i p0_5, PV.i p0_6, PV.i p0_7, PV.l p0_8])])) := by rw [cW_fix]; generalize cW = C; generalize rW = R; kernel_rfl
noncomputable def S_q151 (x1 x2 : Int) (x3 x4 : Int) (x5 x6 : Int) (x7 x8 : Int) (x9 x10 : Int) (x11 x12 : List (List PV)) (x13 x14 : Int) (x15 x16 : Int) (x17 x18 : Int) (x19 x20 : Int) (x21 x22 : List (List PV)) : St := mkSt [(2, .v (.ptr (.n 1 0 0) 0)), (3, .v (.ptr (.n 1 1 0) 0)), (23, .v (.int .i64 x1)), (24, .v (.int .i64 x2)), (46, .any), (47, .any), (48, .any), (49, .any), (50, .any), (53, .any), (54, .any), (55, .any), (56, .any), (57, .any), (60, .any), (61, .any), (62, .any), (63, .any), (64, .any), (67, .any), (68, .any), (69, .any), (70, .any), (71, .any), (74, .any), (75, .any), (76, .any), (77, .any), (78, .any), (81, .any), (82, .any), (83, .any), (84, .any), (85, .any), (88, .any), (89, .any), (90, .any), (91, .any), (92, .any)] [((.n 1 0 0), .cells 52 [.int .i64 x3, .int .i64 x4, .int .i64 x5, .int .i64 x6, .int .i64 x7, .int .i64 x8, .int .i64 x9, .int .i64 x10, .sl 70 x11, .sl 74 x12]), ((.n 1 1 0), .cells 52 [.int .i64 x13, .int .i64 x14, .int .i64 x15, .int .i64 x16, .int .i64 x17, .int .i64 x18, .int .i64 x19, .int .i64 x20, .sl 70 x21, .sl 74 x22])] 1000 94
noncomputable def at_q151 : List Item := (atLoop Tryz.f148 0)
theorem w_q171 (a1 a2 : Int) (a3 a4 : Int) (a5 a6 : Int) (a7 a8 : Int) (a9 a10 : List (List PV)) (a11 a12 : Int) (a13 a14 : Int) (a15 a16 : Int) (a17 a18 : Int) (a19 a20 : List (List PV)) : cW f_q171 [.i a1, .i a2, .i a3, .i a4, .i a5, .i a6, .i a7, .i a8, .l a9, .l a10, .i a11, .i a12, .i a13, .i a14, .i a15, .i a16, .i a17, .i a18, .l a19, .l a20] [] =
  ((bif (((a9.length : Nat) : Int) != ((a19.length : Nat) : Int)) then some [PV.b true]
   else (cW f_q24 [PV.l a10, PV.l a20] []).bind fun r1 =>
   some [(PV.b (!(r1.1.getD 0 PV.u).toB))])).bind fun r2 =>
  (bif ((r2.getD 0 PV.u)).toB then some ([PV.b false], [])
  else rW f_q171 [] at_q151 (S_q151 (((a9.length : Nat) : Int)) 0 (a1) (a2) (a3) (a4) (a5) (a6) (a7) (a8) (a9) (a10) (a11) (a12) (a13) (a14) (a15) (a16) (a17) (a18) (a19) (a20))) := by rw [cW_fix]; generalize cW = C; generalize rW = R; kernel_rfl
theorem w_q151 (x1 x2 : Int) (x3 x4 : Int) (x5 x6 : Int) (x7 x8 : Int) (x9 x10 : Int) (x11 x12 : List (List PV)) (x13 x14 : Int) (x15 x16 : Int) (x17 x18 : Int) (x19 x20 : Int) (x21 x22 : List (List PV)) : rW f_q171 [] at_q151 (S_q151 x1 x2 x3 x4 x5 x6 x7 x8 x9 x10 x11 x12 x13 x14 x15 x16 x17 x18 x19 x20 x21 x22) =
  (bif (decide (x2 < x1)) then (bif (inB x2 (List.length x11)) then (bif (inB x2 (List.length x21)) then (cW f_q184 [PV.i ((elemAt x11 x2).getD 0 PV.u).toI, PV.i ((elemAt x11 x2).getD 1 PV.u).toI, PV.i ((elemAt x11 x2).getD 2 PV.u).toI, PV.i ((elemAt x11 x2).getD 3 PV.u).toI, PV.i ((elemAt x11 x2).getD 4 PV.u).toI, PV.i ((elemAt x11 x2).getD 5 PV.u).toI, PV.i ((elemAt x11 x2).getD 6 PV.u).toI, PV.i ((elemAt x11 x2).getD 7 PV.u).toI, PV.i ((elemAt x11 x2).getD 8 PV.u).toI, PV.i ((elemAt x11 x2).getD 9 PV.u).toI, PV.i ((elemAt x11 x2).getD 10 PV.u).toI, PV.i ((elemAt x11 x2).getD 11 PV.u).toI, PV.l ((elemAt x11 x2).getD 12 PV.u).toL, PV.i ((elemAt x11 x2).getD 13 PV.u).toI, PV.i ((elemAt x21 x2).getD 0 PV.u).toI, PV.i ((elemAt x21 x2).getD 1 PV.u).toI, PV.i ((elemAt x21 x2).getD 2 PV.u).toI, PV.i ((elemAt x21 x2).getD 3 PV.u).toI, PV.i ((elemAt x21 x2).getD 4 PV.u).toI, PV.i ((elemAt x21 x2).getD 5 PV.u).toI, PV.i ((elemAt x21 x2).getD 6 PV.u).toI, PV.i ((elemAt x21 x2).getD 7 PV.u).toI, PV.i ((elemAt x21 x2).getD 8 PV.u).toI, PV.i ((elemAt x21 x2).getD 9 PV.u).toI, PV.i ((elemAt x21 x2).getD 10 PV.u).toI, PV.i ((elemAt x21 x2).getD 11 PV.u).toI, PV.l ((elemAt x21 x2).getD 12 PV.u).toL, PV.i ((elemAt x21 x2).getD 13 PV.u).toI] []).bind fun r3 =>
  (bif (!(r3.1.getD 0 PV.u).toB) then some ([PV.b false], [])
  else rW f_q171 [] at_q151 (S_q151 x1 ((IntKind.wrap .i64 (x2 + (1 : Int)))) x3 x4 x5 x6 x7 x8 x9 x10 x11 x12 x13 x14 x15 x16 x17 x18 x19 x20 x21 x22))
  else none)
  else none)
  else ((bif (x3 == x13) then (bif (x4 == x14) then (bif (x5 == x15) then (bif (x6 == x16) then (bif (x7 == x17) then (bif (x8 == x18) then (bif (x9 == x19) then some [(PV.b (x10 == x20))]
   else some [PV.b false])
   else some [PV.b false])
   else some [PV.b false])
   else some [PV.b false])
   else some [PV.b false])
   else some [PV.b false])
   else some [PV.b false])).bind fun r4 =>
  some ([PV.b ((r4.getD 0 PV.u)).toB], [])) := by rw [rW_fix]; generalize cW = C; generalize rW = R; kernel_rfl
theorem w_q62 (a2 a3 : Int) (a4 a5 : Int) (a6 a7 : Int) (a8 a9 : Int) (a10 a11 : List (List PV)) (p0_1 : List UInt8) (p0_2 p0_3 : Int) (p0_4 p0_5 : Int) (p0_6 p0_7 : Int) (p0_8 : List (List PV)) : cW f_q62 [.u, .i a2, .i a3, .i a4, .i a5, .i a6, .i a7, .i a8, .i a9, .l a10, .l a11] [(t_q1, [.s p0_1, .i p0_2, .i p0_3, .i p0_4, .i p0_5, .i p0_6, .i p0_7, .l p0_8])] =
  ((bif (p0_3 == (0 : Int)) then some [(PV.b (((p0_8.length : Nat) : Int) == (512 : Int)))]
   else some [PV.b false])).bind fun r1 =>
  (bif ((r1.getD 0 PV.u)).toB then (cW f_q119 [PV.u, PV.i 7] [(t_q1, [PV.s p0_1, PV.i p0_2, PV.i p0_3, PV.i p0_4, PV.i p0_5, PV.i p0_6, PV.i p0_7, PV.l p0_8])]).bind fun r2 =>
  some ([], [(t_q1, [PV.s ((r2.2.getD 0 (0, [])).2.getD 0 PV.u).toS, PV.i ((r2.2.getD 0 (0, [])).2.getD 1 PV.u).toI, PV.i ((r2.2.getD 0 (0, [])).2.getD 2 PV.u).toI, PV.i ((r2.2.getD 0 (0, [])).2.getD 3 PV.u).toI, PV.i ((r2.2.getD 0 (0, [])).2.getD 4 PV.u).toI, PV.i ((r2.2.getD 0 (0, [])).2.getD 5 PV.u).toI, PV.i ((r2.2.getD 0 (0, [])).2.getD 6 PV.u).toI, PV.l ((r2.2.getD 0 (0, [])).2.getD 7 PV.u).toL])])
  else (bif (decide (((((List.length p0_8) + (List.length (List.set [[PV.i 0, PV.i 0, PV.i 0, PV.i 0, PV.i 0, PV.i 0, PV.i 0, PV.i 0, (PV.l []), (PV.l [])]] 0 [PV.i a2, PV.i a3, PV.i a4, PV.i a5, PV.i a6, PV.i a7, PV.i a8, PV.i a9, PV.l a10, PV.l a11]))) + 1000) * 113) ≤ 1099511627776)) then some ([], [(t_q1, [PV.s p0_1, PV.i p0_2, PV.i p0_3, PV.i p0_4, PV.i p0_5, PV.i p0_6, PV.i p0_7, (PV.l (p0_8 ++ (List.set [[PV.i 0, PV.i 0, PV.i 0, PV.i 0, PV.i 0, PV.i 0, PV.i 0, PV.i 0, (PV.l []), (PV.l [])]] 0 [PV.i a2, PV.i a3, PV.i a4, PV.i a5, PV.i a6, PV.i a7, PV.i a8, PV.i a9, PV.l a10, PV.l a11])))])])
  else none)) := by rw [cW_fix]; generalize cW = C; generalize rW = R; kernel_rfl
/- celluloid/celluloidref09.more -/
theorem w_q213 (a1 a2 : Int) (a3 a4 : Int) (a5 a6 : Int) (a7 a8 : Int) (a9 a10 : List (List PV)) (a11 a12 : Int) : cW f_q213 [.i a1, .i a2, .i a3, .i a4, .i a5, .i a6, .i a7, .i a8, .l a9, .l a10, .i a11, .i a12] [] =
  (bif (a1 == (1 : Int)) then ((cW f_q121 [(PV.i (-1048576 : Int)), PV.i 1048576, (PV.l (List.set (List.set [[PV.i 0], [PV.i 0]] 0 [PV.i a2]) 1 [PV.i a3]))] []).bind fun r1 =>
   (bif (r1.1.getD 0 PV.u).toB then (cW f_q171 [PV.i a1, PV.i a2, PV.i a3, PV.i a4, PV.i a5, PV.i a6, PV.i a7, PV.i a8, PV.l a9, PV.l a10, PV.i a1, PV.i a2, PV.i a3, PV.i 0, PV.i 0, PV.i 0, PV.i 0, PV.i 0, (PV.l []), (PV.l [])] []).bind fun r2 =>
   some [PV.b (r2.1.getD 0 PV.u).toB]
   else some [PV.b false])).bind fun r3 =>
  some ([PV.b ((r3.getD 0 PV.u)).toB], [])
  else (bif (a1 == (2 : Int)) then ((cW f_q121 [(PV.i (-1 : Int)), PV.i a11, (PV.l (List.set (List.set [[PV.i 0], [PV.i 0]] 0 [PV.i a6]) 1 [PV.i a7]))] []).bind fun r4 =>
   (bif (r4.1.getD 0 PV.u).toB then (cW f_q121 [(PV.i (-1 : Int)), PV.i a12, (PV.l (List.set [[PV.i 0]] 0 [PV.i a8]))] []).bind fun r5 =>
   (bif (r5.1.getD 0 PV.u).toB then (bif (decide ((bif (decide (a8 > (bif (decide (a7 > a6)) then a7 else a6))) then a8 else (bif (decide (a7 > a6)) then a7 else a6)) ≥ (0 : Int))) then (cW f_q171 [PV.i a1, PV.i a2, PV.i a3, PV.i a4, PV.i a5, PV.i a6, PV.i a7, PV.i a8, PV.l a9, PV.l a10, PV.i a1, PV.i 0, PV.i 0, PV.i 0, PV.i 0, PV.i a6, PV.i a7, PV.i a8, (PV.l []), (PV.l [])] []).bind fun r6 =>
   some [PV.b (r6.1.getD 0 PV.u).toB]
   else some [PV.b false])
   else some [PV.b false])
   else some [PV.b false])).bind fun r7 =>
  some ([PV.b ((r7.getD 0 PV.u)).toB], [])
  else (bif (a1 == (3 : Int)) then ((cW f_q198 [PV.l a9, PV.l a10] []).bind fun r8 =>
   (bif (r8.1.getD 0 PV.u).toB then (cW f_q171 [PV.i a1, PV.i a2, PV.i a3, PV.i a4, PV.i a5, PV.i a6, PV.i a7, PV.i a8, PV.l a9, PV.l a10, PV.i a1, PV.i 0, PV.i 0, PV.i 0, PV.i 0, PV.i 0, PV.i 0, PV.i 0, PV.l a9, PV.l a10] []).bind fun r9 =>
   some [PV.b (r9.1.getD 0 PV.u).toB]
   else some [PV.b false])).bind fun r10 =>
  some ([PV.b ((r10.getD 0 PV.u)).toB], [])
  else (bif (a1 == (4 : Int)) then ((cW f_q121 [(PV.i (-65536 : Int)), PV.i 65535, (PV.l (List.set (List.set [[PV.i 0], [PV.i 0]] 0 [PV.i a2]) 1 [PV.i a3]))] []).bind fun r11 =>
   (bif (r11.1.getD 0 PV.u).toB then (cW f_q171 [PV.i a1, PV.i a2, PV.i a3, PV.i a4, PV.i a5, PV.i a6, PV.i a7, PV.i a8, PV.l a9, PV.l a10, PV.i a1, PV.i a2, PV.i a3, PV.i 0, PV.i 0, PV.i 0, PV.i 0, PV.i 0, (PV.l []), (PV.l [])] []).bind fun r12 =>
   some [PV.b (r12.1.getD 0 PV.u).toB]
   else some [PV.b false])).bind fun r13 =>
  some ([PV.b ((r13.getD 0 PV.u)).toB], [])
  else (bif (a1 == (5 : Int)) then ((cW f_q121 [(PV.i (-65536 : Int)), PV.i 65535, (PV.l (List.set (List.set (List.set (List.set [[PV.i 0], [PV.i 0], [PV.i 0], [PV.i 0]] 0 [PV.i a2]) 1 [PV.i a3]) 2 [PV.i a4]) 3 [PV.i a5]))] []).bind fun r14 =>
   (bif (r14.1.getD 0 PV.u).toB then (cW f_q171 [PV.i a1, PV.i a2, PV.i a3, PV.i a4, PV.i a5, PV.i a6, PV.i a7, PV.i a8, PV.l a9, PV.l a10, PV.i a1, PV.i a2, PV.i a3, PV.i a4, PV.i a5, PV.i 0, PV.i 0, PV.i 0, (PV.l []), (PV.l [])] []).bind fun r15 =>
   some [PV.b (r15.1.getD 0 PV.u).toB]
   else some [PV.b false])).bind fun r16 =>
  some ([PV.b ((r16.getD 0 PV.u)).toB], [])
  else some ([PV.b false], [])))))) := by rw [cW_fix]; generalize cW = C; generalize rW = R; kernel_rfl
noncomputable def S_q94 (x1 : List (List PV)) (x2 x3 : Int) (x4 : List UInt8) (x5 : Int) (x6 : List UInt8) (x7 : Int) : St := mkSt [(1, .v (.sl 3 x1)), (2, .v (.int .i64 x2)), (3, .v (.ptr (.n 1 0 0) 0)), (6, .v (.ptr (.n 1 1 0) 0)), (7, .v (.int .i64 x3))] [((.n 1 0 0), .cells 163 [.str x4, .int .i64 x5]), ((.n 1 1 0), .cells 163 [.str x6, .int .i64 x7])] 1000 25
noncomputable def at_q94 : List Item := (atLoop Tryz.f101 0)
theorem w_q16 (a1 : List UInt8) (a2 : Int) (a3 : List (List PV)) (a4 : Int) : cW f_q16 [.s a1, .i a2, .l a3, .i a4] [] =
  rW f_q16 [] at_q94 (S_q94 (a3) (a4) 0 (a1) (a2) ([]) 0) := by rw [cW_fix]; generalize cW = C; generalize rW = R; kernel_rfl
theorem w_q94 (x1 : List (List PV)) (x2 x3 : Int) (x4 : List UInt8) (x5 : Int) (x6 : List UInt8) (x7 : Int) : rW f_q16 [] at_q94 (S_q94 x1 x2 x3 x4 x5 x6 x7) =
  (bif (decide (x3 < ((x1.length : Nat) : Int))) then (bif (inB x3 (List.length x1)) then (cW f_q53 [PV.s x4, PV.i x5, PV.i ((elemAt x1 x3).getD 0 PV.u).toI, PV.i x2] []).bind fun r1 =>
  rW f_q16 [] at_q94 (S_q94 x1 x2 ((IntKind.wrap .i64 (x3 + (1 : Int)))) ((r1.1.getD 0 PV.u).toS) ((r1.1.getD 1 PV.u).toI) x6 x7)
  else none)
  else some ([PV.s x4, PV.i x5], [])) := by rw [rW_fix]; generalize cW = C; generalize rW = R; kernel_rfl
theorem w_q157 (p0_1 : List UInt8) (p0_2 p0_3 : Int) (p0_4 p0_5 : Int) (p0_6 p0_7 : Int) (p0_8 : List (List PV)) : cW f_q157 [.u] [(t_q1, [.s p0_1, .i p0_2, .i p0_3, .i p0_4, .i p0_5, .i p0_6, .i p0_7, .l p0_8])] =
  (cW f_q20 [PV.u, PV.i 1] [(t_q1, [PV.s p0_1, PV.i p0_2, PV.i p0_3, PV.i p0_4, PV.i p0_5, PV.i p0_6, PV.i p0_7, PV.l p0_8])]).bind fun r1 =>
  (cW f_q20 [PV.u, PV.i 4] [(t_q1, [PV.s ((r1.2.getD 0 (0, [])).2.getD 0 PV.u).toS, PV.i ((r1.2.getD 0 (0, [])).2.getD 1 PV.u).toI, PV.i ((r1.2.getD 0 (0, [])).2.getD 2 PV.u).toI, PV.i ((r1.2.getD 0 (0, [])).2.getD 3 PV.u).toI, PV.i ((r1.2.getD 0 (0, [])).2.getD 4 PV.u).toI, PV.i ((r1.2.getD 0 (0, [])).2.getD 5 PV.u).toI, PV.i ((r1.2.getD 0 (0, [])).2.getD 6 PV.u).toI, PV.l ((r1.2.getD 0 (0, [])).2.getD 7 PV.u).toL])]).bind fun r2 =>
  (bif (!((r1.1.getD 0 PV.u).toI == (1 : Int))) then (cW f_q35 [PV.u, (PV.i (IntKind.wrap .i64 ((r2.1.getD 0 PV.u).toI + (2 : Int))))] [(t_q1, [PV.s ((r2.2.getD 0 (0, [])).2.getD 0 PV.u).toS, PV.i ((r2.2.getD 0 (0, [])).2.getD 1 PV.u).toI, PV.i ((r2.2.getD 0 (0, [])).2.getD 2 PV.u).toI, PV.i ((r2.2.getD 0 (0, [])).2.getD 3 PV.u).toI, PV.i ((r2.2.getD 0 (0, [])).2.getD 4 PV.u).toI, PV.i ((r2.2.getD 0 (0, [])).2.getD 5 PV.u).toI, PV.i ((r2.2.getD 0 (0, [])).2.getD 6 PV.u).toI, PV.l ((r2.2.getD 0 (0, [])).2.getD 7 PV.u).toL])]).bind fun r3 =>
  (cW f_q35 [PV.u, (PV.i (IntKind.wrap .i64 ((r2.1.getD 0 PV.u).toI + (2 : Int))))] [(t_q1, [PV.s ((r3.2.getD 0 (0, [])).2.getD 0 PV.u).toS, PV.i ((r3.2.getD 0 (0, [])).2.getD 1 PV.u).toI, PV.i ((r3.2.getD 0 (0, [])).2.getD 2 PV.u).toI, PV.i ((r3.2.getD 0 (0, [])).2.getD 3 PV.u).toI, PV.i ((r3.2.getD 0 (0, [])).2.getD 4 PV.u).toI, PV.i ((r3.2.getD 0 (0, [])).2.getD 5 PV.u).toI, PV.i ((r3.2.getD 0 (0, [])).2.getD 6 PV.u).toI, PV.l ((r3.2.getD 0 (0, [])).2.getD 7 PV.u).toL])]).bind fun r4 =>
  (cW f_q35 [PV.u, (PV.i (IntKind.wrap .i64 ((r2.1.getD 0 PV.u).toI + (2 : Int))))] [(t_q1, [PV.s ((r4.2.getD 0 (0, [])).2.getD 0 PV.u).toS, PV.i ((r4.2.getD 0 (0, [])).2.getD 1 PV.u).toI, PV.i ((r4.2.getD 0 (0, [])).2.getD 2 PV.u).toI, PV.i ((r4.2.getD 0 (0, [])).2.getD 3 PV.u).toI, PV.i ((r4.2.getD 0 (0, [])).2.getD 4 PV.u).toI, PV.i ((r4.2.getD 0 (0, [])).2.getD 5 PV.u).toI, PV.i ((r4.2.getD 0 (0, [])).2.getD 6 PV.u).toI, PV.l ((r4.2.getD 0 (0, [])).2.getD 7 PV.u).toL])]).bind fun r5 =>
  (cW f_q35 [PV.u, (PV.i (IntKind.wrap .i64 ((r2.1.getD 0 PV.u).toI + (2 : Int))))] [(t_q1, [PV.s ((r5.2.getD 0 (0, [])).2.getD 0 PV.u).toS, PV.i ((r5.2.getD 0 (0, [])).2.getD 1 PV.u).toI, PV.i ((r5.2.getD 0 (0, [])).2.getD 2 PV.u).toI, PV.i ((r5.2.getD 0 (0, [])).2.getD 3 PV.u).toI, PV.i ((r5.2.getD 0 (0, [])).2.getD 4 PV.u).toI, PV.i ((r5.2.getD 0 (0, [])).2.getD 5 PV.u).toI, PV.i ((r5.2.getD 0 (0, [])).2.getD 6 PV.u).toI, PV.l ((r5.2.getD 0 (0, [])).2.getD 7 PV.u).toL])]).bind fun r6 =>
  (cW f_q62 [PV.u, PV.i 5, PV.i (r5.1.getD 0 PV.u).toI, PV.i (r6.1.getD 0 PV.u).toI, PV.i (r3.1.getD 0 PV.u).toI, PV.i (r4.1.getD 0 PV.u).toI, PV.i 0, PV.i 0, PV.i 0, (PV.l []), (PV.l [])] [(t_q1, [PV.s ((r6.2.getD 0 (0, [])).2.getD 0 PV.u).toS, PV.i ((r6.2.getD 0 (0, [])).2.getD 1 PV.u).toI, PV.i ((r6.2.getD 0 (0, [])).2.getD 2 PV.u).toI, PV.i ((r6.2.getD 0 (0, [])).2.getD 3 PV.u).toI, PV.i ((r6.2.getD 0 (0, [])).2.getD 4 PV.u).toI, PV.i ((r6.2.getD 0 (0, [])).2.getD 5 PV.u).toI, PV.i ((r6.2.getD 0 (0, [])).2.getD 6 PV.u).toI, PV.l ((r6.2.getD 0 (0, [])).2.getD 7 PV.u).toL])]).bind fun r7 =>
  some ([], [(t_q1, [PV.s ((r7.2.getD 0 (0, [])).2.getD 0 PV.u).toS, PV.i ((r7.2.getD 0 (0, [])).2.getD 1 PV.u).toI, PV.i ((r7.2.getD 0 (0, [])).2.getD 2 PV.u).toI, PV.i ((r7.2.getD 0 (0, [])).2.getD 3 PV.u).toI, PV.i ((r7.2.getD 0 (0, [])).2.getD 4 PV.u).toI, PV.i ((r7.2.getD 0 (0, [])).2.getD 5 PV.u).toI, PV.i ((r7.2.getD 0 (0, [])).2.getD 6 PV.u).toI, PV.l ((r7.2.getD 0 (0, [])).2.getD 7 PV.u).toL])])
  else (cW f_q20 [PV.u, PV.i 1] [(t_q1, [PV.s ((r2.2.getD 0 (0, [])).2.getD 0 PV.u).toS, PV.i ((r2.2.getD 0 (0, [])).2.getD 1 PV.u).toI, PV.i ((r2.2.getD 0 (0, [])).2.getD 2 PV.u).toI, PV.i ((r2.2.getD 0 (0, [])).2.getD 3 PV.u).toI, PV.i ((r2.2.getD 0 (0, [])).2.getD 4 PV.u).toI, PV.i ((r2.2.getD 0 (0, [])).2.getD 5 PV.u).toI, PV.i ((r2.2.getD 0 (0, [])).2.getD 6 PV.u).toI, PV.l ((r2.2.getD 0 (0, [])).2.getD 7 PV.u).toL])]).bind fun r8 =>
  (bif ((r8.1.getD 0 PV.u).toI == (1 : Int)) then (cW f_q35 [PV.u, (PV.i (IntKind.wrap .i64 ((r2.1.getD 0 PV.u).toI + (2 : Int))))] [(t_q1, [PV.s ((r8.2.getD 0 (0, [])).2.getD 0 PV.u).toS, PV.i ((r8.2.getD 0 (0, [])).2.getD 1 PV.u).toI, PV.i ((r8.2.getD 0 (0, [])).2.getD 2 PV.u).toI, PV.i ((r8.2.getD 0 (0, [])).2.getD 3 PV.u).toI, PV.i ((r8.2.getD 0 (0, [])).2.getD 4 PV.u).toI, PV.i ((r8.2.getD 0 (0, [])).2.getD 5 PV.u).toI, PV.i ((r8.2.getD 0 (0, [])).2.getD 6 PV.u).toI, PV.l ((r8.2.getD 0 (0, [])).2.getD 7 PV.u).toL])]).bind fun r9 =>
  (cW f_q35 [PV.u, (PV.i (IntKind.wrap .i64 ((r2.1.getD 0 PV.u).toI + (2 : Int))))] [(t_q1, [PV.s ((r9.2.getD 0 (0, [])).2.getD 0 PV.u).toS, PV.i ((r9.2.getD 0 (0, [])).2.getD 1 PV.u).toI, PV.i ((r9.2.getD 0 (0, [])).2.getD 2 PV.u).toI, PV.i ((r9.2.getD 0 (0, [])).2.getD 3 PV.u).toI, PV.i ((r9.2.getD 0 (0, [])).2.getD 4 PV.u).toI, PV.i ((r9.2.getD 0 (0, [])).2.getD 5 PV.u).toI, PV.i ((r9.2.getD 0 (0, [])).2.getD 6 PV.u).toI, PV.l ((r9.2.getD 0 (0, [])).2.getD 7 PV.u).toL])]).bind fun r10 =>
  (cW f_q62 [PV.u, PV.i 4, PV.i (r9.1.getD 0 PV.u).toI, PV.i (r10.1.getD 0 PV.u).toI, PV.i 0, PV.i 0, PV.i 0, PV.i 0, PV.i 0, (PV.l []), (PV.l [])] [(t_q1, [PV.s ((r10.2.getD 0 (0, [])).2.getD 0 PV.u).toS, PV.i ((r10.2.getD 0 (0, [])).2.getD 1 PV.u).toI, PV.i ((r10.2.getD 0 (0, [])).2.getD 2 PV.u).toI, PV.i ((r10.2.getD 0 (0, [])).2.getD 3 PV.u).toI, PV.i ((r10.2.getD 0 (0, [])).2.getD 4 PV.u).toI, PV.i ((r10.2.getD 0 (0, [])).2.getD 5 PV.u).toI, PV.i ((r10.2.getD 0 (0, [])).2.getD 6 PV.u).toI, PV.l ((r10.2.getD 0 (0, [])).2.getD 7 PV.u).toL])]).bind fun r11 =>
  some ([], [(t_q1, [PV.s ((r11.2.getD 0 (0, [])).2.getD 0 PV.u).toS, PV.i ((r11.2.getD 0 (0, [])).2.getD 1 PV.u).toI, PV.i ((r11.2.getD 0 (0, [])).2.getD 2 PV.u).toI, PV.i ((r11.2.getD 0 (0, [])).2.getD 3 PV.u).toI, PV.i ((r11.2.getD 0 (0, [])).2.getD 4 PV.u).toI, PV.i ((r11.2.getD 0 (0, [])).2.getD 5 PV.u).toI, PV.i ((r11.2.getD 0 (0, [])).2.getD 6 PV.u).toI, PV.l ((r11.2.getD 0 (0, [])).2.getD 7 PV.u).toL])])
  else (cW f_q20 [PV.u, PV.i 1] [(t_q1, [PV.s ((r8.2.getD 0 (0, [])).2.getD 0 PV.u).toS, PV.i ((r8.2.getD 0 (0, [])).2.getD 1 PV.u).toI, PV.i ((r8.2.getD 0 (0, [])).2.getD 2 PV.u).toI, PV.i ((r8.2.getD 0 (0, [])).2.getD 3 PV.u).toI, PV.i ((r8.2.getD 0 (0, [])).2.getD 4 PV.u).toI, PV.i ((r8.2.getD 0 (0, [])).2.getD 5 PV.u).toI, PV.i ((r8.2.getD 0 (0, [])).2.getD 6 PV.u).toI, PV.l ((r8.2.getD 0 (0, [])).2.getD 7 PV.u).toL])]).bind fun r12 =>
  (bif ((r12.1.getD 0 PV.u).toI == (1 : Int)) then (cW f_q35 [PV.u, (PV.i (IntKind.wrap .i64 ((r2.1.getD 0 PV.u).toI + (2 : Int))))] [(t_q1, [PV.s ((r12.2.getD 0 (0, [])).2.getD 0 PV.u).toS, PV.i ((r12.2.getD 0 (0, [])).2.getD 1 PV.u).toI, PV.i ((r12.2.getD 0 (0, [])).2.getD 2 PV.u).toI, PV.i ((r12.2.getD 0 (0, [])).2.getD 3 PV.u).toI, PV.i ((r12.2.getD 0 (0, [])).2.getD 4 PV.u).toI, PV.i ((r12.2.getD 0 (0, [])).2.getD 5 PV.u).toI, PV.i ((r12.2.getD 0 (0, [])).2.getD 6 PV.u).toI, PV.l ((r12.2.getD 0 (0, [])).2.getD 7 PV.u).toL])]).bind fun r13 =>
  (cW f_q62 [PV.u, PV.i 4, PV.i 0, PV.i (r13.1.getD 0 PV.u).toI, PV.i 0, PV.i 0, PV.i 0, PV.i 0, PV.i 0, (PV.l []), (PV.l [])] [(t_q1, [PV.s ((r13.2.getD 0 (0, [])).2.getD 0 PV.u).toS, PV.i ((r13.2.getD 0 (0, [])).2.getD 1 PV.u).toI, PV.i ((r13.2.getD 0 (0, [])).2.getD 2 PV.u).toI, PV.i ((r13.2.getD 0 (0, [])).2.getD 3 PV.u).toI, PV.i ((r13.2.getD 0 (0, [])).2.getD 4 PV.u).toI, PV.i ((r13.2.getD 0 (0, [])).2.getD 5 PV.u).toI, PV.i ((r13.2.getD 0 (0, [])).2.getD 6 PV.u).toI, PV.l ((r13.2.getD 0 (0, [])).2.getD 7 PV.u).toL])]).bind fun r14 =>
  some ([], [(t_q1, [PV.s ((r14.2.getD 0 (0, [])).2.getD 0 PV.u).toS, PV.i ((r14.2.getD 0 (0, [])).2.getD 1 PV.u).toI, PV.i ((r14.2.getD 0 (0, [])).2.getD 2 PV.u).toI, PV.i ((r14.2.getD 0 (0, [])).2.getD 3 PV.u).toI, PV.i ((r14.2.getD 0 (0, [])).2.getD 4 PV.u).toI, PV.i ((r14.2.getD 0 (0, [])).2.getD 5 PV.u).toI, PV.i ((r14.2.getD 0 (0, [])).2.getD 6 PV.u).toI, PV.l ((r14.2.getD 0 (0, [])).2.getD 7 PV.u).toL])])
  else (cW f_q35 [PV.u, (PV.i (IntKind.wrap .i64 ((r2.1.getD 0 PV.u).toI + (2 : Int))))] [(t_q1, [PV.s ((r12.2.getD 0 (0, [])).2.getD 0 PV.u).toS, PV.i ((r12.2.getD 0 (0, [])).2.getD 1 PV.u).toI, PV.i ((r12.2.getD 0 (0, [])).2.getD 2 PV.u).toI, PV.i ((r12.2.getD 0 (0, [])).2.getD 3 PV.u).toI, PV.i ((r12.2.getD 0 (0, [])).2.getD 4 PV.u).toI, PV.i ((r12.2.getD 0 (0, [])).2.getD 5 PV.u).toI, PV.i ((r12.2.getD 0 (0, [])).2.getD 6 PV.u).toI, PV.l ((r12.2.getD 0 (0, [])).2.getD 7 PV.u).toL])]).bind fun r15 =>
  (cW f_q62 [PV.u, PV.i 4, PV.i (r15.1.getD 0 PV.u).toI, PV.i 0, PV.i 0, PV.i 0, PV.i 0, PV.i 0, PV.i 0, (PV.l []), (PV.l [])] [(t_q1, [PV.s ((r15.2.getD 0 (0, [])).2.getD 0 PV.u).toS, PV.i ((r15.2.getD 0 (0, [])).2.getD 1 PV.u).toI, PV.i ((r15.2.getD 0 (0, [])).2.getD 2 PV.u).toI, PV.i ((r15.2.getD 0 (0, [])).2.getD 3 PV.u).toI, PV.i ((r15.2.getD 0 (0, [])).2.getD 4 PV.u).toI, PV.i ((r15.2.getD 0 (0, [])).2.getD 5 PV.u).toI, PV.i ((r15.2.getD 0 (0, [])).2.getD 6 PV.u).toI, PV.l ((r15.2.getD 0 (0, [])).2.getD 7 PV.u).toL])]).bind fun r16 =>
  some ([], [(t_q1, [PV.s ((r16.2.getD 0 (0, [])).2.getD 0 PV.u).toS, PV.i ((r16.2.getD 0 (0, [])).2.getD 1 PV.u).toI, PV.i ((r16.2.getD 0 (0, [])).2.getD 2 PV.u).toI, PV.i ((r16.2.getD 0 (0, [])).2.getD 3 PV.u).toI, PV.i ((r16.2.getD 0 (0, [])).2.getD 4 PV.u).toI, PV.i ((r16.2.getD 0 (0, [])).2.getD 5 PV.u).toI, PV.i ((r16.2.getD 0 (0, [])).2.getD 6 PV.u).toI, PV.l ((r16.2.getD 0 (0, [])).2.getD 7 PV.u).toL])])))) := by rw [cW_fix]; generalize cW = C; generalize rW = R; kernel_rfl
theorem w_q119 (a2 : Int) (p0_1 : List UInt8) (p0_2 p0_3 : Int) (p0_4 p0_5 : Int) (p0_6 p0_7 : Int) (p0_8 : List (List PV)) : cW f_q119 [.u, .i a2] [(t_q1, [.s p0_1, .i p0_2, .i p0_3, .i p0_4, .i p0_5, .i p0_6, .i p0_7, .l p0_8])] =
  (bif (p0_3 == (0 : Int)) then some ([], [(t_q1, [PV.s p0_1, PV.i p0_2, PV.i a2, PV.i p0_4, PV.i p0_5, PV.i p0_6, PV.i p0_7, PV.l p0_8])])
  else some ([], [(t_q1, [PV.s p0_1, PV.i p0_2, PV.i p0_3, PV.i p0_4, PV.i p0_5, PV.i p0_6, PV.i p0_7, PV.l p0_8])])) := by rw [cW_fix]; generalize cW = C; generalize rW = R; kernel_rfl
noncomputable def S_q54 (x1 : List (List PV)) (x2 x3 : Int) (x4 x5 : Int) : St := mkSt [(0, .v (.sl 3 x1)), (1, .v (.fn 147 [(.p 0), (.p 1)])), (7, .v (.int .i64 x2)), (8, .v (.int .i64 x3))] [((.p 0), .cells 3 [.int .i64 x4]), ((.p 1), .cells 3 [.int .i64 x5])] 1000 19
noncomputable def at_q54 : List Item := (atLoop Tryz.f173 0)
theorem w_q116 (a1 : List (List PV)) (p0_1 p1_1 : Int) : cW f_q116 [.l a1, (.f f_q185 2)] [(t_int, [.i p0_1]), (t_int, [.i p1_1])] =
  rW f_q116 [t_int, t_int] at_q54 (S_q54 (a1) (((a1.length : Nat) : Int)) 0 (p0_1) (p1_1)) := by rw [cW_fix]; generalize cW = C; generalize rW = R; kernel_rfl
theorem w_q54 (x1 : List (List PV)) (x2 x3 : Int) (x4 x5 : Int) : rW f_q116 [t_int, t_int] at_q54 (S_q54 x1 x2 x3 x4 x5) =
  (bif (decide (x3 < x2)) then (bif (inB x3 (List.length x1)) then (cW f_q185 [PV.i ((elemAt x1 x3).getD 0 PV.u).toI] [(t_int, [PV.i x4]), (t_int, [PV.i x5])]).bind fun r1 =>
  (bif (r1.1.getD 0 PV.u).toB then some ([PV.i x3], [(t_int, [PV.i ((r1.2.getD 0 (0, [])).2.getD 0 PV.u).toI]), (t_int, [(PV.i (((((r1).2.getD 1 (0, []))).2.getD 0 PV.u)).toI)])])
  else rW f_q116 [t_int, t_int] at_q54 (S_q54 x1 x2 ((IntKind.wrap .i64 (x3 + (1 : Int)))) (((r1.2.getD 0 (0, [])).2.getD 0 PV.u).toI) ((((((r1).2.getD 1 (0, []))).2.getD 0 PV.u)).toI)))
  else none)
  else some ([(PV.i (-1 : Int))], [(t_int, [PV.i x4]), (t_int, [PV.i x5])])) := by rw [rW_fix]; generalize cW = C; generalize rW = R; kernel_rfl
noncomputable def S_q95 (x1 x2 : List (List PV)) (x3 : Int) : St := mkSt [(0, .v (.sl 52 x1)), (1, .v (.sl 52 x2)), (5, .v (.int .i64 x3)), (33, .any), (34, .any), (35, .any), (36, .any), (37, .any), (40, .any), (41, .any), (42, .any), (43, .any), (44, .any), (47, .any), (48, .any), (49, .any), (50, .any), (51, .any), (54, .any), (55, .any), (56, .any), (57, .any), (58, .any), (61, .any), (62, .any), (63, .any), (64, .any), (65, .any), (68, .any), (69, .any), (70, .any), (71, .any), (72, .any), (75, .any), (76, .any), (77, .any), (78, .any), (79, .any)] [] 1000 91
noncomputable def at_q95 : List Item := (atLoop Tryz.f30 0)
theorem w_q131 (a1 a2 : List (List PV)) : cW f_q131 [.l a1, .l a2] [] =
  (bif (((a1.length : Nat) : Int) != ((a2.length : Nat) : Int)) then some ([PV.b false], [])
  else rW f_q131 [] at_q95 (S_q95 (a1) (a2) 0)) := by rw [cW_fix]; generalize cW = C; generalize rW = R; kernel_rfl
theorem w_q95 (x1 x2 : List (List PV)) (x3 : Int) : rW f_q131 [] at_q95 (S_q95 x1 x2 x3) =
  (bif (decide (x3 < ((x1.length : Nat) : Int))) then (bif (inB x3 (List.length x1)) then (bif (inB x3 (List.length x2)) then ((bif (((elemAt x1 x3).getD 0 PV.u).toI != ((elemAt x2 x3).getD 0 PV.u).toI) then some [PV.b true]
   else (bif (((elemAt x1 x3).getD 1 PV.u).toI != ((elemAt x2 x3).getD 1 PV.u).toI) then some [PV.b true]
   else (bif (((elemAt x1 x3).getD 2 PV.u).toI != ((elemAt x2 x3).getD 2 PV.u).toI) then some [PV.b true]
   else (bif (((elemAt x1 x3).getD 3 PV.u).toI != ((elemAt x2 x3).getD 3 PV.u).toI) then some [PV.b true]
   else (bif (((elemAt x1 x3).getD 4 PV.u).toI != ((elemAt x2 x3).getD 4 PV.u).toI) then some [PV.b true]
   else (bif (((elemAt x1 x3).getD 5 PV.u).toI != ((elemAt x2 x3).getD 5 PV.u).toI) then some [PV.b true]
   else (bif (((elemAt x1 x3).getD 6 PV.u).toI != ((elemAt x2 x3).getD 6 PV.u).toI) then some [PV.b true]
   else some [(PV.b (((elemAt x1 x3).getD 7 PV.u).toI != ((elemAt x2 x3).getD 7 PV.u).toI))])))))))).bind fun r1 =>
  (bif ((r1.getD 0 PV.u)).toB then some ([PV.b false], [])
  else (cW f_q55 [PV.l ((elemAt x1 x3).getD 8 PV.u).toL, PV.l ((elemAt x2 x3).getD 8 PV.u).toL, PV.l ((elemAt x1 x3).getD 9 PV.u).toL, PV.l ((elemAt x2 x3).getD 9 PV.u).toL] []).bind fun r2 =>
  (bif (!(r2.1.getD 0 PV.u).toB) then some ([PV.b false], [])
  else rW f_q131 [] at_q95 (S_q95 x1 x2 ((IntKind.wrap .i64 (x3 + (1 : Int)))))))
  else none)
  else none)
  else some ([PV.b true], [])) := by rw [rW_fix]; generalize cW = C; generalize rW = R; kernel_rfl
noncomputable def S_q109 (x1 : List (List PV)) (x2 x3 : Int) (x4 : List UInt8) (x5 : Int) (x6 : List UInt8) (x7 x8 x9 : Int) : St := mkSt [(10, .v (.ptr (.n 1 1 0) 0)), (12, .v (.ptr (.n 3 3 0) 0)), (30, .v (.sl 52 x1)), (31, .v (.int .i64 x2)), (32, .v (.int .i64 x3))] [((.n 1 1 0), .cells 46 [.str x4, .int .i64 x5]), ((.n 3 3 0), .cells 153 [.str x6, .int .i64 x7, .int .i64 x8, .int .i64 x9])] 1000 47
noncomputable def at_q109 : List Item := (atLoop Tryz.f38 0)
theorem w_q154 (a1 : List UInt8) (a2 a3 a4 : Int) (a5 : List (List PV)) (a6 : Int) : cW f_q154 [.s a1, .i a2, .i a3, .i a4, .l a5, .i a6] [] =
  (cW f_q117 [PV.i a3, PV.i a4, PV.l a5, PV.i a6] []).bind fun r1 =>
  (bif (!(r1.1.getD 0 PV.u).toB) then some ([(PV.s []), PV.i 0, PV.i 1], [])
  else (cW f_q181 [PV.s a1, PV.i a2] []).bind fun r2 =>
  (cW f_q129 [PV.u, PV.i a3, PV.i a4] [(t_q5, [PV.s (r2.1.getD 0 PV.u).toS, PV.i (r2.1.getD 1 PV.u).toI, PV.i 0, PV.i 0])]).bind fun r3 =>
  rW f_q154 [] at_q109 (S_q109 (a5) (((a5.length : Nat) : Int)) 0 ([]) 0 (((r3.2.getD 0 (0, [])).2.getD 0 PV.u).toS) (((r3.2.getD 0 (0, [])).2.getD 1 PV.u).toI) (((r3.2.getD 0 (0, [])).2.getD 2 PV.u).toI) (((r3.2.getD 0 (0, [])).2.getD 3 PV.u).toI))) := by rw [cW_fix]; generalize cW = C; generalize rW = R; kernel_rfl
theorem w_q109 (x1 : List (List PV)) (x2 x3 : Int) (x4 : List UInt8) (x5 : Int) (x6 : List UInt8) (x7 x8 x9 : Int) : rW f_q154 [] at_q109 (S_q109 x1 x2 x3 x4 x5 x6 x7 x8 x9) =
  (bif (decide (x3 < x2)) then (bif (inB x3 (List.length x1)) then (cW f_q78 [PV.u, PV.i ((elemAt x1 x3).getD 0 PV.u).toI, PV.i ((elemAt x1 x3).getD 1 PV.u).toI, PV.i ((elemAt x1 x3).getD 2 PV.u).toI, PV.i ((elemAt x1 x3).getD 3 PV.u).toI, PV.i ((elemAt x1 x3).getD 4 PV.u).toI, PV.i ((elemAt x1 x3).getD 5 PV.u).toI, PV.i ((elemAt x1 x3).getD 6 PV.u).toI, PV.i ((elemAt x1 x3).getD 7 PV.u).toI, PV.l ((elemAt x1 x3).getD 8 PV.u).toL, PV.l ((elemAt x1 x3).getD 9 PV.u).toL] [(t_q5, [PV.s x6, PV.i x7, PV.i x8, PV.i x9])]).bind fun r4 =>
  rW f_q154 [] at_q109 (S_q109 x1 x2 ((IntKind.wrap .i64 (x3 + (1 : Int)))) x4 x5 (((r4.2.getD 0 (0, [])).2.getD 0 PV.u).toS) (((r4.2.getD 0 (0, [])).2.getD 1 PV.u).toI) (((r4.2.getD 0 (0, [])).2.getD 2 PV.u).toI) (((r4.2.getD 0 (0, [])).2.getD 3 PV.u).toI))
  else none)
  else (cW f_q18 [PV.u, PV.i 0, PV.i 6] [(t_q5, [PV.s x6, PV.i x7, PV.i x8, PV.i x9])]).bind fun r5 =>
  (cW f_q181 [PV.s ((r5.2.getD 0 (0, [])).2.getD 0 PV.u).toS, PV.i ((r5.2.getD 0 (0, [])).2.getD 1 PV.u).toI] []).bind fun r6 =>
  some ([PV.s (r6.1.getD 0 PV.u).toS, PV.i (r6.1.getD 1 PV.u).toI, PV.i 0], [])) := by rw [rW_fix]; generalize cW = C; generalize rW = R; kernel_rfl
noncomputable def S_q58 (x1 x2 : Int) (x3 : List (List PV)) (x4 x5 : Int) : St := mkSt [(0, .v (.int .i64 x1)), (1, .v (.int .i64 x2)), (2, .v (.sl 52 x3)), (3, .v (.int .i64 x4)), (9, .v (.int .i64 x5)), (43, .any), (44, .any), (45, .any), (46, .any), (47, .any), (48, .any), (49, .any), (50, .any), (51, .any), (52, .any), (55, .any), (56, .any), (57, .any), (58, .any), (59, .any), (60, .any), (61, .any), (62, .any), (63, .any), (64, .any)] [] 1000 84
noncomputable def at_q58 : List Item := (atLoop Tryz.f42 0)
theorem w_q103 (a1 a2 : Int) (a3 : List (List PV)) (a4 : Int) : cW f_q103 [.i a1, .i a2, .l a3, .i a4] [] =
  ((cW f_q71 [PV.i a1, PV.i 0, PV.i 15] []).bind fun r1 =>
   (bif (!(r1.1.getD 0 PV.u).toB) then some [PV.b true]
   else (cW f_q71 [PV.i a2, PV.i 0, PV.i 15] []).bind fun r2 =>
   (bif (!(r2.1.getD 0 PV.u).toB) then some [PV.b true]
   else (cW f_q71 [PV.i a4, PV.i 0, PV.i 2] []).bind fun r3 =>
   (bif (!(r3.1.getD 0 PV.u).toB) then some [PV.b true]
   else some [(PV.b (decide (((a3.length : Nat) : Int) > (512 : Int))))])))).bind fun r4 =>
  (bif ((r4.getD 0 PV.u)).toB then some ([PV.b false], [])
  else rW f_q103 [] at_q58 (S_q58 (a1) (a2) (a3) (a4) 0)) := by rw [cW_fix]; generalize cW = C; generalize rW = R; kernel_rfl
theorem w_q58 (x1 x2 : Int) (x3 : List (List PV)) (x4 x5 : Int) : rW f_q103 [] at_q58 (S_q58 x1 x2 x3 x4 x5) =
  (bif (decide (x5 < ((x3.length : Nat) : Int))) then ((bif (inB x5 (List.length x3)) then (cW f_q195 [PV.i ((elemAt x3 x5).getD 0 PV.u).toI, PV.i ((elemAt x3 x5).getD 1 PV.u).toI, PV.i ((elemAt x3 x5).getD 2 PV.u).toI, PV.i ((elemAt x3 x5).getD 3 PV.u).toI, PV.i ((elemAt x3 x5).getD 4 PV.u).toI, PV.i ((elemAt x3 x5).getD 5 PV.u).toI, PV.i ((elemAt x3 x5).getD 6 PV.u).toI, PV.i ((elemAt x3 x5).getD 7 PV.u).toI, PV.l ((elemAt x3 x5).getD 8 PV.u).toL, PV.l ((elemAt x3 x5).getD 9 PV.u).toL, PV.i x1, PV.i x2] []).bind fun r5 =>
   (bif (!(r5.1.getD 0 PV.u).toB) then some [PV.b true]
   else (bif (inB x5 (List.length x3)) then (bif (((elemAt x3 x5).getD 0 PV.u).toI == (3 : Int)) then (bif (decide (x4 > (0 : Int))) then some [PV.b true]
   else (bif (inB x5 (List.length x3)) then (bif (((elemAt x3 x5).getD 0 PV.u).toI == (2 : Int)) then some [(PV.b (decide (x4 > (1 : Int))))]
   else some [PV.b false])
   else none))
   else (bif (inB x5 (List.length x3)) then (bif (((elemAt x3 x5).getD 0 PV.u).toI == (2 : Int)) then some [(PV.b (decide (x4 > (1 : Int))))]
   else some [PV.b false])
   else none))
   else none))
   else none)).bind fun r6 =>
  (bif ((r6.getD 0 PV.u)).toB then some ([PV.b false], [])
  else (bif (inB x5 (List.length x3)) then (bif (((elemAt x3 x5).getD 0 PV.u).toI == (3 : Int)) then (bif (inB x5 (List.length x3)) then (bif (inB x5 (List.length x3)) then rW f_q103 [] at_q58 (S_q58 ((((List.length ((elemAt x3 x5).getD 8 PV.u).toL) : Nat) : Int)) ((((List.length ((elemAt x3 x5).getD 9 PV.u).toL) : Nat) : Int)) x3 x4 ((IntKind.wrap .i64 (x5 + (1 : Int)))))
  else none)
  else none)
  else rW f_q103 [] at_q58 (S_q58 x1 x2 x3 x4 ((IntKind.wrap .i64 (x5 + (1 : Int))))))
  else none))
  else some ([PV.b true], [])) := by rw [rW_fix]; generalize cW = C; generalize rW = R; kernel_rfl
/- celluloid/celluloidref09.edge -/
theorem w_q195 (a1 a2 : Int) (a3 a4 : Int) (a5 a6 : Int) (a7 a8 : Int) (a9 a10 : List (List PV)) (a11 a12 : Int) : cW f_q195 [.i a1, .i a2, .i a3, .i a4, .i a5, .i a6, .i a7, .i a8, .l a9, .l a10, .i a11, .i a12] [] =
  ((bif (a6 != (0 : Int)) then some [PV.b true]
   else (bif (a7 != (0 : Int)) then some [PV.b true]
   else some [(PV.b (a8 != (0 : Int)))]))).bind fun r1 =>
  ((bif (a4 != (0 : Int)) then some [PV.b true]
   else some [(PV.b (a5 != (0 : Int)))])).bind fun r2 =>
  ((bif (a2 != (0 : Int)) then some [PV.b true]
   else some [(PV.b (a3 != (0 : Int)))])).bind fun r3 =>
  (bif (a1 == (1 : Int)) then ((bif (!((r1.getD 0 PV.u)).toB) then (bif (!(decide ((IntKind.wrap .i64 (((a9.length : Nat) : Int) + ((a10.length : Nat) : Int))) > (0 : Int)))) then (bif (!((r2.getD 0 PV.u)).toB) then (cW f_q71 [PV.i a2, (PV.i (-1048576 : Int)), PV.i 1048576] []).bind fun r4 =>
   (bif (r4.1.getD 0 PV.u).toB then (cW f_q71 [PV.i a3, (PV.i (-1048576 : Int)), PV.i 1048576] []).bind fun r5 =>
   some [PV.b (r5.1.getD 0 PV.u).toB]
   else some [PV.b false])
   else some [PV.b false])
   else some [PV.b false])
   else some [PV.b false])).bind fun r6 =>
  some ([PV.b ((r6.getD 0 PV.u)).toB], [])
  else (bif (a1 == (2 : Int)) then ((bif (decide (a6 > (-1 : Int))) then some [PV.b true]
   else (bif (decide (a7 > (-1 : Int))) then some [PV.b true]
   else some [(PV.b (decide (a8 > (-1 : Int))))]))).bind fun r7 =>
  ((bif (!(decide ((IntKind.wrap .i64 (((a9.length : Nat) : Int) + ((a10.length : Nat) : Int))) > (0 : Int)))) then (bif (!((r2.getD 0 PV.u)).toB) then (bif (!((r3.getD 0 PV.u)).toB) then (bif ((r7.getD 0 PV.u)).toB then (cW f_q71 [PV.i a6, (PV.i (-1 : Int)), PV.i a11] []).bind fun r8 =>
   (bif (r8.1.getD 0 PV.u).toB then (cW f_q71 [PV.i a7, (PV.i (-1 : Int)), PV.i a11] []).bind fun r9 =>
   (bif (r9.1.getD 0 PV.u).toB then (cW f_q71 [PV.i a8, (PV.i (-1 : Int)), PV.i a12] []).bind fun r10 =>
   some [PV.b (r10.1.getD 0 PV.u).toB]
   else some [PV.b false])
   else some [PV.b false])
   else some [PV.b false])
   else some [PV.b false])
   else some [PV.b false])
   else some [PV.b false])).bind fun r11 =>
  some ([PV.b ((r11.getD 0 PV.u)).toB], [])
  else (bif (a1 == (3 : Int)) then ((bif (!((r1.getD 0 PV.u)).toB) then (bif (!((r2.getD 0 PV.u)).toB) then (bif (!((r3.getD 0 PV.u)).toB) then (cW f_q74 [PV.l a9, PV.l a10] []).bind fun r12 =>
   some [PV.b (r12.1.getD 0 PV.u).toB]
   else some [PV.b false])
   else some [PV.b false])
   else some [PV.b false])).bind fun r13 =>
  some ([PV.b ((r13.getD 0 PV.u)).toB], [])
  else (bif (a1 == (4 : Int)) then ((bif (!((r1.getD 0 PV.u)).toB) then (bif (!(decide ((IntKind.wrap .i64 (((a9.length : Nat) : Int) + ((a10.length : Nat) : Int))) > (0 : Int)))) then (bif (!((r2.getD 0 PV.u)).toB) then (cW f_q71 [PV.i a2, (PV.i (-65536 : Int)), PV.i 65535] []).bind fun r14 =>
   (bif (r14.1.getD 0 PV.u).toB then (cW f_q71 [PV.i a3, (PV.i (-65536 : Int)), PV.i 65535] []).bind fun r15 =>
   some [PV.b (r15.1.getD 0 PV.u).toB]
   else some [PV.b false])
   else some [PV.b false])
   else some [PV.b false])
   else some [PV.b false])).bind fun r16 =>
  some ([PV.b ((r16.getD 0 PV.u)).toB], [])
  else (bif (a1 == (5 : Int)) then ((bif (!((r1.getD 0 PV.u)).toB) then (bif (!(decide ((IntKind.wrap .i64 (((a9.length : Nat) : Int) + ((a10.length : Nat) : Int))) > (0 : Int)))) then (cW f_q71 [PV.i a2, (PV.i (-65536 : Int)), PV.i 65535] []).bind fun r17 =>
   (bif (r17.1.getD 0 PV.u).toB then (cW f_q71 [PV.i a3, (PV.i (-65536 : Int)), PV.i 65535] []).bind fun r18 =>
   (bif (r18.1.getD 0 PV.u).toB then (cW f_q71 [PV.i a4, (PV.i (-65536 : Int)), PV.i 65535] []).bind fun r19 =>
   (bif (r19.1.getD 0 PV.u).toB then (cW f_q71 [PV.i a5, (PV.i (-65536 : Int)), PV.i 65535] []).bind fun r20 =>
   some [PV.b (r20.1.getD 0 PV.u).toB]
   else some [PV.b false])
   else some [PV.b false])
   else some [PV.b false])
   else some [PV.b false])
   else some [PV.b false])).bind fun r21 =>
  some ([PV.b ((r21.getD 0 PV.u)).toB], [])
  else some ([PV.b false], [])))))) := by rw [cW_fix]; generalize cW = C; generalize rW = R; kernel_rfl
theorem w_q129 (a2 a3 : Int) (p0_1 : List UInt8) (p0_2 p0_3 p0_4 : Int) : cW f_q129 [.u, .i a2, .i a3] [(t_q5, [.s p0_1, .i p0_2, .i p0_3, .i p0_4])] =
  (cW f_q146 [(PV.l (List.set [[PV.i 0]] 0 [PV.i a2]))] []).bind fun r1 =>
  (cW f_q146 [(PV.l (List.set [[PV.i 0]] 0 [PV.i a3]))] []).bind fun r2 =>
  (cW f_q18 [PV.u, PV.i (r1.1.getD 0 PV.u).toI, PV.i 4] [(t_q5, [PV.s p0_1, PV.i p0_2, PV.i (r1.1.getD 0 PV.u).toI, PV.i (r2.1.getD 0 PV.u).toI])]).bind fun r3 =>
  (cW f_q18 [PV.u, PV.i ((r3.2.getD 0 (0, [])).2.getD 3 PV.u).toI, PV.i 4] [(t_q5, [PV.s ((r3.2.getD 0 (0, [])).2.getD 0 PV.u).toS, PV.i ((r3.2.getD 0 (0, [])).2.getD 1 PV.u).toI, PV.i ((r3.2.getD 0 (0, [])).2.getD 2 PV.u).toI, PV.i ((r3.2.getD 0 (0, [])).2.getD 3 PV.u).toI])]).bind fun r4 =>
  some ([], [(t_q5, [PV.s ((r4.2.getD 0 (0, [])).2.getD 0 PV.u).toS, PV.i ((r4.2.getD 0 (0, [])).2.getD 1 PV.u).toI, PV.i ((r4.2.getD 0 (0, [])).2.getD 2 PV.u).toI, PV.i ((r4.2.getD 0 (0, [])).2.getD 3 PV.u).toI])]) := by rw [cW_fix]; generalize cW = C; generalize rW = R; kernel_rfl
noncomputable def S_q70 (x1 : List (List PV)) (x2 x3 : Int) : St := mkSt [(0, .v (.sl 3 x1)), (1, .v (.int .i64 x2)), (5, .v (.int .i64 x3))] [] 1000 25
noncomputable def at_q70 : List Item := (atLoop Tryz.f102 0)
theorem w_q110 (a1 : List (List PV)) (a2 : Int) : cW f_q110 [.l a1, .i a2] [] =
  rW f_q110 [] at_q70 (S_q70 (a1) (a2) 0) := by rw [cW_fix]; generalize cW = C; generalize rW = R; kernel_rfl
theorem w_q70 (x1 : List (List PV)) (x2 x3 : Int) : rW f_q110 [] at_q70 (S_q70 x1 x2 x3) =
  (bif (decide (x3 < ((x1.length : Nat) : Int))) then (bif (inB x3 (List.length x1)) then (cW f_q97 [PV.i ((elemAt x1 x3).getD 0 PV.u).toI] []).bind fun r1 =>
  (bif (decide ((r1.1.getD 0 PV.u).toI > x2)) then (bif (inB x3 (List.length x1)) then (cW f_q97 [PV.i ((elemAt x1 x3).getD 0 PV.u).toI] []).bind fun r2 =>
  rW f_q110 [] at_q70 (S_q70 x1 ((r2.1.getD 0 PV.u).toI) ((IntKind.wrap .i64 (x3 + (1 : Int)))))
  else none)
  else rW f_q110 [] at_q70 (S_q70 x1 x2 ((IntKind.wrap .i64 (x3 + (1 : Int))))))
  else none)
  else some ([PV.i x2], [])) := by rw [rW_fix]; generalize cW = C; generalize rW = R; kernel_rfl
noncomputable def S_q47 (x1 : Int) (x2 : List (List PV)) (x3 : List UInt8) (x4 x5 : Int) (x6 x7 : Int) (x8 x9 : Int) (x10 x11 : List (List PV)) (x12 x13 : Int) (x14 x15 : Int) (x16 x17 : Int) (x18 x19 : Int) : St := mkSt [(0, .v (.ptr (.p 0) 0)), (1, .v (.int .i64 x1)), (6, .v (.ptr (.n 2 1 0) 0)), (83, .any), (84, .any), (85, .any), (86, .any), (87, .any), (88, .any), (89, .any), (90, .any), (91, .any), (92, .any), (93, .any), (94, .any), (95, .any), (96, .any), (97, .any), (98, .any), (99, .any), (100, .any), (101, .any), (102, .any), (103, .any), (104, .any), (105, .any), (106, .any), (107, .any), (108, .any), (109, .any), (110, .any)] [((.c (.p 0) 7), .row 52 x2), ((.p 0), .cells 184 [.str x3, .int .i64 x4, .int .i64 x5, .int .i64 x6, .int .i64 x7, .int .i64 x8, .int .i64 x9, .wr (.c (.p 0) 7)]), ((.c (.n 2 1 0) 8), .row 70 x10), ((.c (.n 2 1 0) 9), .row 74 x11), ((.n 2 1 0), .cells 52 [.int .i64 x12, .int .i64 x13, .int .i64 x14, .int .i64 x15, .int .i64 x16, .int .i64 x17, .int .i64 x18, .int .i64 x19, .wr (.c (.n 2 1 0) 8), .wr (.c (.n 2 1 0) 9)])] 1000 126
noncomputable def at_q47 : List Item := (atCut Tryz.f118 6)
noncomputable def S_q48 (x1 : Int) (x2 : List (List PV)) (x3 : List UInt8) (x4 x5 : Int) (x6 x7 : Int) (x8 x9 : Int) (x10 x11 : List (List PV)) (x12 x13 : Int) (x14 x15 : Int) (x16 x17 : Int) (x18 x19 : Int) (x20 x21 : List (List PV)) (x22 x23 : Int) (x24 x25 : Int) (x26 x27 : Int) (x28 x29 : Int) : St := mkSt [(0, .v (.ptr (.p 0) 0)), (1, .v (.int .i64 x1)), (6, .v (.ptr (.n 2 1 0) 0)), (8, .v (.ptr (.n 1000 1 0) 0)), (83, .any), (84, .any), (85, .any), (86, .any), (87, .any), (88, .any), (89, .any), (90, .any), (91, .any), (92, .any), (93, .any), (94, .any), (95, .any), (96, .any), (97, .any), (98, .any), (99, .any), (100, .any), (101, .any), (102, .any), (103, .any), (104, .any), (105, .any), (106, .any), (107, .any), (108, .any), (109, .any), (110, .any)] [((.c (.p 0) 7), .row 52 x2), ((.p 0), .cells 184 [.str x3, .int .i64 x4, .int .i64 x5, .int .i64 x6, .int .i64 x7, .int .i64 x8, .int .i64 x9, .wr (.c (.p 0) 7)]), ((.c (.n 2 1 0) 8), .row 70 x10), ((.c (.n 2 1 0) 9), .row 74 x11), ((.n 2 1 0), .cells 52 [.int .i64 x12, .int .i64 x13, .int .i64 x14, .int .i64 x15, .int .i64 x16, .int .i64 x17, .int .i64 x18, .int .i64 x19, .wr (.c (.n 2 1 0) 8), .wr (.c (.n 2 1 0) 9)]), ((.c (.n 1000 1 0) 8), .row 70 x20), ((.c (.n 1000 1 0) 9), .row 74 x21), ((.n 1000 1 0), .cells 52 [.int .i64 x22, .int .i64 x23, .int .i64 x24, .int .i64 x25, .int .i64 x26, .int .i64 x27, .int .i64 x28, .int .i64 x29, .wr (.c (.n 1000 1 0) 8), .wr (.c (.n 1000 1 0) 9)])] 2000 126
noncomputable def at_q48 : List Item := (atCut Tryz.f118 9)
noncomputable def S_q42 (x1 : Int) (x2 : List (List PV)) (x3 : List UInt8) (x4 x5 : Int) (x6 x7 : Int) (x8 x9 : Int) (x10 x11 : List (List PV)) (x12 x13 : Int) (x14 x15 : Int) (x16 x17 : Int) (x18 x19 : Int) (x20 x21 : List (List PV)) (x22 x23 : Int) (x24 x25 : Int) (x26 x27 : Int) (x28 x29 : Int) : St := mkSt [(0, .v (.ptr (.p 0) 0)), (1, .v (.int .i64 x1)), (6, .v (.ptr (.n 2 1 0) 0)), (8, .v (.ptr (.n 1000 1 0) 0)), (83, .any), (84, .any), (85, .any), (86, .any), (87, .any), (88, .any), (89, .any), (90, .any), (91, .any), (92, .any), (93, .any), (94, .any), (95, .any), (96, .any), (97, .any), (98, .any), (99, .any), (100, .any), (101, .any), (102, .any), (103, .any), (104, .any), (105, .any), (106, .any), (107, .any), (108, .any), (109, .any), (110, .any)] [((.c (.p 0) 7), .row 52 x2), ((.p 0), .cells 184 [.str x3, .int .i64 x4, .int .i64 x5, .int .i64 x6, .int .i64 x7, .int .i64 x8, .int .i64 x9, .wr (.c (.p 0) 7)]), ((.c (.n 2 1 0) 8), .row 70 x10), ((.c (.n 2 1 0) 9), .row 74 x11), ((.n 2 1 0), .cells 52 [.int .i64 x12, .int .i64 x13, .int .i64 x14, .int .i64 x15, .int .i64 x16, .int .i64 x17, .int .i64 x18, .int .i64 x19, .wr (.c (.n 2 1 0) 8), .wr (.c (.n 2 1 0) 9)]), ((.c (.n 1000 1 0) 8), .row 70 x20), ((.c (.n 1000 1 0) 9), .row 74 x21), ((.n 1000 1 0), .cells 52 [.int .i64 x22, .int .i64 x23, .int .i64 x24, .int .i64 x25, .int .i64 x26, .int .i64 x27, .int .i64 x28, .int .i64 x29, .wr (.c (.n 1000 1 0) 8), .wr (.c (.n 1000 1 0) 9)])] 3000 126
noncomputable def at_q42 : List Item := (atCut Tryz.f118 11)
noncomputable def S_q43 (x1 : Int) (x2 : List (List PV)) (x3 : List UInt8) (x4 x5 : Int) (x6 x7 : Int) (x8 x9 : Int) (x10 x11 : List (List PV)) (x12 x13 : Int) (x14 x15 : Int) (x16 x17 : Int) (x18 x19 : Int) (x20 x21 : List (List PV)) (x22 x23 : Int) (x24 x25 : Int) (x26 x27 : Int) (x28 x29 : Int) : St := mkSt [(0, .v (.ptr (.p 0) 0)), (1, .v (.int .i64 x1)), (6, .v (.ptr (.n 2 1 0) 0)), (8, .v (.ptr (.n 1000 1 0) 0)), (83, .any), (84, .any), (85, .any), (86, .any), (87, .any), (88, .any), (89, .any), (90, .any), (91, .any), (92, .any), (93, .any), (94, .any), (95, .any), (96, .any), (97, .any), (98, .any), (99, .any), (100, .any), (101, .any), (102, .any), (103, .any), (104, .any), (105, .any), (106, .any), (107, .any), (108, .any), (109, .any), (110, .any)] [((.c (.p 0) 7), .row 52 x2), ((.p 0), .cells 184 [.str x3, .int .i64 x4, .int .i64 x5, .int .i64 x6, .int .i64 x7, .int .i64 x8, .int .i64 x9, .wr (.c (.p 0) 7)]), ((.c (.n 2 1 0) 8), .row 70 x10), ((.c (.n 2 1 0) 9), .row 74 x11), ((.n 2 1 0), .cells 52 [.int .i64 x12, .int .i64 x13, .int .i64 x14, .int .i64 x15, .int .i64 x16, .int .i64 x17, .int .i64 x18, .int .i64 x19, .wr (.c (.n 2 1 0) 8), .wr (.c (.n 2 1 0) 9)]), ((.c (.n 1000 1 0) 8), .row 70 x20), ((.c (.n 1000 1 0) 9), .row 74 x21), ((.n 1000 1 0), .cells 52 [.int .i64 x22, .int .i64 x23, .int .i64 x24, .int .i64 x25, .int .i64 x26, .int .i64 x27, .int .i64 x28, .int .i64 x29, .wr (.c (.n 1000 1 0) 8), .wr (.c (.n 1000 1 0) 9)])] 4000 126
noncomputable def at_q43 : List Item := (atCut Tryz.f118 13)
noncomputable def S_q44 (x1 : Int) (x2 : List (List PV)) (x3 : List UInt8) (x4 x5 : Int) (x6 x7 : Int) (x8 x9 : Int) (x10 x11 : List (List PV)) (x12 x13 : Int) (x14 x15 : Int) (x16 x17 : Int) (x18 x19 : Int) (x20 x21 : List (List PV)) (x22 x23 : Int) (x24 x25 : Int) (x26 x27 : Int) (x28 x29 : Int) : St := mkSt [(0, .v (.ptr (.p 0) 0)), (1, .v (.int .i64 x1)), (6, .v (.ptr (.n 2 1 0) 0)), (8, .v (.ptr (.n 1000 1 0) 0)), (83, .any), (84, .any), (85, .any), (86, .any), (87, .any), (88, .any), (89, .any), (90, .any), (91, .any), (92, .any), (93, .any), (94, .any), (95, .any), (96, .any), (97, .any), (98, .any), (99, .any), (100, .any), (101, .any), (102, .any), (103, .any), (104, .any), (105, .any), (106, .any), (107, .any), (108, .any), (109, .any), (110, .any)] [((.c (.p 0) 7), .row 52 x2), ((.p 0), .cells 184 [.str x3, .int .i64 x4, .int .i64 x5, .int .i64 x6, .int .i64 x7, .int .i64 x8, .int .i64 x9, .wr (.c (.p 0) 7)]), ((.c (.n 2 1 0) 8), .row 70 x10), ((.c (.n 2 1 0) 9), .row 74 x11), ((.n 2 1 0), .cells 52 [.int .i64 x12, .int .i64 x13, .int .i64 x14, .int .i64 x15, .int .i64 x16, .int .i64 x17, .int .i64 x18, .int .i64 x19, .wr (.c (.n 2 1 0) 8), .wr (.c (.n 2 1 0) 9)]), ((.c (.n 1000 1 0) 8), .row 70 x20), ((.c (.n 1000 1 0) 9), .row 74 x21), ((.n 1000 1 0), .cells 52 [.int .i64 x22, .int .i64 x23, .int .i64 x24, .int .i64 x25, .int .i64 x26, .int .i64 x27, .int .i64 x28, .int .i64 x29, .wr (.c (.n 1000 1 0) 8), .wr (.c (.n 1000 1 0) 9)])] 5000 126
noncomputable def at_q44 : List Item := (atCut Tryz.f118 15)
noncomputable def S_q45 (x1 : Int) (x2 : List (List PV)) (x3 : List UInt8) (x4 x5 : Int) (x6 x7 : Int) (x8 x9 : Int) (x10 x11 : List (List PV)) (x12 x13 : Int) (x14 x15 : Int) (x16 x17 : Int) (x18 x19 : Int) (x20 x21 : List (List PV)) (x22 x23 : Int) (x24 x25 : Int) (x26 x27 : Int) (x28 x29 : Int) : St := mkSt [(0, .v (.ptr (.p 0) 0)), (1, .v (.int .i64 x1)), (6, .v (.ptr (.n 2 1 0) 0)), (8, .v (.ptr (.n 1000 1 0) 0))] [((.c (.p 0) 7), .row 52 x2), ((.p 0), .cells 184 [.str x3, .int .i64 x4, .int .i64 x5, .int .i64 x6, .int .i64 x7, .int .i64 x8, .int .i64 x9, .wr (.c (.p 0) 7)]), ((.c (.n 2 1 0) 8), .row 70 x10), ((.c (.n 2 1 0) 9), .row 74 x11), ((.n 2 1 0), .cells 52 [.int .i64 x12, .int .i64 x13, .int .i64 x14, .int .i64 x15, .int .i64 x16, .int .i64 x17, .int .i64 x18, .int .i64 x19, .wr (.c (.n 2 1 0) 8), .wr (.c (.n 2 1 0) 9)]), ((.c (.n 1000 1 0) 8), .row 70 x20), ((.c (.n 1000 1 0) 9), .row 74 x21), ((.n 1000 1 0), .cells 52 [.int .i64 x22, .int .i64 x23, .int .i64 x24, .int .i64 x25, .int .i64 x26, .int .i64 x27, .int .i64 x28, .int .i64 x29, .wr (.c (.n 1000 1 0) 8), .wr (.c (.n 1000 1 0) 9)])] 6000 126
noncomputable def at_q45 : List Item := (atCut Tryz.f118 17)
noncomputable def S_q46 (x1 : Int) (x2 : List (List PV)) (x3 : List UInt8) (x4 x5 : Int) (x6 x7 : Int) (x8 x9 : Int) (x10 x11 : List (List PV)) (x12 x13 : Int) (x14 x15 : Int) (x16 x17 : Int) (x18 x19 : Int) : St := mkSt [(0, .v (.ptr (.p 0) 0)), (1, .v (.int .i64 x1)), (8, .v (.ptr (.n 1000 1 0) 0))] [((.c (.p 0) 7), .row 52 x2), ((.p 0), .cells 184 [.str x3, .int .i64 x4, .int .i64 x5, .int .i64 x6, .int .i64 x7, .int .i64 x8, .int .i64 x9, .wr (.c (.p 0) 7)]), ((.c (.n 1000 1 0) 8), .row 70 x10), ((.c (.n 1000 1 0) 9), .row 74 x11), ((.n 1000 1 0), .cells 52 [.int .i64 x12, .int .i64 x13, .int .i64 x14, .int .i64 x15, .int .i64 x16, .int .i64 x17, .int .i64 x18, .int .i64 x19, .wr (.c (.n 1000 1 0) 8), .wr (.c (.n 1000 1 0) 9)])] 7000 126
noncomputable def at_q46 : List Item := (atCut Tryz.f118 19)
theorem w_q4 (a2 a3 : Int) (p0_1 : List UInt8) (p0_2 p0_3 : Int) (p0_4 p0_5 : Int) (p0_6 p0_7 : Int) (p0_8 : List (List PV)) : cW f_q4 [.u, .i a2, .i a3] [(t_q1, [.s p0_1, .i p0_2, .i p0_3, .i p0_4, .i p0_5, .i p0_6, .i p0_7, .l p0_8])] =
  ((bif ((bitsOp Go.BinOp.and .i64 a2 (16 : Int)) != (0 : Int)) then (bif (a3 != (0 : Int)) then some [PV.b true]
   else (bif ((bitsOp Go.BinOp.and .i64 a2 (14 : Int)) != (0 : Int)) then some [(PV.b (a3 == (2 : Int)))]
   else some [PV.b false]))
   else (bif ((bitsOp Go.BinOp.and .i64 a2 (14 : Int)) != (0 : Int)) then some [(PV.b (a3 == (2 : Int)))]
   else some [PV.b false]))).bind fun r1 =>
  (bif ((r1.getD 0 PV.u)).toB then (cW f_q119 [PV.u, PV.i 3] [(t_q1, [PV.s p0_1, PV.i p0_2, PV.i p0_3, PV.i p0_4, PV.i p0_5, PV.i p0_6, PV.i p0_7, PV.l p0_8])]).bind fun r2 =>
  some ([], [(t_q1, [PV.s ((r2.2.getD 0 (0, [])).2.getD 0 PV.u).toS, PV.i ((r2.2.getD 0 (0, [])).2.getD 1 PV.u).toI, PV.i ((r2.2.getD 0 (0, [])).2.getD 2 PV.u).toI, PV.i ((r2.2.getD 0 (0, [])).2.getD 3 PV.u).toI, PV.i ((r2.2.getD 0 (0, [])).2.getD 4 PV.u).toI, PV.i ((r2.2.getD 0 (0, [])).2.getD 5 PV.u).toI, PV.i ((r2.2.getD 0 (0, [])).2.getD 6 PV.u).toI, PV.l ((r2.2.getD 0 (0, [])).2.getD 7 PV.u).toL])])
  else (bif ((bitsOp Go.BinOp.and .i64 a2 (1 : Int)) != (0 : Int)) then (cW f_q20 [PV.u, PV.i 5] [(t_q1, [PV.s p0_1, PV.i p0_2, PV.i p0_3, PV.i p0_4, PV.i p0_5, PV.i p0_6, PV.i p0_7, PV.l p0_8])]).bind fun r3 =>
  (cW f_q35 [PV.u, PV.i (r3.1.getD 0 PV.u).toI] [(t_q1, [PV.s ((r3.2.getD 0 (0, [])).2.getD 0 PV.u).toS, PV.i ((r3.2.getD 0 (0, [])).2.getD 1 PV.u).toI, PV.i ((r3.2.getD 0 (0, [])).2.getD 2 PV.u).toI, PV.i ((r3.2.getD 0 (0, [])).2.getD 3 PV.u).toI, PV.i ((r3.2.getD 0 (0, [])).2.getD 4 PV.u).toI, PV.i ((r3.2.getD 0 (0, [])).2.getD 5 PV.u).toI, PV.i ((r3.2.getD 0 (0, [])).2.getD 6 PV.u).toI, PV.l ((r3.2.getD 0 (0, [])).2.getD 7 PV.u).toL])]).bind fun r4 =>
  (cW f_q35 [PV.u, PV.i (r3.1.getD 0 PV.u).toI] [(t_q1, [PV.s ((r4.2.getD 0 (0, [])).2.getD 0 PV.u).toS, PV.i ((r4.2.getD 0 (0, [])).2.getD 1 PV.u).toI, PV.i ((r4.2.getD 0 (0, [])).2.getD 2 PV.u).toI, PV.i ((r4.2.getD 0 (0, [])).2.getD 3 PV.u).toI, PV.i ((r4.2.getD 0 (0, [])).2.getD 4 PV.u).toI, PV.i ((r4.2.getD 0 (0, [])).2.getD 5 PV.u).toI, PV.i ((r4.2.getD 0 (0, [])).2.getD 6 PV.u).toI, PV.l ((r4.2.getD 0 (0, [])).2.getD 7 PV.u).toL])]).bind fun r5 =>
  rW f_q4 [t_q1] at_q47 (S_q47 (a2) (((r5.2.getD 0 (0, [])).2.getD 7 PV.u).toL) (((r5.2.getD 0 (0, [])).2.getD 0 PV.u).toS) (((r5.2.getD 0 (0, [])).2.getD 1 PV.u).toI) (((r5.2.getD 0 (0, [])).2.getD 2 PV.u).toI) (((r5.2.getD 0 (0, [])).2.getD 3 PV.u).toI) (((r5.2.getD 0 (0, [])).2.getD 4 PV.u).toI) (((r5.2.getD 0 (0, [])).2.getD 5 PV.u).toI) (((r5.2.getD 0 (0, [])).2.getD 6 PV.u).toI) ([]) ([]) 1 ((r4.1.getD 0 PV.u).toI) ((r5.1.getD 0 PV.u).toI) 0 0 0 0 0)
  else rW f_q4 [t_q1] at_q47 (S_q47 (a2) (p0_8) (p0_1) (p0_2) (p0_3) (p0_4) (p0_5) (p0_6) (p0_7) ([]) ([]) 1 0 0 0 0 0 0 0))) := by rw [cW_fix]; generalize cW = C; generalize rW = R; kernel_rfl
theorem w_q47 (x1 : Int) (x2 : List (List PV)) (x3 : List UInt8) (x4 x5 : Int) (x6 x7 : Int) (x8 x9 : Int) (x10 x11 : List (List PV)) (x12 x13 : Int) (x14 x15 : Int) (x16 x17 : Int) (x18 x19 : Int) : rW f_q4 [t_q1] at_q47 (S_q47 x1 x2 x3 x4 x5 x6 x7 x8 x9 x10 x11 x12 x13 x14 x15 x16 x17 x18 x19) =
  (bif ((bitsOp Go.BinOp.and .i64 x1 (2 : Int)) != (0 : Int)) then (cW f_q20 [PV.u, PV.i x8] [(t_q1, [PV.s x3, PV.i x4, PV.i x5, PV.i x6, PV.i x7, PV.i x8, PV.i x9, PV.l x2])]).bind fun r6 =>
  rW f_q4 [t_q1] at_q48 (S_q48 x1 (((r6.2.getD 0 (0, [])).2.getD 7 PV.u).toL) (((r6.2.getD 0 (0, [])).2.getD 0 PV.u).toS) (((r6.2.getD 0 (0, [])).2.getD 1 PV.u).toI) (((r6.2.getD 0 (0, [])).2.getD 2 PV.u).toI) (((r6.2.getD 0 (0, [])).2.getD 3 PV.u).toI) (((r6.2.getD 0 (0, [])).2.getD 4 PV.u).toI) (((r6.2.getD 0 (0, [])).2.getD 5 PV.u).toI) (((r6.2.getD 0 (0, [])).2.getD 6 PV.u).toI) x10 x11 x12 x13 x14 x15 x16 x17 x18 x19 ([]) ([]) 2 0 0 0 0 ((r6.1.getD 0 PV.u).toI) ((-1 : Int)) ((-1 : Int)))
  else rW f_q4 [t_q1] at_q48 (S_q48 x1 x2 x3 x4 x5 x6 x7 x8 x9 x10 x11 x12 x13 x14 x15 x16 x17 x18 x19 ([]) ([]) 2 0 0 0 0 ((-1 : Int)) ((-1 : Int)) ((-1 : Int)))) := by rw [rW_fix]; generalize cW = C; generalize rW = R; kernel_rfl
theorem w_q48 (x1 : Int) (x2 : List (List PV)) (x3 : List UInt8) (x4 x5 : Int) (x6 x7 : Int) (x8 x9 : Int) (x10 x11 : List (List PV)) (x12 x13 : Int) (x14 x15 : Int) (x16 x17 : Int) (x18 x19 : Int) (x20 x21 : List (List PV)) (x22 x23 : Int) (x24 x25 : Int) (x26 x27 : Int) (x28 x29 : Int) : rW f_q4 [t_q1] at_q48 (S_q48 x1 x2 x3 x4 x5 x6 x7 x8 x9 x10 x11 x12 x13 x14 x15 x16 x17 x18 x19 x20 x21 x22 x23 x24 x25 x26 x27 x28 x29) =
  (bif ((bitsOp Go.BinOp.and .i64 x1 (4 : Int)) != (0 : Int)) then (cW f_q20 [PV.u, PV.i x8] [(t_q1, [PV.s x3, PV.i x4, PV.i x5, PV.i x6, PV.i x7, PV.i x8, PV.i x9, PV.l x2])]).bind fun r7 =>
  rW f_q4 [t_q1] at_q42 (S_q42 x1 (((r7.2.getD 0 (0, [])).2.getD 7 PV.u).toL) (((r7.2.getD 0 (0, [])).2.getD 0 PV.u).toS) (((r7.2.getD 0 (0, [])).2.getD 1 PV.u).toI) (((r7.2.getD 0 (0, [])).2.getD 2 PV.u).toI) (((r7.2.getD 0 (0, [])).2.getD 3 PV.u).toI) (((r7.2.getD 0 (0, [])).2.getD 4 PV.u).toI) (((r7.2.getD 0 (0, [])).2.getD 5 PV.u).toI) (((r7.2.getD 0 (0, [])).2.getD 6 PV.u).toI) x10 x11 x12 x13 x14 x15 x16 x17 x18 x19 x20 x21 x22 x23 x24 x25 x26 x27 ((r7.1.getD 0 PV.u).toI) x29)
  else rW f_q4 [t_q1] at_q42 (S_q42 x1 x2 x3 x4 x5 x6 x7 x8 x9 x10 x11 x12 x13 x14 x15 x16 x17 x18 x19 x20 x21 x22 x23 x24 x25 x26 x27 x28 x29)) := by rw [rW_fix]; generalize cW = C; generalize rW = R; kernel_rfl
theorem w_q42 (x1 : Int) (x2 : List (List PV)) (x3 : List UInt8) (x4 x5 : Int) (x6 x7 : Int) (x8 x9 : Int) (x10 x11 : List (List PV)) (x12 x13 : Int) (x14 x15 : Int) (x16 x17 : Int) (x18 x19 : Int) (x20 x21 : List (List PV)) (x22 x23 : Int) (x24 x25 : Int) (x26 x27 : Int) (x28 x29 : Int) : rW f_q4 [t_q1] at_q42 (S_q42 x1 x2 x3 x4 x5 x6 x7 x8 x9 x10 x11 x12 x13 x14 x15 x16 x17 x18 x19 x20 x21 x22 x23 x24 x25 x26 x27 x28 x29) =
  (bif ((bitsOp Go.BinOp.and .i64 x1 (8 : Int)) != (0 : Int)) then (cW f_q20 [PV.u, PV.i x9] [(t_q1, [PV.s x3, PV.i x4, PV.i x5, PV.i x6, PV.i x7, PV.i x8, PV.i x9, PV.l x2])]).bind fun r8 =>
  rW f_q4 [t_q1] at_q43 (S_q43 x1 (((r8.2.getD 0 (0, [])).2.getD 7 PV.u).toL) (((r8.2.getD 0 (0, [])).2.getD 0 PV.u).toS) (((r8.2.getD 0 (0, [])).2.getD 1 PV.u).toI) (((r8.2.getD 0 (0, [])).2.getD 2 PV.u).toI) (((r8.2.getD 0 (0, [])).2.getD 3 PV.u).toI) (((r8.2.getD 0 (0, [])).2.getD 4 PV.u).toI) (((r8.2.getD 0 (0, [])).2.getD 5 PV.u).toI) (((r8.2.getD 0 (0, [])).2.getD 6 PV.u).toI) x10 x11 x12 x13 x14 x15 x16 x17 x18 x19 x20 x21 x22 x23 x24 x25 x26 x27 x28 ((r8.1.getD 0 PV.u).toI))
  else rW f_q4 [t_q1] at_q43 (S_q43 x1 x2 x3 x4 x5 x6 x7 x8 x9 x10 x11 x12 x13 x14 x15 x16 x17 x18 x19 x20 x21 x22 x23 x24 x25 x26 x27 x28 x29)) := by rw [rW_fix]; generalize cW = C; generalize rW = R; kernel_rfl
theorem w_q43 (x1 : Int) (x2 : List (List PV)) (x3 : List UInt8) (x4 x5 : Int) (x6 x7 : Int) (x8 x9 : Int) (x10 x11 : List (List PV)) (x12 x13 : Int) (x14 x15 : Int) (x16 x17 : Int) (x18 x19 : Int) (x20 x21 : List (List PV)) (x22 x23 : Int) (x24 x25 : Int) (x26 x27 : Int) (x28 x29 : Int) : rW f_q4 [t_q1] at_q43 (S_q43 x1 x2 x3 x4 x5 x6 x7 x8 x9 x10 x11 x12 x13 x14 x15 x16 x17 x18 x19 x20 x21 x22 x23 x24 x25 x26 x27 x28 x29) =
  (bif ((bitsOp Go.BinOp.and .i64 x1 (16 : Int)) != (0 : Int)) then (cW f_q155 [PV.u] [(t_q1, [PV.s x3, PV.i x4, PV.i x5, PV.i x6, PV.i x7, PV.i x8, PV.i x9, PV.l x2])]).bind fun r9 =>
  rW f_q4 [t_q1] at_q44 (S_q44 x1 (((r9.2.getD 0 (0, [])).2.getD 7 PV.u).toL) (((r9.2.getD 0 (0, [])).2.getD 0 PV.u).toS) (((r9.2.getD 0 (0, [])).2.getD 1 PV.u).toI) (((r9.2.getD 0 (0, [])).2.getD 2 PV.u).toI) (((r9.2.getD 0 (0, [])).2.getD 3 PV.u).toI) (((r9.2.getD 0 (0, [])).2.getD 4 PV.u).toI) (((r9.2.getD 0 (0, [])).2.getD 5 PV.u).toI) (((r9.2.getD 0 (0, [])).2.getD 6 PV.u).toI) x10 x11 x12 x13 x14 x15 x16 x17 x18 x19 x20 x21 x22 x23 x24 x25 x26 x27 x28 x29)
  else rW f_q4 [t_q1] at_q44 (S_q44 x1 x2 x3 x4 x5 x6 x7 x8 x9 x10 x11 x12 x13 x14 x15 x16 x17 x18 x19 x20 x21 x22 x23 x24 x25 x26 x27 x28 x29)) := by rw [rW_fix]; generalize cW = C; generalize rW = R; kernel_rfl
theorem w_q44 (x1 : Int) (x2 : List (List PV)) (x3 : List UInt8) (x4 x5 : Int) (x6 x7 : Int) (x8 x9 : Int) (x10 x11 : List (List PV)) (x12 x13 : Int) (x14 x15 : Int) (x16 x17 : Int) (x18 x19 : Int) (x20 x21 : List (List PV)) (x22 x23 : Int) (x24 x25 : Int) (x26 x27 : Int) (x28 x29 : Int) : rW f_q4 [t_q1] at_q44 (S_q44 x1 x2 x3 x4 x5 x6 x7 x8 x9 x10 x11 x12 x13 x14 x15 x16 x17 x18 x19 x20 x21 x22 x23 x24 x25 x26 x27 x28 x29) =
  ((bif (x5 == (0 : Int)) then (cW f_q121 [(PV.i (-1048576 : Int)), PV.i 1048576, (PV.l (List.set (List.set [[PV.i 0], [PV.i 0]] 0 [PV.i x13]) 1 [PV.i x14]))] []).bind fun r10 =>
   (bif (!(r10.1.getD 0 PV.u).toB) then some [PV.b true]
   else (bif (decide ((bif (decide (x28 > x27)) then x28 else x27) > x6)) then some [PV.b true]
   else some [(PV.b (decide (x29 > x7)))]))
   else some [PV.b false])).bind fun r11 =>
  (bif ((r11.getD 0 PV.u)).toB then (cW f_q119 [PV.u, PV.i 3] [(t_q1, [PV.s x3, PV.i x4, PV.i x5, PV.i x6, PV.i x7, PV.i x8, PV.i x9, PV.l x2])]).bind fun r12 =>
  rW f_q4 [t_q1] at_q45 (S_q45 x1 (((r12.2.getD 0 (0, [])).2.getD 7 PV.u).toL) (((r12.2.getD 0 (0, [])).2.getD 0 PV.u).toS) (((r12.2.getD 0 (0, [])).2.getD 1 PV.u).toI) (((r12.2.getD 0 (0, [])).2.getD 2 PV.u).toI) (((r12.2.getD 0 (0, [])).2.getD 3 PV.u).toI) (((r12.2.getD 0 (0, [])).2.getD 4 PV.u).toI) (((r12.2.getD 0 (0, [])).2.getD 5 PV.u).toI) (((r12.2.getD 0 (0, [])).2.getD 6 PV.u).toI) x10 x11 x12 x13 x14 x15 x16 x17 x18 x19 x20 x21 x22 x23 x24 x25 x26 x27 x28 x29)
  else rW f_q4 [t_q1] at_q45 (S_q45 x1 x2 x3 x4 x5 x6 x7 x8 x9 x10 x11 x12 x13 x14 x15 x16 x17 x18 x19 x20 x21 x22 x23 x24 x25 x26 x27 x28 x29)) := by rw [rW_fix]; generalize cW = C; generalize rW = R; kernel_rfl
theorem w_q45 (x1 : Int) (x2 : List (List PV)) (x3 : List UInt8) (x4 x5 : Int) (x6 x7 : Int) (x8 x9 : Int) (x10 x11 : List (List PV)) (x12 x13 : Int) (x14 x15 : Int) (x16 x17 : Int) (x18 x19 : Int) (x20 x21 : List (List PV)) (x22 x23 : Int) (x24 x25 : Int) (x26 x27 : Int) (x28 x29 : Int) : rW f_q4 [t_q1] at_q45 (S_q45 x1 x2 x3 x4 x5 x6 x7 x8 x9 x10 x11 x12 x13 x14 x15 x16 x17 x18 x19 x20 x21 x22 x23 x24 x25 x26 x27 x28 x29) =
  (bif ((bitsOp Go.BinOp.and .i64 x1 (1 : Int)) != (0 : Int)) then (cW f_q62 [PV.u, PV.i x12, PV.i x13, PV.i x14, PV.i x15, PV.i x16, PV.i x17, PV.i x18, PV.i x19, PV.l x10, PV.l x11] [(t_q1, [PV.s x3, PV.i x4, PV.i x5, PV.i x6, PV.i x7, PV.i x8, PV.i x9, PV.l x2])]).bind fun r13 =>
  rW f_q4 [t_q1] at_q46 (S_q46 x1 (((r13.2.getD 0 (0, [])).2.getD 7 PV.u).toL) (((r13.2.getD 0 (0, [])).2.getD 0 PV.u).toS) (((r13.2.getD 0 (0, [])).2.getD 1 PV.u).toI) (((r13.2.getD 0 (0, [])).2.getD 2 PV.u).toI) (((r13.2.getD 0 (0, [])).2.getD 3 PV.u).toI) (((r13.2.getD 0 (0, [])).2.getD 4 PV.u).toI) (((r13.2.getD 0 (0, [])).2.getD 5 PV.u).toI) (((r13.2.getD 0 (0, [])).2.getD 6 PV.u).toI) x20 x21 x22 x23 x24 x25 x26 x27 x28 x29)
  else rW f_q4 [t_q1] at_q46 (S_q46 x1 x2 x3 x4 x5 x6 x7 x8 x9 x20 x21 x22 x23 x24 x25 x26 x27 x28 x29)) := by rw [rW_fix]; generalize cW = C; generalize rW = R; kernel_rfl
theorem w_q46 (x1 : Int) (x2 : List (List PV)) (x3 : List UInt8) (x4 x5 : Int) (x6 x7 : Int) (x8 x9 : Int) (x10 x11 : List (List PV)) (x12 x13 : Int) (x14 x15 : Int) (x16 x17 : Int) (x18 x19 : Int) : rW f_q4 [t_q1] at_q46 (S_q46 x1 x2 x3 x4 x5 x6 x7 x8 x9 x10 x11 x12 x13 x14 x15 x16 x17 x18 x19) =
  (bif ((bitsOp Go.BinOp.and .i64 x1 (14 : Int)) != (0 : Int)) then (cW f_q62 [PV.u, PV.i x12, PV.i x13, PV.i x14, PV.i x15, PV.i x16, PV.i x17, PV.i x18, PV.i x19, PV.l x10, PV.l x11] [(t_q1, [PV.s x3, PV.i x4, PV.i x5, PV.i x6, PV.i x7, PV.i x8, PV.i x9, PV.l x2])]).bind fun r14 =>
  some ([], [(t_q1, [PV.s ((r14.2.getD 0 (0, [])).2.getD 0 PV.u).toS, PV.i ((r14.2.getD 0 (0, [])).2.getD 1 PV.u).toI, PV.i ((r14.2.getD 0 (0, [])).2.getD 2 PV.u).toI, PV.i ((r14.2.getD 0 (0, [])).2.getD 3 PV.u).toI, PV.i ((r14.2.getD 0 (0, [])).2.getD 4 PV.u).toI, PV.i ((r14.2.getD 0 (0, [])).2.getD 5 PV.u).toI, PV.i ((r14.2.getD 0 (0, [])).2.getD 6 PV.u).toI, PV.l ((r14.2.getD 0 (0, [])).2.getD 7 PV.u).toL])])
  else some ([], [(t_q1, [PV.s x3, PV.i x4, PV.i x5, PV.i x6, PV.i x7, PV.i x8, PV.i x9, PV.l x2])])) := by rw [rW_fix]; generalize cW = C; generalize rW = R; kernel_rfl
noncomputable def S_q38 (x1 : Int) (x2 : List (List PV)) (x3 x4 : Int) (x5 : List UInt8) (x6 x7 x8 : Int) : St := mkSt [(0, .v (.ptr (.p 0) 0)), (1, .v (.int .i64 x1)), (8, .v (.sl 3 x2)), (9, .v (.int .i64 x3)), (10, .v (.int .i64 x4))] [((.p 0), .cells 153 [.str x5, .int .i64 x6, .int .i64 x7, .int .i64 x8])] 1000 28
noncomputable def at_q38 : List Item := (atLoop Tryz.f134 0)
theorem w_q40 (a2 : Int) (a3 : List (List PV)) (p0_1 : List UInt8) (p0_2 p0_3 p0_4 : Int) : cW f_q40 [.u, .i a2, .l a3] [(t_q5, [.s p0_1, .i p0_2, .i p0_3, .i p0_4])] =
  rW f_q40 [t_q5] at_q38 (S_q38 (a2) (a3) (((a3.length : Nat) : Int)) 0 (p0_1) (p0_2) (p0_3) (p0_4)) := by rw [cW_fix]; generalize cW = C; generalize rW = R; kernel_rfl
theorem w_q38 (x1 : Int) (x2 : List (List PV)) (x3 x4 : Int) (x5 : List UInt8) (x6 x7 x8 : Int) : rW f_q40 [t_q5] at_q38 (S_q38 x1 x2 x3 x4 x5 x6 x7 x8) =
  (bif (decide (x4 < x3)) then (bif (inB x4 (List.length x2)) then (cW f_q201 [PV.s x5, PV.i x6, PV.i ((elemAt x2 x4).getD 0 PV.u).toI, PV.i x1] []).bind fun r1 =>
  rW f_q40 [t_q5] at_q38 (S_q38 x1 x2 x3 ((IntKind.wrap .i64 (x4 + (1 : Int)))) ((r1.1.getD 0 PV.u).toS) ((r1.1.getD 1 PV.u).toI) x7 x8)
  else none)
  else some ([], [(t_q5, [PV.s x5, PV.i x6, PV.i x7, PV.i x8])])) := by rw [rW_fix]; generalize cW = C; generalize rW = R; kernel_rfl
theorem w_q175 (a1 : List (List PV)) (p0_1 p1_1 : Int) : cW f_q175 [.l a1, (.f f_q185 2)] [(t_int, [.i p0_1]), (t_int, [.i p1_1])] =
  (cW f_q116 [PV.l a1, (PV.f f_q185 2)] [(t_int, [PV.i p0_1]), (t_int, [PV.i p1_1])]).bind fun r1 =>
  some ([(PV.b (decide ((r1.1.getD 0 PV.u).toI ≥ (0 : Int))))], [(t_int, [PV.i ((r1.2.getD 0 (0, [])).2.getD 0 PV.u).toI]), (t_int, [(PV.i (((((r1).2.getD 1 (0, []))).2.getD 0 PV.u)).toI)])]) := by rw [cW_fix]; generalize cW = C; generalize rW = R; kernel_rfl
theorem w_q155 (p0_1 : List UInt8) (p0_2 p0_3 : Int) (p0_4 p0_5 : Int) (p0_6 p0_7 : Int) (p0_8 : List (List PV)) : cW f_q155 [.u] [(t_q1, [.s p0_1, .i p0_2, .i p0_3, .i p0_4, .i p0_5, .i p0_6, .i p0_7, .l p0_8])] =
  (bif (p0_3 != (0 : Int)) then some ([], [(t_q1, [PV.s p0_1, PV.i p0_2, PV.i p0_3, PV.i p0_4, PV.i p0_5, PV.i p0_6, PV.i p0_7, PV.l p0_8])])
  else (cW f_q172 [PV.s p0_1, PV.i p0_2] []).bind fun r1 =>
  (cW f_q20 [PV.u, PV.i 4] [(t_q1, [PV.s (r1.1.getD 2 PV.u).toS, PV.i (r1.1.getD 3 PV.u).toI, PV.i (r1.1.getD 4 PV.u).toI, (PV.i (((List.length (r1.1.getD 0 PV.u).toL) : Nat) : Int)), (PV.i (((List.length (r1.1.getD 1 PV.u).toL) : Nat) : Int)), PV.i p0_6, PV.i p0_7, PV.l p0_8])]).bind fun r2 =>
  (cW f_q20 [PV.u, PV.i 4] [(t_q1, [PV.s ((r2.2.getD 0 (0, [])).2.getD 0 PV.u).toS, PV.i ((r2.2.getD 0 (0, [])).2.getD 1 PV.u).toI, PV.i ((r2.2.getD 0 (0, [])).2.getD 2 PV.u).toI, PV.i ((r2.2.getD 0 (0, [])).2.getD 3 PV.u).toI, PV.i ((r2.2.getD 0 (0, [])).2.getD 4 PV.u).toI, PV.i ((r2.2.getD 0 (0, [])).2.getD 5 PV.u).toI, PV.i ((r2.2.getD 0 (0, [])).2.getD 6 PV.u).toI, PV.l ((r2.2.getD 0 (0, [])).2.getD 7 PV.u).toL])]).bind fun r3 =>
  (cW f_q62 [PV.u, PV.i 3, PV.i 0, PV.i 0, PV.i 0, PV.i 0, PV.i 0, PV.i 0, PV.i 0, PV.l (r1.1.getD 0 PV.u).toL, PV.l (r1.1.getD 1 PV.u).toL] [(t_q1, [PV.s ((r3.2.getD 0 (0, [])).2.getD 0 PV.u).toS, PV.i ((r3.2.getD 0 (0, [])).2.getD 1 PV.u).toI, PV.i ((r3.2.getD 0 (0, [])).2.getD 2 PV.u).toI, PV.i ((r3.2.getD 0 (0, [])).2.getD 3 PV.u).toI, PV.i ((r3.2.getD 0 (0, [])).2.getD 4 PV.u).toI, PV.i (r2.1.getD 0 PV.u).toI, PV.i (r3.1.getD 0 PV.u).toI, PV.l ((r3.2.getD 0 (0, [])).2.getD 7 PV.u).toL])]).bind fun r4 =>
  some ([], [(t_q1, [PV.s ((r4.2.getD 0 (0, [])).2.getD 0 PV.u).toS, PV.i ((r4.2.getD 0 (0, [])).2.getD 1 PV.u).toI, PV.i ((r4.2.getD 0 (0, [])).2.getD 2 PV.u).toI, PV.i ((r4.2.getD 0 (0, [])).2.getD 3 PV.u).toI, PV.i ((r4.2.getD 0 (0, [])).2.getD 4 PV.u).toI, PV.i ((r4.2.getD 0 (0, [])).2.getD 5 PV.u).toI, PV.i ((r4.2.getD 0 (0, [])).2.getD 6 PV.u).toI, PV.l ((r4.2.getD 0 (0, [])).2.getD 7 PV.u).toL])])) := by rw [cW_fix]; generalize cW = C; generalize rW = R; kernel_rfl
end Go.AI
