/- Equations of the program's functions, on. -/
import Derived.Test.YtkclfiliefadlaaGreatU
import Derived.KernelRfl
set_option linter.unusedVariables false
set_option maxRecDepth 100000
namespace Go.AI
open Go Go.Proofs
/- celluloid/celluloidref08.Color -/
noncomputable def S_q83 (x1 x2 : List (List PV)) (x3 : Int) : St := mkSt [(0, .v (.sl 70 x1)), (1, .v (.sl 74 x2)), (5, .v (.int .i64 x3)), (23, .any), (24, .any), (25, .any)] [] 1000 27
noncomputable def at_q83 : List Item := (atLoop Tryz.f31 0)
theorem w_q113 (a1 a2 : List (List PV)) : cW f_q113 [.l a1, .l a2] [] =
  rW f_q113 [] at_q83 (S_q83 (a1) (a2) 0) := by rw [cW_fix]; generalize cW = C; generalize rW = R; kernel_rfl
theorem w_q83 (x1 x2 : List (List PV)) (x3 : Int) : rW f_q113 [] at_q83 (S_q83 x1 x2 x3) =
  (bif (decide (x3 < ((x1.length : Nat) : Int))) then (bif (inB x3 (List.length x1)) then (bif (decide ((((List.length ((elemAt x1 x3).getD 12 PV.u).toL) : Nat) : Int) > (20 : Int))) then some ([PV.b false], [])
  else rW f_q113 [] at_q83 (S_q83 x1 x2 ((IntKind.wrap .i64 (x3 + (1 : Int))))))
  else none)
  else ((bif (decide (((x1.length : Nat) : Int) < (30 : Int))) then some [(PV.b (decide (((x2.length : Nat) : Int) < (30 : Int))))]
   else some [PV.b false])).bind fun r1 =>
  some ([PV.b ((r1.getD 0 PV.u)).toB], [])) := by rw [rW_fix]; generalize cW = C; generalize rW = R; kernel_rfl
theorem w_q188 (a1 a2 : Int) (a3 a4 a5 : Int) : cW f_q188 [.i a1, .i a2, .i a3, .i a4, .i a5] [] =
  ((bif (decide (a1 ≥ (0 : Int))) then (bif (decide (a1 < (65536 : Int))) then (cW f_q101 [PV.i a2, PV.i a3, PV.i a4, PV.i a5] []).bind fun r1 =>
   some [PV.b (r1.1.getD 0 PV.u).toB]
   else some [PV.b false])
   else some [PV.b false])).bind fun r2 =>
  some ([PV.b ((r2.getD 0 PV.u)).toB], []) := by rw [cW_fix]; generalize cW = C; generalize rW = R; kernel_rfl
theorem w_q173 (a1 a2 : Int) (a3 a4 : Int) (a5 a6 : Int) (a7 a8 : Int) (a9 a10 : Int) (a11 a12 : Int) (a13 : List (List PV)) (a14 : Int) : cW f_q173 [.i a1, .i a2, .i a3, .i a4, .i a5, .i a6, .i a7, .i a8, .i a9, .i a10, .i a11, .i a12, .l a13, .i a14] [] =
  (cW f_q167 [PV.i a1, PV.i a2, PV.i a3, PV.i a4, PV.i a5, PV.i a6, PV.i a7, PV.i a8, PV.i a9, PV.i a10, PV.i a11, PV.i a12, PV.l a13, PV.i a14] []).bind fun r1 =>
  some ([(PV.b (!(r1.1.getD 0 PV.u).toB))], []) := by rw [cW_fix]; generalize cW = C; generalize rW = R; kernel_rfl
theorem w_q199 (a1 a2 : Int) (a3 a4 a5 : Int) : cW f_q199 [.i a1, .i a2, .i a3, .i a4, .i a5] [] =
  ((bif (decide (a1 ≥ (0 : Int))) then (bif (decide (a1 < (65536 : Int))) then (cW f_q166 [PV.i a2, PV.i a3, PV.i a4, PV.i a5] []).bind fun r1 =>
   some [PV.b (r1.1.getD 0 PV.u).toB]
   else some [PV.b false])
   else some [PV.b false])).bind fun r2 =>
  some ([PV.b ((r2.getD 0 PV.u)).toB], []) := by rw [cW_fix]; generalize cW = C; generalize rW = R; kernel_rfl
/- celluloid/celluloidref08.fill -/
theorem w_q202 (a1 : Int) : cW f_q202 [.i a1] [] =
  ((bif (a1 == (16 : Int)) then some [PV.b true]
   else some [(PV.b (a1 == (18 : Int)))])).bind fun r1 =>
  some ([PV.b ((r1.getD 0 PV.u)).toB], []) := by rw [cW_fix]; generalize cW = C; generalize rW = R; kernel_rfl
noncomputable def S_q158 (x1 : List (List PV)) (x2 x3 : Int) (x4 : List UInt8) (x5 : Int) (x6 : List UInt8) (x7 : Int) : St := mkSt [(2, .v (.ptr (.n 1 0 0) 0)), (4, .v (.ptr (.n 1 2 0) 0)), (28, .v (.sl 107 x1)), (29, .v (.int .i64 x2)), (30, .v (.int .i64 x3))] [((.n 1 0 0), .cells 46 [.str x4, .int .i64 x5]), ((.n 1 2 0), .cells 46 [.str x6, .int .i64 x7])] 1000 75
noncomputable def at_q158 : List Item := (atLoop Tryz.f171 1)
theorem w_q204 (a1 : List UInt8) (a2 a3 : Int) (a4 a5 : Int) (a6 a7 : Int) (a8 a9 : Int) (a10 a11 : Int) (a12 a13 a14 : Int) (a15 : List (List PV)) (a16 : Int) : cW f_q204 [.s a1, .i a2, .i a3, .i a4, .i a5, .i a6, .i a7, .i a8, .i a9, .i a10, .i a11, .i a12, .i a13, .i a14, .l a15, .i a16] [] =
  (cW f_q187 [PV.s a1, PV.i a2, PV.i a3] []).bind fun r1 =>
  (bif (a3 == (0 : Int)) then (cW f_q135 [PV.s (r1.1.getD 0 PV.u).toS, PV.i (r1.1.getD 1 PV.u).toI, PV.i a4, PV.i a5, PV.i a6, PV.i a7] []).bind fun r2 =>
  some ([PV.s (r2.1.getD 0 PV.u).toS, PV.i (r2.1.getD 1 PV.u).toI], [])
  else (cW f_q189 [PV.i a3] []).bind fun r3 =>
  (bif (r3.1.getD 0 PV.u).toB then (cW f_q102 [PV.s (r1.1.getD 0 PV.u).toS, PV.i (r1.1.getD 1 PV.u).toI, PV.i a16, PV.i 2] []).bind fun r4 =>
  (cW f_q145 [PV.s (r4.1.getD 0 PV.u).toS, PV.i (r4.1.getD 1 PV.u).toI, PV.i a8, PV.i a9, PV.i a10, PV.i a11, PV.i a12, PV.i a13] []).bind fun r5 =>
  some ([PV.s (r5.1.getD 0 PV.u).toS, PV.i (r5.1.getD 1 PV.u).toI], [])
  else (cW f_q145 [PV.s (r1.1.getD 0 PV.u).toS, PV.i (r1.1.getD 1 PV.u).toI, PV.i a8, PV.i a9, PV.i a10, PV.i a11, PV.i a12, PV.i a13] []).bind fun r6 =>
  (cW f_q187 [PV.s (r6.1.getD 0 PV.u).toS, PV.i (r6.1.getD 1 PV.u).toI, (PV.i (IntKind.wrap .i64 ((IntKind.wrap .i64 (a14 * (64 : Int))) + ((a15.length : Nat) : Int))))] []).bind fun r7 =>
  rW f_q204 [] at_q158 (S_q158 (a15) (((a15.length : Nat) : Int)) 0 ((r7.1.getD 0 PV.u).toS) ((r7.1.getD 1 PV.u).toI) ([]) 0))) := by rw [cW_fix]; generalize cW = C; generalize rW = R; kernel_rfl
theorem w_q158 (x1 : List (List PV)) (x2 x3 : Int) (x4 : List UInt8) (x5 : Int) (x6 : List UInt8) (x7 : Int) : rW f_q204 [] at_q158 (S_q158 x1 x2 x3 x4 x5 x6 x7) =
  (bif (decide (x3 < x2)) then (bif (inB x3 (List.length x1)) then (cW f_q187 [PV.s x4, PV.i x5, PV.i ((elemAt x1 x3).getD 0 PV.u).toI] []).bind fun r8 =>
  (cW f_q135 [PV.s (r8.1.getD 0 PV.u).toS, PV.i (r8.1.getD 1 PV.u).toI, PV.i ((elemAt x1 x3).getD 1 PV.u).toI, PV.i ((elemAt x1 x3).getD 2 PV.u).toI, PV.i ((elemAt x1 x3).getD 3 PV.u).toI, PV.i ((elemAt x1 x3).getD 4 PV.u).toI] []).bind fun r9 =>
  rW f_q204 [] at_q158 (S_q158 x1 x2 ((IntKind.wrap .i64 (x3 + (1 : Int)))) ((r9.1.getD 0 PV.u).toS) ((r9.1.getD 1 PV.u).toI) x6 x7)
  else none)
  else some ([PV.s x4, PV.i x5], [])) := by rw [rW_fix]; generalize cW = C; generalize rW = R; kernel_rfl
noncomputable def S_q149 (x1 x2 : Int) (x3 x4 : List (List PV)) (x5 : List UInt8) (x6 : Int) (x7 : List UInt8) (x8 x9 : Int) : St := mkSt [(4, .v (.ptr (.n 1 3 0) 0)), (6, .v (.ptr (.n 2 2 0) 0)), (7, .v (.wr (.w 7))), (8, .v (.wr (.w 8))), (14, .v (.int .i64 x1)), (15, .v (.int .i64 x2))] [((.w 7), .row 70 x3), ((.w 8), .row 74 x4), ((.n 1 3 0), .cells 23 [.str x5, .int .i64 x6]), ((.n 2 2 0), .cells 234 [.str x7, .int .i64 x8, .int .i64 x9])] 1000 54
noncomputable def at_q149 : List Item := (atLoop Tryz.f179 0)
noncomputable def S_q150 (x1 x2 : Int) (x3 x4 : List (List PV)) (x5 : List UInt8) (x6 : Int) (x7 : List UInt8) (x8 x9 : Int) : St := mkSt [(4, .v (.ptr (.n 1 3 0) 0)), (6, .v (.ptr (.n 2 2 0) 0)), (7, .v (.wr (.w 7))), (8, .v (.wr (.w 8))), (24, .v (.int .i64 x1)), (25, .v (.int .i64 x2))] [((.w 7), .row 70 x3), ((.w 8), .row 74 x4), ((.n 1 3 0), .cells 23 [.str x5, .int .i64 x6]), ((.n 2 2 0), .cells 234 [.str x7, .int .i64 x8, .int .i64 x9])] 2000 54
noncomputable def at_q150 : List Item := (atLoop Tryz.f179 2)
theorem w_q172 (a1 : List UInt8) (a2 : Int) : cW f_q172 [.s a1, .i a2] [] =
  (cW f_q138 [PV.u] [(t_q12, [PV.s a1, PV.i a2, PV.i 0])]).bind fun r1 =>
  rW f_q172 [] at_q149 (S_q149 ((r1.1.getD 0 PV.u).toI) 0 ([]) ([]) ([]) 0 (((r1.2.getD 0 (0, [])).2.getD 0 PV.u).toS) (((r1.2.getD 0 (0, [])).2.getD 1 PV.u).toI) (((r1.2.getD 0 (0, [])).2.getD 2 PV.u).toI)) := by rw [cW_fix]; generalize cW = C; generalize rW = R; kernel_rfl
theorem w_q149 (x1 x2 : Int) (x3 x4 : List (List PV)) (x5 : List UInt8) (x6 : Int) (x7 : List UInt8) (x8 x9 : Int) : rW f_q172 [] at_q149 (S_q149 x1 x2 x3 x4 x5 x6 x7 x8 x9) =
  (bif (decide (x2 < x1)) then (cW f_q63 [PV.u] [(t_q12, [PV.s x7, PV.i x8, PV.i x9])]).bind fun r2 =>
  (bif (decide (((((List.length x3) + (List.length (List.set [[PV.i 0, PV.i 0, PV.i 0, PV.i 0, PV.i 0, PV.i 0, PV.i 0, PV.i 0, PV.i 0, PV.i 0, PV.i 0, PV.i 0, (PV.l []), PV.i 0]] 0 [PV.i (r2.1.getD 0 PV.u).toI, PV.i (r2.1.getD 1 PV.u).toI, PV.i (r2.1.getD 2 PV.u).toI, PV.i (r2.1.getD 3 PV.u).toI, PV.i (r2.1.getD 4 PV.u).toI, PV.i (r2.1.getD 5 PV.u).toI, PV.i (r2.1.getD 6 PV.u).toI, PV.i (r2.1.getD 7 PV.u).toI, PV.i (r2.1.getD 8 PV.u).toI, PV.i (r2.1.getD 9 PV.u).toI, PV.i (r2.1.getD 10 PV.u).toI, PV.i (r2.1.getD 11 PV.u).toI, PV.l (r2.1.getD 12 PV.u).toL, PV.i (r2.1.getD 13 PV.u).toI]))) + 1000) * 129) ≤ 1099511627776)) then rW f_q172 [] at_q149 (S_q149 x1 ((IntKind.wrap .i64 (x2 + (1 : Int)))) ((x3 ++ (List.set [[PV.i 0, PV.i 0, PV.i 0, PV.i 0, PV.i 0, PV.i 0, PV.i 0, PV.i 0, PV.i 0, PV.i 0, PV.i 0, PV.i 0, (PV.l []), PV.i 0]] 0 [PV.i (r2.1.getD 0 PV.u).toI, PV.i (r2.1.getD 1 PV.u).toI, PV.i (r2.1.getD 2 PV.u).toI, PV.i (r2.1.getD 3 PV.u).toI, PV.i (r2.1.getD 4 PV.u).toI, PV.i (r2.1.getD 5 PV.u).toI, PV.i (r2.1.getD 6 PV.u).toI, PV.i (r2.1.getD 7 PV.u).toI, PV.i (r2.1.getD 8 PV.u).toI, PV.i (r2.1.getD 9 PV.u).toI, PV.i (r2.1.getD 10 PV.u).toI, PV.i (r2.1.getD 11 PV.u).toI, PV.l (r2.1.getD 12 PV.u).toL, PV.i (r2.1.getD 13 PV.u).toI]))) x4 x5 x6 (((r2.2.getD 0 (0, [])).2.getD 0 PV.u).toS) (((r2.2.getD 0 (0, [])).2.getD 1 PV.u).toI) (((r2.2.getD 0 (0, [])).2.getD 2 PV.u).toI))
  else none)
  else (cW f_q138 [PV.u] [(t_q12, [PV.s x7, PV.i x8, PV.i x9])]).bind fun r3 =>
  rW f_q172 [] at_q150 (S_q150 ((r3.1.getD 0 PV.u).toI) 0 x3 x4 x5 x6 (((r3.2.getD 0 (0, [])).2.getD 0 PV.u).toS) (((r3.2.getD 0 (0, [])).2.getD 1 PV.u).toI) (((r3.2.getD 0 (0, [])).2.getD 2 PV.u).toI))) := by rw [rW_fix]; generalize cW = C; generalize rW = R; kernel_rfl
theorem w_q150 (x1 x2 : Int) (x3 x4 : List (List PV)) (x5 : List UInt8) (x6 : Int) (x7 : List UInt8) (x8 x9 : Int) : rW f_q172 [] at_q150 (S_q150 x1 x2 x3 x4 x5 x6 x7 x8 x9) =
  (bif (decide (x2 < x1)) then (cW f_q68 [PV.u, PV.i 2] [(t_q12, [PV.s x7, PV.i x8, PV.i x9])]).bind fun r4 =>
  (cW f_q100 [PV.u] [(t_q12, [PV.s ((r4.2.getD 0 (0, [])).2.getD 0 PV.u).toS, PV.i ((r4.2.getD 0 (0, [])).2.getD 1 PV.u).toI, PV.i ((r4.2.getD 0 (0, [])).2.getD 2 PV.u).toI])]).bind fun r5 =>
  (bif (decide (((((List.length x4) + (List.length (List.set [[PV.i 0, PV.i 0, PV.i 0, PV.i 0, PV.i 0]] 0 [PV.i (r4.1.getD 0 PV.u).toI, PV.i (r5.1.getD 0 PV.u).toI, PV.i (r5.1.getD 1 PV.u).toI, PV.i (r5.1.getD 2 PV.u).toI, PV.i (r5.1.getD 3 PV.u).toI]))) + 1000) * 41) ≤ 1099511627776)) then rW f_q172 [] at_q150 (S_q150 x1 ((IntKind.wrap .i64 (x2 + (1 : Int)))) x3 ((x4 ++ (List.set [[PV.i 0, PV.i 0, PV.i 0, PV.i 0, PV.i 0]] 0 [PV.i (r4.1.getD 0 PV.u).toI, PV.i (r5.1.getD 0 PV.u).toI, PV.i (r5.1.getD 1 PV.u).toI, PV.i (r5.1.getD 2 PV.u).toI, PV.i (r5.1.getD 3 PV.u).toI]))) x5 x6 (((r5.2.getD 0 (0, [])).2.getD 0 PV.u).toS) (((r5.2.getD 0 (0, [])).2.getD 1 PV.u).toI) (((r5.2.getD 0 (0, [])).2.getD 2 PV.u).toI))
  else none)
  else (bif (x9 != (0 : Int)) then some ([(PV.l []), (PV.l []), (PV.s []), PV.i 0, PV.i x9], [])
  else some ([PV.l x3, PV.l x4, PV.s x7, PV.i x8, PV.i 0], []))) := by rw [rW_fix]; generalize cW = C; generalize rW = R; kernel_rfl
noncomputable def S_q23 (x1 x2 x3 : Int) (x4 : List UInt8) (x5 x6 : Int) (x7 : List (List PV)) (x8 x9 : Int) (x10 x11 : Int) (x12 x13 : Int) (x14 x15 : Int) (x16 x17 : Int) (x18 x19 x20 : Int) (x21 : List (List PV)) (x22 x23 : Int) (x24 x25 : Int) (x26 x27 : Int) (x28 x29 : Int) (x30 x31 : Int) (x32 x33 x34 : Int) : St := mkSt [(0, .v (.ptr (.p 0) 0)), (2, .v (.ptr (.n 1 0 0) 0)), (3, .v (.ptr (.n 2 3 0) 0)), (5, .v (.int .i64 x1)), (69, .v (.int .i64 x2)), (70, .v (.int .i64 x3)), (81, .any), (82, .any), (83, .any), (84, .any)] [((.p 0), .cells 234 [.str x4, .int .i64 x5, .int .i64 x6]), ((.c (.n 1 0 0) 12), .row 107 x7), ((.n 1 0 0), .cells 70 [.int .i64 x8, .int .i64 x9, .int .i64 x10, .int .i64 x11, .int .i64 x12, .int .i64 x13, .int .i64 x14, .int .i64 x15, .int .i64 x16, .int .i64 x17, .int .i64 x18, .int .i64 x19, .wr (.c (.n 1 0 0) 12), .int .i64 x20]), ((.c (.n 2 3 0) 12), .row 107 x21), ((.n 2 3 0), .cells 70 [.int .i64 x22, .int .i64 x23, .int .i64 x24, .int .i64 x25, .int .i64 x26, .int .i64 x27, .int .i64 x28, .int .i64 x29, .int .i64 x30, .int .i64 x31, .int .i64 x32, .int .i64 x33, .wr (.c (.n 2 3 0) 12), .int .i64 x34])] 1000 101
noncomputable def at_q23 : List Item := (atLoop Tryz.f183 1)
theorem w_q63 (p0_1 : List UInt8) (p0_2 p0_3 : Int) : cW f_q63 [.u] [(t_q12, [.s p0_1, .i p0_2, .i p0_3])] =
  (cW f_q68 [PV.u, PV.i 1] [(t_q12, [PV.s p0_1, PV.i p0_2, PV.i p0_3])]).bind fun r1 =>
  (bif ((r1.1.getD 0 PV.u).toI == (0 : Int)) then (cW f_q100 [PV.u] [(t_q12, [PV.s ((r1.2.getD 0 (0, [])).2.getD 0 PV.u).toS, PV.i ((r1.2.getD 0 (0, [])).2.getD 1 PV.u).toI, PV.i ((r1.2.getD 0 (0, [])).2.getD 2 PV.u).toI])]).bind fun r2 =>
  some ([PV.i (r1.1.getD 0 PV.u).toI, PV.i (r2.1.getD 0 PV.u).toI, PV.i (r2.1.getD 1 PV.u).toI, PV.i (r2.1.getD 2 PV.u).toI, PV.i (r2.1.getD 3 PV.u).toI, PV.i 0, PV.i 0, PV.i 0, PV.i 0, PV.i 0, PV.i 0, PV.i 0, (PV.l []), PV.i 0], [(t_q12, [PV.s ((r2.2.getD 0 (0, [])).2.getD 0 PV.u).toS, PV.i ((r2.2.getD 0 (0, [])).2.getD 1 PV.u).toI, PV.i ((r2.2.getD 0 (0, [])).2.getD 2 PV.u).toI])])
  else (cW f_q189 [PV.i (r1.1.getD 0 PV.u).toI] []).bind fun r3 =>
  (bif (r3.1.getD 0 PV.u).toB then (cW f_q68 [PV.u, PV.i 2] [(t_q12, [PV.s ((r1.2.getD 0 (0, [])).2.getD 0 PV.u).toS, PV.i ((r1.2.getD 0 (0, [])).2.getD 1 PV.u).toI, PV.i ((r1.2.getD 0 (0, [])).2.getD 2 PV.u).toI])]).bind fun r4 =>
  (cW f_q130 [PV.u] [(t_q12, [PV.s ((r4.2.getD 0 (0, [])).2.getD 0 PV.u).toS, PV.i ((r4.2.getD 0 (0, [])).2.getD 1 PV.u).toI, PV.i ((r4.2.getD 0 (0, [])).2.getD 2 PV.u).toI])]).bind fun r5 =>
  some ([PV.i (r1.1.getD 0 PV.u).toI, PV.i 0, PV.i 0, PV.i 0, PV.i 0, PV.i (r5.1.getD 0 PV.u).toI, PV.i (r5.1.getD 1 PV.u).toI, PV.i (r5.1.getD 2 PV.u).toI, PV.i (r5.1.getD 3 PV.u).toI, PV.i (r5.1.getD 4 PV.u).toI, PV.i (r5.1.getD 5 PV.u).toI, PV.i 0, (PV.l []), PV.i (r4.1.getD 0 PV.u).toI], [(t_q12, [PV.s ((r5.2.getD 0 (0, [])).2.getD 0 PV.u).toS, PV.i ((r5.2.getD 0 (0, [])).2.getD 1 PV.u).toI, PV.i ((r5.2.getD 0 (0, [])).2.getD 2 PV.u).toI])])
  else (cW f_q202 [PV.i (r1.1.getD 0 PV.u).toI] []).bind fun r6 =>
  (bif (r6.1.getD 0 PV.u).toB then (cW f_q130 [PV.u] [(t_q12, [PV.s ((r1.2.getD 0 (0, [])).2.getD 0 PV.u).toS, PV.i ((r1.2.getD 0 (0, [])).2.getD 1 PV.u).toI, PV.i ((r1.2.getD 0 (0, [])).2.getD 2 PV.u).toI])]).bind fun r7 =>
  (cW f_q68 [PV.u, PV.i 1] [(t_q12, [PV.s ((r7.2.getD 0 (0, [])).2.getD 0 PV.u).toS, PV.i ((r7.2.getD 0 (0, [])).2.getD 1 PV.u).toI, PV.i ((r7.2.getD 0 (0, [])).2.getD 2 PV.u).toI])]).bind fun r8 =>
  ((bif (((r8.2.getD 0 (0, [])).2.getD 2 PV.u).toI == (0 : Int)) then (bif (decide ((IntKind.wrap .i64 (Int.tdiv (r8.1.getD 0 PV.u).toI (64 : Int))) > (2 : Int))) then some [PV.b true]
   else (bif ((bitsOp Go.BinOp.and .i64 (r8.1.getD 0 PV.u).toI (48 : Int)) != (0 : Int)) then some [PV.b true]
   else (bif ((bitsOp Go.BinOp.and .i64 (r8.1.getD 0 PV.u).toI (15 : Int)) == (0 : Int)) then some [PV.b true]
   else some [(PV.b (decide ((bitsOp Go.BinOp.and .i64 (r8.1.getD 0 PV.u).toI (15 : Int)) > (8 : Int))))])))
   else some [PV.b false])).bind fun r9 =>
  (bif ((r9.getD 0 PV.u)).toB then (cW f_q105 [PV.u, PV.i 3] [(t_q12, [PV.s ((r8.2.getD 0 (0, [])).2.getD 0 PV.u).toS, PV.i ((r8.2.getD 0 (0, [])).2.getD 1 PV.u).toI, PV.i ((r8.2.getD 0 (0, [])).2.getD 2 PV.u).toI])]).bind fun r10 =>
  rW f_q63 [t_q12] at_q23 (S_q23 0 ((bitsOp Go.BinOp.and .i64 (r8.1.getD 0 PV.u).toI (15 : Int))) 0 (((r10.2.getD 0 (0, [])).2.getD 0 PV.u).toS) (((r10.2.getD 0 (0, [])).2.getD 1 PV.u).toI) (((r10.2.getD 0 (0, [])).2.getD 2 PV.u).toI) ([]) 0 0 0 0 0 0 0 0 0 0 0 0 0 ([]) ((r1.1.getD 0 PV.u).toI) 0 0 0 0 ((r7.1.getD 0 PV.u).toI) ((r7.1.getD 1 PV.u).toI) ((r7.1.getD 2 PV.u).toI) ((r7.1.getD 3 PV.u).toI) ((r7.1.getD 4 PV.u).toI) ((r7.1.getD 5 PV.u).toI) ((IntKind.wrap .i64 (Int.tdiv (r8.1.getD 0 PV.u).toI (64 : Int)))) 0)
  else rW f_q63 [t_q12] at_q23 (S_q23 0 ((bitsOp Go.BinOp.and .i64 (r8.1.getD 0 PV.u).toI (15 : Int))) 0 (((r8.2.getD 0 (0, [])).2.getD 0 PV.u).toS) (((r8.2.getD 0 (0, [])).2.getD 1 PV.u).toI) (((r8.2.getD 0 (0, [])).2.getD 2 PV.u).toI) ([]) 0 0 0 0 0 0 0 0 0 0 0 0 0 ([]) ((r1.1.getD 0 PV.u).toI) 0 0 0 0 ((r7.1.getD 0 PV.u).toI) ((r7.1.getD 1 PV.u).toI) ((r7.1.getD 2 PV.u).toI) ((r7.1.getD 3 PV.u).toI) ((r7.1.getD 4 PV.u).toI) ((r7.1.getD 5 PV.u).toI) ((IntKind.wrap .i64 (Int.tdiv (r8.1.getD 0 PV.u).toI (64 : Int)))) 0))
  else (cW f_q105 [PV.u, PV.i 3] [(t_q12, [PV.s ((r1.2.getD 0 (0, [])).2.getD 0 PV.u).toS, PV.i ((r1.2.getD 0 (0, [])).2.getD 1 PV.u).toI, PV.i ((r1.2.getD 0 (0, [])).2.getD 2 PV.u).toI])]).bind fun r11 =>
  some ([PV.i (r1.1.getD 0 PV.u).toI, PV.i 0, PV.i 0, PV.i 0, PV.i 0, PV.i 0, PV.i 0, PV.i 0, PV.i 0, PV.i 0, PV.i 0, PV.i 0, (PV.l []), PV.i 0], [(t_q12, [PV.s ((r11.2.getD 0 (0, [])).2.getD 0 PV.u).toS, PV.i ((r11.2.getD 0 (0, [])).2.getD 1 PV.u).toI, PV.i ((r11.2.getD 0 (0, [])).2.getD 2 PV.u).toI])])))) := by rw [cW_fix]; generalize cW = C; generalize rW = R; kernel_rfl
theorem w_q23 (x1 x2 x3 : Int) (x4 : List UInt8) (x5 x6 : Int) (x7 : List (List PV)) (x8 x9 : Int) (x10 x11 : Int) (x12 x13 : Int) (x14 x15 : Int) (x16 x17 : Int) (x18 x19 x20 : Int) (x21 : List (List PV)) (x22 x23 : Int) (x24 x25 : Int) (x26 x27 : Int) (x28 x29 : Int) (x30 x31 : Int) (x32 x33 x34 : Int) : rW f_q63 [t_q12] at_q23 (S_q23 x1 x2 x3 x4 x5 x6 x7 x8 x9 x10 x11 x12 x13 x14 x15 x16 x17 x18 x19 x20 x21 x22 x23 x24 x25 x26 x27 x28 x29 x30 x31 x32 x33 x34) =
  (bif (decide (x3 < x2)) then (cW f_q68 [PV.u, PV.i 1] [(t_q12, [PV.s x4, PV.i x5, PV.i x6])]).bind fun r12 =>
  ((bif (((r12.2.getD 0 (0, [])).2.getD 2 PV.u).toI == (0 : Int)) then some [(PV.b (decide ((r12.1.getD 0 PV.u).toI < x1)))]
   else some [PV.b false])).bind fun r13 =>
  (bif ((r13.getD 0 PV.u)).toB then (cW f_q105 [PV.u, PV.i 3] [(t_q12, [PV.s ((r12.2.getD 0 (0, [])).2.getD 0 PV.u).toS, PV.i ((r12.2.getD 0 (0, [])).2.getD 1 PV.u).toI, PV.i ((r12.2.getD 0 (0, [])).2.getD 2 PV.u).toI])]).bind fun r14 =>
  (cW f_q100 [PV.u] [(t_q12, [PV.s ((r14.2.getD 0 (0, [])).2.getD 0 PV.u).toS, PV.i ((r14.2.getD 0 (0, [])).2.getD 1 PV.u).toI, PV.i ((r14.2.getD 0 (0, [])).2.getD 2 PV.u).toI])]).bind fun r15 =>
  (bif (decide (((((List.length x21) + (List.length (List.set [[PV.i 0, PV.i 0, PV.i 0, PV.i 0, PV.i 0]] 0 [PV.i (r12.1.getD 0 PV.u).toI, PV.i (r15.1.getD 0 PV.u).toI, PV.i (r15.1.getD 1 PV.u).toI, PV.i (r15.1.getD 2 PV.u).toI, PV.i (r15.1.getD 3 PV.u).toI]))) + 1000) * 41) ≤ 1099511627776)) then rW f_q63 [t_q12] at_q23 (S_q23 ((r12.1.getD 0 PV.u).toI) x2 ((IntKind.wrap .i64 (x3 + (1 : Int)))) (((r15.2.getD 0 (0, [])).2.getD 0 PV.u).toS) (((r15.2.getD 0 (0, [])).2.getD 1 PV.u).toI) (((r15.2.getD 0 (0, [])).2.getD 2 PV.u).toI) x7 x8 x9 x10 x11 x12 x13 x14 x15 x16 x17 x18 x19 x20 ((x21 ++ (List.set [[PV.i 0, PV.i 0, PV.i 0, PV.i 0, PV.i 0]] 0 [PV.i (r12.1.getD 0 PV.u).toI, PV.i (r15.1.getD 0 PV.u).toI, PV.i (r15.1.getD 1 PV.u).toI, PV.i (r15.1.getD 2 PV.u).toI, PV.i (r15.1.getD 3 PV.u).toI]))) x22 x23 x24 x25 x26 x27 x28 x29 x30 x31 x32 x33 x34)
  else none)
  else (cW f_q100 [PV.u] [(t_q12, [PV.s ((r12.2.getD 0 (0, [])).2.getD 0 PV.u).toS, PV.i ((r12.2.getD 0 (0, [])).2.getD 1 PV.u).toI, PV.i ((r12.2.getD 0 (0, [])).2.getD 2 PV.u).toI])]).bind fun r16 =>
  (bif (decide (((((List.length x21) + (List.length (List.set [[PV.i 0, PV.i 0, PV.i 0, PV.i 0, PV.i 0]] 0 [PV.i (r12.1.getD 0 PV.u).toI, PV.i (r16.1.getD 0 PV.u).toI, PV.i (r16.1.getD 1 PV.u).toI, PV.i (r16.1.getD 2 PV.u).toI, PV.i (r16.1.getD 3 PV.u).toI]))) + 1000) * 41) ≤ 1099511627776)) then rW f_q63 [t_q12] at_q23 (S_q23 ((r12.1.getD 0 PV.u).toI) x2 ((IntKind.wrap .i64 (x3 + (1 : Int)))) (((r16.2.getD 0 (0, [])).2.getD 0 PV.u).toS) (((r16.2.getD 0 (0, [])).2.getD 1 PV.u).toI) (((r16.2.getD 0 (0, [])).2.getD 2 PV.u).toI) x7 x8 x9 x10 x11 x12 x13 x14 x15 x16 x17 x18 x19 x20 ((x21 ++ (List.set [[PV.i 0, PV.i 0, PV.i 0, PV.i 0, PV.i 0]] 0 [PV.i (r12.1.getD 0 PV.u).toI, PV.i (r16.1.getD 0 PV.u).toI, PV.i (r16.1.getD 1 PV.u).toI, PV.i (r16.1.getD 2 PV.u).toI, PV.i (r16.1.getD 3 PV.u).toI]))) x22 x23 x24 x25 x26 x27 x28 x29 x30 x31 x32 x33 x34)
  else none))
  else some ([PV.i x22, PV.i x23, PV.i x24, PV.i x25, PV.i x26, PV.i x27, PV.i x28, PV.i x29, PV.i x30, PV.i x31, PV.i x32, PV.i x33, PV.l x21, PV.i x34], [(t_q12, [PV.s x4, PV.i x5, PV.i x6])])) := by rw [rW_fix]; generalize cW = C; generalize rW = R; kernel_rfl
theorem w_q130 (p0_1 : List UInt8) (p0_2 p0_3 : Int) : cW f_q130 [.u] [(t_q12, [.s p0_1, .i p0_2, .i p0_3])] =
  (bif (p0_3 != (0 : Int)) then some ([PV.i 0, PV.i 0, PV.i 0, PV.i 0, PV.i 0, PV.i 0], [(t_q12, [PV.s p0_1, PV.i p0_2, PV.i p0_3])])
  else (cW f_q193 [PV.s p0_1, PV.i p0_2] []).bind fun r1 =>
  some ([PV.i (r1.1.getD 0 PV.u).toI, PV.i (r1.1.getD 1 PV.u).toI, PV.i (r1.1.getD 2 PV.u).toI, PV.i (r1.1.getD 3 PV.u).toI, PV.i (r1.1.getD 4 PV.u).toI, PV.i (r1.1.getD 5 PV.u).toI], [(t_q12, [PV.s (r1.1.getD 6 PV.u).toS, PV.i (r1.1.getD 7 PV.u).toI, PV.i (r1.1.getD 8 PV.u).toI])])) := by rw [cW_fix]; generalize cW = C; generalize rW = R; kernel_rfl
/- celluloid/celluloidref08.Little -/
theorem w_q198 (a1 a2 : List (List PV)) : cW f_q198 [.l a1, .l a2] [] =
  ((bif (decide (((a1.length : Nat) : Int) ≤ (15 : Int))) then (bif (decide (((a2.length : Nat) : Int) ≤ (15 : Int))) then (cW f_q69 [PV.l a1, (PV.f f_q173 0)] []).bind fun r1 =>
   (bif (!(r1.1.getD 0 PV.u).toB) then (cW f_q60 [PV.l a2, (PV.f f_q174 0)] []).bind fun r2 =>
   some [(PV.b (!(r2.1.getD 0 PV.u).toB))]
   else some [PV.b false])
   else some [PV.b false])
   else some [PV.b false])).bind fun r3 =>
  some ([PV.b ((r3.getD 0 PV.u)).toB], []) := by rw [cW_fix]; generalize cW = C; generalize rW = R; kernel_rfl
/- celluloid/celluloidref08.Take -/
noncomputable def S_q93 (x1 x2 : Int) (x3 x4 : Int) (x5 x6 : Int) (x7 x8 : Int) (x9 x10 : Int) (x11 x12 x13 : Int) (x14 : List (List PV)) (x15 x16 : Int) (x17 x18 : Int) (x19 x20 : Int) (x21 x22 : Int) (x23 x24 : Int) (x25 x26 x27 : Int) (x28 : List (List PV)) (x29 : Int) : St := mkSt [(2, .v (.ptr (.n 1 0 0) 0)), (3, .v (.ptr (.n 1 1 0) 0)), (5, .v (.int .i64 x1))] [((.n 1 0 0), .cells 70 [.int .i64 x2, .int .i64 x3, .int .i64 x4, .int .i64 x5, .int .i64 x6, .int .i64 x7, .int .i64 x8, .int .i64 x9, .int .i64 x10, .int .i64 x11, .int .i64 x12, .int .i64 x13, .sl 107 x14, .int .i64 x15]), ((.n 1 1 0), .cells 70 [.int .i64 x16, .int .i64 x17, .int .i64 x18, .int .i64 x19, .int .i64 x20, .int .i64 x21, .int .i64 x22, .int .i64 x23, .int .i64 x24, .int .i64 x25, .int .i64 x26, .int .i64 x27, .sl 107 x28, .int .i64 x29])] 1000 66
noncomputable def at_q93 : List Item := (atLoop Tryz.f76 0)
theorem w_q142 (a1 a2 : Int) (a3 a4 : Int) (a5 a6 : Int) (a7 a8 : Int) (a9 a10 : Int) (a11 a12 : Int) (a13 : List (List PV)) (a14 a15 : Int) (a16 a17 : Int) (a18 a19 : Int) (a20 a21 : Int) (a22 a23 : Int) (a24 a25 a26 : Int) (a27 : List (List PV)) (a28 : Int) : cW f_q142 [.i a1, .i a2, .i a3, .i a4, .i a5, .i a6, .i a7, .i a8, .i a9, .i a10, .i a11, .i a12, .l a13, .i a14, .i a15, .i a16, .i a17, .i a18, .i a19, .i a20, .i a21, .i a22, .i a23, .i a24, .i a25, .i a26, .l a27, .i a28] [] =
  ((bif (a1 != a15) then some [PV.b true]
   else (bif (!((a2 == a16) && ((a3 == a17) && ((a4 == a18) && (a5 == a19))))) then some [PV.b true]
   else (bif (!((a6 == a20) && ((a7 == a21) && ((a8 == a22) && ((a9 == a23) && ((a10 == a24) && (a11 == a25))))))) then some [PV.b true]
   else (bif (a12 != a26) then some [PV.b true]
   else (bif (a14 != a28) then some [PV.b true]
   else some [(PV.b (((a13.length : Nat) : Int) != ((a27.length : Nat) : Int)))])))))).bind fun r1 =>
  (bif ((r1.getD 0 PV.u)).toB then some ([PV.b false], [])
  else rW f_q142 [] at_q93 (S_q93 0 (a1) (a2) (a3) (a4) (a5) (a6) (a7) (a8) (a9) (a10) (a11) (a12) (a13) (a14) (a15) (a16) (a17) (a18) (a19) (a20) (a21) (a22) (a23) (a24) (a25) (a26) (a27) (a28))) := by rw [cW_fix]; generalize cW = C; generalize rW = R; kernel_rfl
theorem w_q93 (x1 x2 : Int) (x3 x4 : Int) (x5 x6 : Int) (x7 x8 : Int) (x9 x10 : Int) (x11 x12 x13 : Int) (x14 : List (List PV)) (x15 x16 : Int) (x17 x18 : Int) (x19 x20 : Int) (x21 x22 : Int) (x23 x24 : Int) (x25 x26 x27 : Int) (x28 : List (List PV)) (x29 : Int) : rW f_q142 [] at_q93 (S_q93 x1 x2 x3 x4 x5 x6 x7 x8 x9 x10 x11 x12 x13 x14 x15 x16 x17 x18 x19 x20 x21 x22 x23 x24 x25 x26 x27 x28 x29) =
  (bif (decide (x1 < ((x14.length : Nat) : Int))) then (bif (inB x1 (List.length x14)) then (bif (inB x1 (List.length x28)) then (bif (!((((elemAt x14 x1).getD 0 PV.u).toI == ((elemAt x28 x1).getD 0 PV.u).toI) && ((((elemAt x14 x1).getD 1 PV.u).toI == ((elemAt x28 x1).getD 1 PV.u).toI) && ((((elemAt x14 x1).getD 2 PV.u).toI == ((elemAt x28 x1).getD 2 PV.u).toI) && ((((elemAt x14 x1).getD 3 PV.u).toI == ((elemAt x28 x1).getD 3 PV.u).toI) && (((elemAt x14 x1).getD 4 PV.u).toI == ((elemAt x28 x1).getD 4 PV.u).toI)))))) then some ([PV.b false], [])
  else rW f_q142 [] at_q93 (S_q93 ((IntKind.wrap .i64 (x1 + (1 : Int)))) x2 x3 x4 x5 x6 x7 x8 x9 x10 x11 x12 x13 x14 x15 x16 x17 x18 x19 x20 x21 x22 x23 x24 x25 x26 x27 x28 x29))
  else none)
  else none)
  else some ([PV.b true], [])) := by rw [rW_fix]; generalize cW = C; generalize rW = R; kernel_rfl
noncomputable def S_q112 (x1 : Int) (x2 : List (List PV)) (x3 x4 : Int) (x5 x6 : Int) (x7 x8 : Int) (x9 x10 : Int) (x11 x12 : Int) (x13 x14 : Int) (x15 x16 : Int) (x17 : List (List PV)) (x18 : Int) : St := mkSt [(1, .v (.ptr (.n 1 0 0) 0)), (3, .v (.int .i64 x1)), (68, .v (.sl 107 x2)), (69, .v (.int .i64 x3)), (70, .v (.int .i64 x4)), (85, .any), (86, .any), (87, .any), (90, .any), (91, .any), (92, .any), (95, .any), (96, .any), (97, .any), (98, .any), (101, .any), (102, .any), (103, .any), (104, .any)] [((.n 1 0 0), .cells 70 [.int .i64 x5, .int .i64 x6, .int .i64 x7, .int .i64 x8, .int .i64 x9, .int .i64 x10, .int .i64 x11, .int .i64 x12, .int .i64 x13, .int .i64 x14, .int .i64 x15, .int .i64 x16, .sl 107 x17, .int .i64 x18])] 1000 106
noncomputable def at_q112 : List Item := (atLoop Tryz.f92 1)
theorem w_q167 (a1 a2 : Int) (a3 a4 : Int) (a5 a6 : Int) (a7 a8 : Int) (a9 a10 : Int) (a11 a12 : Int) (a13 : List (List PV)) (a14 : Int) : cW f_q167 [.i a1, .i a2, .i a3, .i a4, .i a5, .i a6, .i a7, .i a8, .i a9, .i a10, .i a11, .i a12, .l a13, .i a14] [] =
  (bif (a1 == (0 : Int)) then ((cW f_q166 [PV.i a2, PV.i a3, PV.i a4, PV.i a5] []).bind fun r1 =>
   (bif (r1.1.getD 0 PV.u).toB then (cW f_q184 [PV.i a1, PV.i a2, PV.i a3, PV.i a4, PV.i a5, PV.i a6, PV.i a7, PV.i a8, PV.i a9, PV.i a10, PV.i a11, PV.i a12, PV.l a13, PV.i a14, PV.i 0, PV.i a2, PV.i a3, PV.i a4, PV.i a5, PV.i 0, PV.i 0, PV.i 0, PV.i 0, PV.i 0, PV.i 0, PV.i 0, (PV.l []), PV.i 0] []).bind fun r2 =>
   some [PV.b (r2.1.getD 0 PV.u).toB]
   else some [PV.b false])).bind fun r3 =>
  some ([PV.b ((r3.getD 0 PV.u)).toB], [])
  else (cW f_q189 [PV.i a1] []).bind fun r4 =>
  (bif (r4.1.getD 0 PV.u).toB then ((cW f_q123 [PV.i a6, PV.i a7, PV.i a8, PV.i a9, PV.i a10, PV.i a11] []).bind fun r5 =>
   (bif (r5.1.getD 0 PV.u).toB then (bif (decide (a14 ≥ (0 : Int))) then (bif (decide (a14 < (65536 : Int))) then (cW f_q184 [PV.i a1, PV.i a2, PV.i a3, PV.i a4, PV.i a5, PV.i a6, PV.i a7, PV.i a8, PV.i a9, PV.i a10, PV.i a11, PV.i a12, PV.l a13, PV.i a14, PV.i a1, PV.i 0, PV.i 0, PV.i 0, PV.i 0, PV.i a6, PV.i a7, PV.i a8, PV.i a9, PV.i a10, PV.i a11, PV.i 0, (PV.l []), PV.i a14] []).bind fun r6 =>
   some [PV.b (r6.1.getD 0 PV.u).toB]
   else some [PV.b false])
   else some [PV.b false])
   else some [PV.b false])).bind fun r7 =>
  some ([PV.b ((r7.getD 0 PV.u)).toB], [])
  else ((cW f_q202 [PV.i a1] []).bind fun r8 =>
   (bif (!(r8.1.getD 0 PV.u).toB) then some [PV.b true]
   else (cW f_q184 [PV.i a1, PV.i a2, PV.i a3, PV.i a4, PV.i a5, PV.i a6, PV.i a7, PV.i a8, PV.i a9, PV.i a10, PV.i a11, PV.i a12, PV.l a13, PV.i a14, PV.i a1, PV.i 0, PV.i 0, PV.i 0, PV.i 0, PV.i a6, PV.i a7, PV.i a8, PV.i a9, PV.i a10, PV.i a11, PV.i a12, PV.l a13, PV.i 0] []).bind fun r9 =>
   some [(PV.b (!(r9.1.getD 0 PV.u).toB))])).bind fun r10 =>
  (bif ((r10.getD 0 PV.u)).toB then some ([PV.b false], [])
  else rW f_q167 [] at_q112 (S_q112 0 (a13) (((a13.length : Nat) : Int)) 0 (a1) (a2) (a3) (a4) (a5) (a6) (a7) (a8) (a9) (a10) (a11) (a12) (a13) (a14))))) := by rw [cW_fix]; generalize cW = C; generalize rW = R; kernel_rfl
theorem w_q112 (x1 : Int) (x2 : List (List PV)) (x3 x4 : Int) (x5 x6 : Int) (x7 x8 : Int) (x9 x10 : Int) (x11 x12 : Int) (x13 x14 : Int) (x15 x16 : Int) (x17 : List (List PV)) (x18 : Int) : rW f_q167 [] at_q112 (S_q112 x1 x2 x3 x4 x5 x6 x7 x8 x9 x10 x11 x12 x13 x14 x15 x16 x17 x18) =
  (bif (decide (x4 < x3)) then (bif (inB x4 (List.length x2)) then (cW f_q214 [PV.i ((elemAt x2 x4).getD 0 PV.u).toI, PV.i ((elemAt x2 x4).getD 1 PV.u).toI, PV.i ((elemAt x2 x4).getD 2 PV.u).toI, PV.i ((elemAt x2 x4).getD 3 PV.u).toI, PV.i ((elemAt x2 x4).getD 4 PV.u).toI, PV.i x1] []).bind fun r11 =>
  (bif (!(r11.1.getD 0 PV.u).toB) then some ([PV.b false], [])
  else rW f_q167 [] at_q112 (S_q112 (((elemAt x2 x4).getD 0 PV.u).toI) x2 x3 ((IntKind.wrap .i64 (x4 + (1 : Int)))) x5 x6 x7 x8 x9 x10 x11 x12 x13 x14 x15 x16 x17 x18))
  else none)
  else ((cW f_q123 [PV.i x10, PV.i x11, PV.i x12, PV.i x13, PV.i x14, PV.i x15] []).bind fun r12 =>
   (bif (r12.1.getD 0 PV.u).toB then (bif (decide (x16 ≥ (0 : Int))) then (bif (decide (x16 ≤ (2 : Int))) then (bif (decide (((x17.length : Nat) : Int) ≥ (1 : Int))) then some [(PV.b (decide (((x17.length : Nat) : Int) ≤ (8 : Int))))]
   else some [PV.b false])
   else some [PV.b false])
   else some [PV.b false])
   else some [PV.b false])).bind fun r13 =>
  some ([PV.b ((r13.getD 0 PV.u)).toB], [])) := by rw [rW_fix]; generalize cW = C; generalize rW = R; kernel_rfl
noncomputable def S_q159 (x1 x2 : List (List PV)) (x3 x4 : Int) (x5 : List UInt8) (x6 : Int) (x7 : List UInt8) (x8 : Int) : St := mkSt [(2, .v (.sl 74 x1)), (3, .v (.ptr (.n 1 0 0) 0)), (6, .v (.ptr (.n 1 1 0) 0)), (21, .v (.sl 70 x2)), (22, .v (.int .i64 x3)), (23, .v (.int .i64 x4))] [((.n 1 0 0), .cells 46 [.str x5, .int .i64 x6]), ((.n 1 1 0), .cells 46 [.str x7, .int .i64 x8])] 1000 57
noncomputable def at_q159 : List Item := (atLoop Tryz.f136 0)
noncomputable def S_q160 (x1 : List (List PV)) (x2 x3 : Int) (x4 : List UInt8) (x5 : Int) (x6 : List UInt8) (x7 : Int) : St := mkSt [(3, .v (.ptr (.n 1 0 0) 0)), (6, .v (.ptr (.n 1 1 0) 0)), (35, .v (.sl 74 x1)), (36, .v (.int .i64 x2)), (37, .v (.int .i64 x3))] [((.n 1 0 0), .cells 46 [.str x4, .int .i64 x5]), ((.n 1 1 0), .cells 46 [.str x6, .int .i64 x7])] 2000 57
noncomputable def at_q160 : List Item := (atLoop Tryz.f136 2)
theorem w_q178 (a1 : List UInt8) (a2 : Int) (a3 a4 : List (List PV)) : cW f_q178 [.s a1, .i a2, .l a3, .l a4] [] =
  (cW f_q198 [PV.l a3, PV.l a4] []).bind fun r1 =>
  (bif (!(r1.1.getD 0 PV.u).toB) then some ([(PV.s []), PV.i 0, PV.i 1], [])
  else (cW f_q187 [PV.s a1, PV.i a2, (PV.i ((a3.length : Nat) : Int))] []).bind fun r2 =>
  rW f_q178 [] at_q159 (S_q159 (a4) (a3) (((a3.length : Nat) : Int)) 0 ((r2.1.getD 0 PV.u).toS) ((r2.1.getD 1 PV.u).toI) ([]) 0)) := by rw [cW_fix]; generalize cW = C; generalize rW = R; kernel_rfl
theorem w_q159 (x1 x2 : List (List PV)) (x3 x4 : Int) (x5 : List UInt8) (x6 : Int) (x7 : List UInt8) (x8 : Int) : rW f_q178 [] at_q159 (S_q159 x1 x2 x3 x4 x5 x6 x7 x8) =
  (bif (decide (x4 < x3)) then (bif (inB x4 (List.length x2)) then (cW f_q204 [PV.s x5, PV.i x6, PV.i ((elemAt x2 x4).getD 0 PV.u).toI, PV.i ((elemAt x2 x4).getD 1 PV.u).toI, PV.i ((elemAt x2 x4).getD 2 PV.u).toI, PV.i ((elemAt x2 x4).getD 3 PV.u).toI, PV.i ((elemAt x2 x4).getD 4 PV.u).toI, PV.i ((elemAt x2 x4).getD 5 PV.u).toI, PV.i ((elemAt x2 x4).getD 6 PV.u).toI, PV.i ((elemAt x2 x4).getD 7 PV.u).toI, PV.i ((elemAt x2 x4).getD 8 PV.u).toI, PV.i ((elemAt x2 x4).getD 9 PV.u).toI, PV.i ((elemAt x2 x4).getD 10 PV.u).toI, PV.i ((elemAt x2 x4).getD 11 PV.u).toI, PV.l ((elemAt x2 x4).getD 12 PV.u).toL, PV.i ((elemAt x2 x4).getD 13 PV.u).toI] []).bind fun r3 =>
  rW f_q178 [] at_q159 (S_q159 x1 x2 x3 ((IntKind.wrap .i64 (x4 + (1 : Int)))) ((r3.1.getD 0 PV.u).toS) ((r3.1.getD 1 PV.u).toI) x7 x8)
  else none)
  else (cW f_q187 [PV.s x5, PV.i x6, (PV.i ((x1.length : Nat) : Int))] []).bind fun r4 =>
  rW f_q178 [] at_q160 (S_q160 x1 (((x1.length : Nat) : Int)) 0 ((r4.1.getD 0 PV.u).toS) ((r4.1.getD 1 PV.u).toI) x7 x8)) := by rw [rW_fix]; generalize cW = C; generalize rW = R; kernel_rfl
theorem w_q160 (x1 : List (List PV)) (x2 x3 : Int) (x4 : List UInt8) (x5 : Int) (x6 : List UInt8) (x7 : Int) : rW f_q178 [] at_q160 (S_q160 x1 x2 x3 x4 x5 x6 x7) =
  (bif (decide (x3 < x2)) then (bif (inB x3 (List.length x1)) then (cW f_q102 [PV.s x4, PV.i x5, PV.i ((elemAt x1 x3).getD 0 PV.u).toI, PV.i 2] []).bind fun r5 =>
  (cW f_q135 [PV.s (r5.1.getD 0 PV.u).toS, PV.i (r5.1.getD 1 PV.u).toI, PV.i ((elemAt x1 x3).getD 1 PV.u).toI, PV.i ((elemAt x1 x3).getD 2 PV.u).toI, PV.i ((elemAt x1 x3).getD 3 PV.u).toI, PV.i ((elemAt x1 x3).getD 4 PV.u).toI] []).bind fun r6 =>
  rW f_q178 [] at_q160 (S_q160 x1 x2 ((IntKind.wrap .i64 (x3 + (1 : Int)))) ((r6.1.getD 0 PV.u).toS) ((r6.1.getD 1 PV.u).toI) x6 x7)
  else none)
  else some ([PV.s x4, PV.i x5, PV.i 0], [])) := by rw [rW_fix]; generalize cW = C; generalize rW = R; kernel_rfl
noncomputable def S_q13 (x1 : List (List PV)) (x2 x3 : Int) : St := mkSt [(0, .v (.sl 70 x1)), (1, .v (.fn 91 [])), (7, .v (.int .i64 x2)), (8, .v (.int .i64 x3))] [] 1000 19
noncomputable def at_q13 : List Item := (atLoop Tryz.f140 0)
theorem w_q33 (a1 : List (List PV)) : cW f_q33 [.l a1, (.f f_q173 0)] [] =
  rW f_q33 [] at_q13 (S_q13 (a1) (((a1.length : Nat) : Int)) 0) := by rw [cW_fix]; generalize cW = C; generalize rW = R; kernel_rfl
theorem w_q13 (x1 : List (List PV)) (x2 x3 : Int) : rW f_q33 [] at_q13 (S_q13 x1 x2 x3) =
  (bif (decide (x3 < x2)) then (bif (inB x3 (List.length x1)) then (cW f_q173 [PV.i ((elemAt x1 x3).getD 0 PV.u).toI, PV.i ((elemAt x1 x3).getD 1 PV.u).toI, PV.i ((elemAt x1 x3).getD 2 PV.u).toI, PV.i ((elemAt x1 x3).getD 3 PV.u).toI, PV.i ((elemAt x1 x3).getD 4 PV.u).toI, PV.i ((elemAt x1 x3).getD 5 PV.u).toI, PV.i ((elemAt x1 x3).getD 6 PV.u).toI, PV.i ((elemAt x1 x3).getD 7 PV.u).toI, PV.i ((elemAt x1 x3).getD 8 PV.u).toI, PV.i ((elemAt x1 x3).getD 9 PV.u).toI, PV.i ((elemAt x1 x3).getD 10 PV.u).toI, PV.i ((elemAt x1 x3).getD 11 PV.u).toI, PV.l ((elemAt x1 x3).getD 12 PV.u).toL, PV.i ((elemAt x1 x3).getD 13 PV.u).toI] []).bind fun r1 =>
  (bif (r1.1.getD 0 PV.u).toB then some ([PV.i x3], [])
  else rW f_q33 [] at_q13 (S_q13 x1 x2 ((IntKind.wrap .i64 (x3 + (1 : Int))))))
  else none)
  else some ([(PV.i (-1 : Int))], [])) := by rw [rW_fix]; generalize cW = C; generalize rW = R; kernel_rfl
theorem w_q214 (a1 a2 : Int) (a3 a4 : Int) (a5 a6 : Int) : cW f_q214 [.i a1, .i a2, .i a3, .i a4, .i a5, .i a6] [] =
  ((bif (decide (a1 ≥ a6)) then (bif (decide (a1 ≤ (255 : Int))) then (cW f_q166 [PV.i a2, PV.i a3, PV.i a4, PV.i a5] []).bind fun r1 =>
   some [PV.b (r1.1.getD 0 PV.u).toB]
   else some [PV.b false])
   else some [PV.b false])).bind fun r2 =>
  some ([PV.b ((r2.getD 0 PV.u)).toB], []) := by rw [cW_fix]; generalize cW = C; generalize rW = R; kernel_rfl
noncomputable def S_q15 (x1 x2 : List (List PV)) (x3 x4 : Int) : St := mkSt [(0, .v (.sl 107 x1)), (1, .v (.sl 107 x2)), (12, .v (.int .i64 x3)), (13, .v (.int .i64 x4))] [] 1000 26
noncomputable def at_q15 : List Item := (atLoop Tryz.f172 0)
theorem w_q30 (a1 a2 : List (List PV)) : cW f_q30 [.l a1, .l a2] [] =
  (bif (((a1.length : Nat) : Int) != ((a2.length : Nat) : Int)) then some ([PV.b false], [])
  else rW f_q30 [] at_q15 (S_q15 (a1) (a2) (((a1.length : Nat) : Int)) 0)) := by rw [cW_fix]; generalize cW = C; generalize rW = R; kernel_rfl
theorem w_q15 (x1 x2 : List (List PV)) (x3 x4 : Int) : rW f_q30 [] at_q15 (S_q15 x1 x2 x3 x4) =
  (bif (decide (x4 < x3)) then (bif (inB x4 (List.length x1)) then (bif (inB x4 (List.length x2)) then (bif (!((((elemAt x1 x4).getD 0 PV.u).toI == ((elemAt x2 x4).getD 0 PV.u).toI) && ((((elemAt x1 x4).getD 1 PV.u).toI == ((elemAt x2 x4).getD 1 PV.u).toI) && ((((elemAt x1 x4).getD 2 PV.u).toI == ((elemAt x2 x4).getD 2 PV.u).toI) && ((((elemAt x1 x4).getD 3 PV.u).toI == ((elemAt x2 x4).getD 3 PV.u).toI) && (((elemAt x1 x4).getD 4 PV.u).toI == ((elemAt x2 x4).getD 4 PV.u).toI)))))) then some ([PV.b false], [])
  else rW f_q30 [] at_q15 (S_q15 x1 x2 x3 ((IntKind.wrap .i64 (x4 + (1 : Int))))))
  else none)
  else none)
  else some ([PV.b true], [])) := by rw [rW_fix]; generalize cW = C; generalize rW = R; kernel_rfl
theorem w_q68 (a2 : Int) (p0_1 : List UInt8) (p0_2 p0_3 : Int) : cW f_q68 [.u, .i a2] [(t_q12, [.s p0_1, .i p0_2, .i p0_3])] =
  (bif (p0_3 != (0 : Int)) then some ([PV.i 0], [(t_q12, [PV.s p0_1, PV.i p0_2, PV.i p0_3])])
  else (cW f_q186 [PV.s p0_1, PV.i p0_2, PV.i a2] []).bind fun r1 =>
  some ([PV.i (r1.1.getD 0 PV.u).toI], [(t_q12, [PV.s (r1.1.getD 1 PV.u).toS, PV.i (r1.1.getD 2 PV.u).toI, PV.i (r1.1.getD 3 PV.u).toI])])) := by rw [cW_fix]; generalize cW = C; generalize rW = R; kernel_rfl
noncomputable def S_q64 (x1 x2 : List (List PV)) (x3 x4 : List (List PV)) (x5 : Int) : St := mkSt [(0, .v (.sl 70 x1)), (1, .v (.sl 70 x2)), (2, .v (.sl 74 x3)), (3, .v (.sl 74 x4)), (9, .v (.int .i64 x5))] [] 1000 54
noncomputable def at_q64 : List Item := (atLoop Tryz.f29 0)
noncomputable def S_q65 (x1 x2 : List (List PV)) (x3 : Int) : St := mkSt [(2, .v (.sl 74 x1)), (3, .v (.sl 74 x2)), (10, .v (.int .i64 x3))] [] 2000 54
noncomputable def at_q65 : List Item := (atLoop Tryz.f29 2)
theorem w_q55 (a1 a2 : List (List PV)) (a3 a4 : List (List PV)) : cW f_q55 [.l a1, .l a2, .l a3, .l a4] [] =
  ((bif (((a1.length : Nat) : Int) != ((a2.length : Nat) : Int)) then some [PV.b true]
   else some [(PV.b (((a3.length : Nat) : Int) != ((a4.length : Nat) : Int)))])).bind fun r1 =>
  (bif ((r1.getD 0 PV.u)).toB then some ([PV.b false], [])
  else rW f_q55 [] at_q64 (S_q64 (a1) (a2) (a3) (a4) 0)) := by rw [cW_fix]; generalize cW = C; generalize rW = R; kernel_rfl
theorem w_q64 (x1 x2 : List (List PV)) (x3 x4 : List (List PV)) (x5 : Int) : rW f_q55 [] at_q64 (S_q64 x1 x2 x3 x4 x5) =
  (bif (decide (x5 < ((x1.length : Nat) : Int))) then (bif (inB x5 (List.length x1)) then (bif (inB x5 (List.length x2)) then (cW f_q142 [PV.i ((elemAt x1 x5).getD 0 PV.u).toI, PV.i ((elemAt x1 x5).getD 1 PV.u).toI, PV.i ((elemAt x1 x5).getD 2 PV.u).toI, PV.i ((elemAt x1 x5).getD 3 PV.u).toI, PV.i ((elemAt x1 x5).getD 4 PV.u).toI, PV.i ((elemAt x1 x5).getD 5 PV.u).toI, PV.i ((elemAt x1 x5).getD 6 PV.u).toI, PV.i ((elemAt x1 x5).getD 7 PV.u).toI, PV.i ((elemAt x1 x5).getD 8 PV.u).toI, PV.i ((elemAt x1 x5).getD 9 PV.u).toI, PV.i ((elemAt x1 x5).getD 10 PV.u).toI, PV.i ((elemAt x1 x5).getD 11 PV.u).toI, PV.l ((elemAt x1 x5).getD 12 PV.u).toL, PV.i ((elemAt x1 x5).getD 13 PV.u).toI, PV.i ((elemAt x2 x5).getD 0 PV.u).toI, PV.i ((elemAt x2 x5).getD 1 PV.u).toI, PV.i ((elemAt x2 x5).getD 2 PV.u).toI, PV.i ((elemAt x2 x5).getD 3 PV.u).toI, PV.i ((elemAt x2 x5).getD 4 PV.u).toI, PV.i ((elemAt x2 x5).getD 5 PV.u).toI, PV.i ((elemAt x2 x5).getD 6 PV.u).toI, PV.i ((elemAt x2 x5).getD 7 PV.u).toI, PV.i ((elemAt x2 x5).getD 8 PV.u).toI, PV.i ((elemAt x2 x5).getD 9 PV.u).toI, PV.i ((elemAt x2 x5).getD 10 PV.u).toI, PV.i ((elemAt x2 x5).getD 11 PV.u).toI, PV.l ((elemAt x2 x5).getD 12 PV.u).toL, PV.i ((elemAt x2 x5).getD 13 PV.u).toI] []).bind fun r2 =>
  (bif (!(r2.1.getD 0 PV.u).toB) then some ([PV.b false], [])
  else rW f_q55 [] at_q64 (S_q64 x1 x2 x3 x4 ((IntKind.wrap .i64 (x5 + (1 : Int))))))
  else none)
  else none)
  else rW f_q55 [] at_q65 (S_q65 x3 x4 0)) := by rw [rW_fix]; generalize cW = C; generalize rW = R; kernel_rfl
theorem w_q65 (x1 x2 : List (List PV)) (x3 : Int) : rW f_q55 [] at_q65 (S_q65 x1 x2 x3) =
  (bif (decide (x3 < ((x1.length : Nat) : Int))) then (bif (inB x3 (List.length x1)) then (bif (inB x3 (List.length x2)) then (bif (!((((elemAt x1 x3).getD 0 PV.u).toI == ((elemAt x2 x3).getD 0 PV.u).toI) && ((((elemAt x1 x3).getD 1 PV.u).toI == ((elemAt x2 x3).getD 1 PV.u).toI) && ((((elemAt x1 x3).getD 2 PV.u).toI == ((elemAt x2 x3).getD 2 PV.u).toI) && ((((elemAt x1 x3).getD 3 PV.u).toI == ((elemAt x2 x3).getD 3 PV.u).toI) && (((elemAt x1 x3).getD 4 PV.u).toI == ((elemAt x2 x3).getD 4 PV.u).toI)))))) then some ([PV.b false], [])
  else rW f_q55 [] at_q65 (S_q65 x1 x2 ((IntKind.wrap .i64 (x3 + (1 : Int))))))
  else none)
  else none)
  else some ([PV.b true], [])) := by rw [rW_fix]; generalize cW = C; generalize rW = R; kernel_rfl
noncomputable def S_q84 (x1 x2 : List (List PV)) (x3 : Int) : St := mkSt [(0, .v (.sl 70 x1)), (1, .v (.sl 74 x2)), (5, .v (.int .i64 x3)), (35, .any), (36, .any), (37, .any)] [] 1000 39
noncomputable def at_q84 : List Item := (atLoop Tryz.f41 0)
noncomputable def S_q85 (x1 x2 : List (List PV)) (x3 : Int) : St := mkSt [(0, .v (.sl 70 x1)), (1, .v (.sl 74 x2)), (6, .v (.int .i64 x3)), (35, .any), (36, .any), (37, .any)] [] 2000 39
noncomputable def at_q85 : List Item := (atLoop Tryz.f41 2)
theorem w_q74 (a1 a2 : List (List PV)) : cW f_q74 [.l a1, .l a2] [] =
  rW f_q74 [] at_q84 (S_q84 (a1) (a2) 0) := by rw [cW_fix]; generalize cW = C; generalize rW = R; kernel_rfl
theorem w_q84 (x1 x2 : List (List PV)) (x3 : Int) : rW f_q74 [] at_q84 (S_q84 x1 x2 x3) =
  (bif (decide (x3 < ((x1.length : Nat) : Int))) then (bif (inB x3 (List.length x1)) then (cW f_q120 [PV.i ((elemAt x1 x3).getD 0 PV.u).toI, PV.i ((elemAt x1 x3).getD 1 PV.u).toI, PV.i ((elemAt x1 x3).getD 2 PV.u).toI, PV.i ((elemAt x1 x3).getD 3 PV.u).toI, PV.i ((elemAt x1 x3).getD 4 PV.u).toI, PV.i ((elemAt x1 x3).getD 5 PV.u).toI, PV.i ((elemAt x1 x3).getD 6 PV.u).toI, PV.i ((elemAt x1 x3).getD 7 PV.u).toI, PV.i ((elemAt x1 x3).getD 8 PV.u).toI, PV.i ((elemAt x1 x3).getD 9 PV.u).toI, PV.i ((elemAt x1 x3).getD 10 PV.u).toI, PV.i ((elemAt x1 x3).getD 11 PV.u).toI, PV.l ((elemAt x1 x3).getD 12 PV.u).toL, PV.i ((elemAt x1 x3).getD 13 PV.u).toI] []).bind fun r1 =>
  (bif (!(r1.1.getD 0 PV.u).toB) then some ([PV.b false], [])
  else rW f_q74 [] at_q84 (S_q84 x1 x2 ((IntKind.wrap .i64 (x3 + (1 : Int))))))
  else none)
  else rW f_q74 [] at_q85 (S_q85 x1 x2 0)) := by rw [rW_fix]; generalize cW = C; generalize rW = R; kernel_rfl
theorem w_q85 (x1 x2 : List (List PV)) (x3 : Int) : rW f_q74 [] at_q85 (S_q85 x1 x2 x3) =
  (bif (decide (x3 < ((x2.length : Nat) : Int))) then (bif (inB x3 (List.length x2)) then (cW f_q188 [PV.i ((elemAt x2 x3).getD 0 PV.u).toI, PV.i ((elemAt x2 x3).getD 1 PV.u).toI, PV.i ((elemAt x2 x3).getD 2 PV.u).toI, PV.i ((elemAt x2 x3).getD 3 PV.u).toI, PV.i ((elemAt x2 x3).getD 4 PV.u).toI] []).bind fun r2 =>
  (bif (!(r2.1.getD 0 PV.u).toB) then some ([PV.b false], [])
  else rW f_q74 [] at_q85 (S_q85 x1 x2 ((IntKind.wrap .i64 (x3 + (1 : Int))))))
  else none)
  else ((bif (decide (((x1.length : Nat) : Int) < (16 : Int))) then some [(PV.b (decide (((x2.length : Nat) : Int) < (16 : Int))))]
   else some [PV.b false])).bind fun r3 =>
  some ([PV.b ((r3.getD 0 PV.u)).toB], [])) := by rw [rW_fix]; generalize cW = C; generalize rW = R; kernel_rfl
noncomputable def S_q3 (x1 x2 : List (List PV)) (x3 x4 : Int) : St := mkSt [(1, .v (.sl 70 x1)), (2, .v (.fn 46 [])), (15, .v (.sl 70 x2)), (16, .v (.int .i64 x3)), (17, .v (.int .i64 x4))] [] 1000 32
noncomputable def at_q3 : List Item := (atLoop Tryz.f45 0)
theorem w_q6 (a1 a2 : List (List PV)) : cW f_q6 [.l a1, .l a2, (.f f_q205 0)] [] =
  (bif (((a1.length : Nat) : Int) != ((a2.length : Nat) : Int)) then some ([PV.b false], [])
  else rW f_q6 [] at_q3 (S_q3 (a2) (a1) (((a1.length : Nat) : Int)) 0)) := by rw [cW_fix]; generalize cW = C; generalize rW = R; kernel_rfl
theorem w_q3 (x1 x2 : List (List PV)) (x3 x4 : Int) : rW f_q6 [] at_q3 (S_q3 x1 x2 x3 x4) =
  (bif (decide (x4 < x3)) then (bif (inB x4 (List.length x2)) then (bif (inB x4 (List.length x1)) then (cW f_q205 [PV.i ((elemAt x2 x4).getD 0 PV.u).toI, PV.i ((elemAt x2 x4).getD 1 PV.u).toI, PV.i ((elemAt x2 x4).getD 2 PV.u).toI, PV.i ((elemAt x2 x4).getD 3 PV.u).toI, PV.i ((elemAt x2 x4).getD 4 PV.u).toI, PV.i ((elemAt x2 x4).getD 5 PV.u).toI, PV.i ((elemAt x2 x4).getD 6 PV.u).toI, PV.i ((elemAt x2 x4).getD 7 PV.u).toI, PV.i ((elemAt x2 x4).getD 8 PV.u).toI, PV.i ((elemAt x2 x4).getD 9 PV.u).toI, PV.i ((elemAt x2 x4).getD 10 PV.u).toI, PV.i ((elemAt x2 x4).getD 11 PV.u).toI, PV.l ((elemAt x2 x4).getD 12 PV.u).toL, PV.i ((elemAt x2 x4).getD 13 PV.u).toI, PV.i ((elemAt x1 x4).getD 0 PV.u).toI, PV.i ((elemAt x1 x4).getD 1 PV.u).toI, PV.i ((elemAt x1 x4).getD 2 PV.u).toI, PV.i ((elemAt x1 x4).getD 3 PV.u).toI, PV.i ((elemAt x1 x4).getD 4 PV.u).toI, PV.i ((elemAt x1 x4).getD 5 PV.u).toI, PV.i ((elemAt x1 x4).getD 6 PV.u).toI, PV.i ((elemAt x1 x4).getD 7 PV.u).toI, PV.i ((elemAt x1 x4).getD 8 PV.u).toI, PV.i ((elemAt x1 x4).getD 9 PV.u).toI, PV.i ((elemAt x1 x4).getD 10 PV.u).toI, PV.i ((elemAt x1 x4).getD 11 PV.u).toI, PV.l ((elemAt x1 x4).getD 12 PV.u).toL, PV.i ((elemAt x1 x4).getD 13 PV.u).toI] []).bind fun r1 =>
  (bif (!(r1.1.getD 0 PV.u).toB) then some ([PV.b false], [])
  else rW f_q6 [] at_q3 (S_q3 x1 x2 x3 ((IntKind.wrap .i64 (x4 + (1 : Int))))))
  else none)
  else none)
  else some ([PV.b true], [])) := by rw [rW_fix]; generalize cW = C; generalize rW = R; kernel_rfl
theorem w_q60 (a1 : List (List PV)) : cW f_q60 [.l a1, (.f f_q174 0)] [] =
  (cW f_q27 [PV.l a1, (PV.f f_q174 0)] []).bind fun r1 =>
  some ([(PV.b (decide ((r1.1.getD 0 PV.u).toI ≥ (0 : Int))))], []) := by rw [cW_fix]; generalize cW = C; generalize rW = R; kernel_rfl
noncomputable def S_q32 (x1 : List UInt8) (x2 x3 : List (List PV)) (x4 : Int) : St := mkSt [(0, .v (.str x1)), (1, .v (.sl 70 x2)), (2, .v (.sl 74 x3)), (7, .v (.int .i64 x4)), (53, .any), (54, .any), (55, .any)] [] 1000 119
noncomputable def at_q32 : List Item := (atLoop Tryz.f105 0)
noncomputable def S_q50 (x1 : List UInt8) (x2 x3 : List (List PV)) (x4 x5 : Int) (x6 x7 : Int) (x8 x9 : Int) (x10 x11 : Int) (x12 x13 : Int) (x14 x15 : Int) (x16 x17 : Int) (x18 : List (List PV)) (x19 : Int) : St := mkSt [(0, .v (.str x1)), (1, .v (.sl 70 x2)), (2, .v (.sl 74 x3)), (7, .v (.int .i64 x4)), (8, .v (.ptr (.n 1001 4 0) 0)), (9, .v (.int .i64 x5)), (53, .any), (54, .any), (55, .any)] [((.n 1001 4 0), .cells 70 [.int .i64 x6, .int .i64 x7, .int .i64 x8, .int .i64 x9, .int .i64 x10, .int .i64 x11, .int .i64 x12, .int .i64 x13, .int .i64 x14, .int .i64 x15, .int .i64 x16, .int .i64 x17, .sl 107 x18, .int .i64 x19])] 2000 119
noncomputable def at_q50 : List Item := (atLoop Tryz.f105 2)
noncomputable def S_q98 (x1 : List UInt8) (x2 : List (List PV)) (x3 : Int) : St := mkSt [(0, .v (.str x1)), (2, .v (.sl 74 x2)), (10, .v (.int .i64 x3))] [] 3000 119
noncomputable def at_q98 : List Item := (atLoop Tryz.f105 4)
theorem w_q34 (a1 : List UInt8) (a2 a3 : List (List PV)) : cW f_q34 [.s a1, .l a2, .l a3] [] =
  (cW f_q118 [(PV.i ((a2.length : Nat) : Int))] []).bind fun r1 =>
  (bif (decide (((List.length a1) + (List.length (r1.1.getD 0 PV.u).toS)) ≤ 1099511627776)) then rW f_q34 [] at_q32 (S_q32 ((a1 ++ (r1.1.getD 0 PV.u).toS)) (a2) (a3) 0)
  else none) := by rw [cW_fix]; generalize cW = C; generalize rW = R; kernel_rfl
theorem w_q32 (x1 : List UInt8) (x2 x3 : List (List PV)) (x4 : Int) : rW f_q34 [] at_q32 (S_q32 x1 x2 x3 x4) =
  (bif (decide (x4 < ((x2.length : Nat) : Int))) then (bif (inB x4 (List.length x2)) then (cW f_q118 [PV.i ((elemAt x2 x4).getD 0 PV.u).toI] []).bind fun r2 =>
  (bif (decide (((List.length x1) + (List.length (r2.1.getD 0 PV.u).toS)) ≤ 1099511627776)) then (bif (((elemAt x2 x4).getD 0 PV.u).toI == (0 : Int)) then (cW f_q72 [(PV.s (x1 ++ (r2.1.getD 0 PV.u).toS)), PV.i ((elemAt x2 x4).getD 1 PV.u).toI, PV.i ((elemAt x2 x4).getD 2 PV.u).toI, PV.i ((elemAt x2 x4).getD 3 PV.u).toI, PV.i ((elemAt x2 x4).getD 4 PV.u).toI] []).bind fun r3 =>
  (bif (decide (((elemAt x2 x4).getD 0 PV.u).toI > (63 : Int))) then (cW f_q176 [PV.i ((elemAt x2 x4).getD 13 PV.u).toI] []).bind fun r4 =>
  (bif (decide (((List.length (r3.1.getD 0 PV.u).toS) + (List.length (r4.1.getD 0 PV.u).toS)) ≤ 1099511627776)) then (cW f_q56 [(PV.s ((r3.1.getD 0 PV.u).toS ++ (r4.1.getD 0 PV.u).toS)), PV.i ((elemAt x2 x4).getD 5 PV.u).toI, PV.i ((elemAt x2 x4).getD 6 PV.u).toI, PV.i ((elemAt x2 x4).getD 7 PV.u).toI, PV.i ((elemAt x2 x4).getD 8 PV.u).toI, PV.i ((elemAt x2 x4).getD 9 PV.u).toI, PV.i ((elemAt x2 x4).getD 10 PV.u).toI] []).bind fun r5 =>
  ((bif (((elemAt x2 x4).getD 0 PV.u).toI == (16 : Int)) then some [PV.b true]
   else some [(PV.b (((elemAt x2 x4).getD 0 PV.u).toI == (18 : Int)))])).bind fun r6 =>
  (bif ((r6.getD 0 PV.u)).toB then (cW f_q56 [PV.s (r5.1.getD 0 PV.u).toS, PV.i ((elemAt x2 x4).getD 5 PV.u).toI, PV.i ((elemAt x2 x4).getD 6 PV.u).toI, PV.i ((elemAt x2 x4).getD 7 PV.u).toI, PV.i ((elemAt x2 x4).getD 8 PV.u).toI, PV.i ((elemAt x2 x4).getD 9 PV.u).toI, PV.i ((elemAt x2 x4).getD 10 PV.u).toI] []).bind fun r7 =>
  (cW f_q118 [(PV.i (IntKind.wrap .i64 ((IntKind.wrap .i64 ((64 : Int) * ((elemAt x2 x4).getD 11 PV.u).toI)) + (((List.length ((elemAt x2 x4).getD 12 PV.u).toL) : Nat) : Int))))] []).bind fun r8 =>
  (bif (decide (((List.length (r7.1.getD 0 PV.u).toS) + (List.length (r8.1.getD 0 PV.u).toS)) ≤ 1099511627776)) then rW f_q34 [] at_q50 (S_q50 (((r7.1.getD 0 PV.u).toS ++ (r8.1.getD 0 PV.u).toS)) x2 x3 x4 0 (((elemAt x2 x4).getD 0 PV.u).toI) (((elemAt x2 x4).getD 1 PV.u).toI) (((elemAt x2 x4).getD 2 PV.u).toI) (((elemAt x2 x4).getD 3 PV.u).toI) (((elemAt x2 x4).getD 4 PV.u).toI) (((elemAt x2 x4).getD 5 PV.u).toI) (((elemAt x2 x4).getD 6 PV.u).toI) (((elemAt x2 x4).getD 7 PV.u).toI) (((elemAt x2 x4).getD 8 PV.u).toI) (((elemAt x2 x4).getD 9 PV.u).toI) (((elemAt x2 x4).getD 10 PV.u).toI) (((elemAt x2 x4).getD 11 PV.u).toI) (((elemAt x2 x4).getD 12 PV.u).toL) (((elemAt x2 x4).getD 13 PV.u).toI))
  else none)
  else rW f_q34 [] at_q32 (S_q32 ((r5.1.getD 0 PV.u).toS) x2 x3 ((IntKind.wrap .i64 (x4 + (1 : Int))))))
  else none)
  else ((bif (((elemAt x2 x4).getD 0 PV.u).toI == (16 : Int)) then some [PV.b true]
   else some [(PV.b (((elemAt x2 x4).getD 0 PV.u).toI == (18 : Int)))])).bind fun r9 =>
  (bif ((r9.getD 0 PV.u)).toB then (cW f_q56 [PV.s (r3.1.getD 0 PV.u).toS, PV.i ((elemAt x2 x4).getD 5 PV.u).toI, PV.i ((elemAt x2 x4).getD 6 PV.u).toI, PV.i ((elemAt x2 x4).getD 7 PV.u).toI, PV.i ((elemAt x2 x4).getD 8 PV.u).toI, PV.i ((elemAt x2 x4).getD 9 PV.u).toI, PV.i ((elemAt x2 x4).getD 10 PV.u).toI] []).bind fun r10 =>
  (cW f_q118 [(PV.i (IntKind.wrap .i64 ((IntKind.wrap .i64 ((64 : Int) * ((elemAt x2 x4).getD 11 PV.u).toI)) + (((List.length ((elemAt x2 x4).getD 12 PV.u).toL) : Nat) : Int))))] []).bind fun r11 =>
  (bif (decide (((List.length (r10.1.getD 0 PV.u).toS) + (List.length (r11.1.getD 0 PV.u).toS)) ≤ 1099511627776)) then rW f_q34 [] at_q50 (S_q50 (((r10.1.getD 0 PV.u).toS ++ (r11.1.getD 0 PV.u).toS)) x2 x3 x4 0 (((elemAt x2 x4).getD 0 PV.u).toI) (((elemAt x2 x4).getD 1 PV.u).toI) (((elemAt x2 x4).getD 2 PV.u).toI) (((elemAt x2 x4).getD 3 PV.u).toI) (((elemAt x2 x4).getD 4 PV.u).toI) (((elemAt x2 x4).getD 5 PV.u).toI) (((elemAt x2 x4).getD 6 PV.u).toI) (((elemAt x2 x4).getD 7 PV.u).toI) (((elemAt x2 x4).getD 8 PV.u).toI) (((elemAt x2 x4).getD 9 PV.u).toI) (((elemAt x2 x4).getD 10 PV.u).toI) (((elemAt x2 x4).getD 11 PV.u).toI) (((elemAt x2 x4).getD 12 PV.u).toL) (((elemAt x2 x4).getD 13 PV.u).toI))
  else none)
  else rW f_q34 [] at_q32 (S_q32 ((r3.1.getD 0 PV.u).toS) x2 x3 ((IntKind.wrap .i64 (x4 + (1 : Int)))))))
  else (bif (decide (((elemAt x2 x4).getD 0 PV.u).toI > (63 : Int))) then (cW f_q176 [PV.i ((elemAt x2 x4).getD 13 PV.u).toI] []).bind fun r12 =>
  (bif (decide (((List.length (x1 ++ (r2.1.getD 0 PV.u).toS)) + (List.length (r12.1.getD 0 PV.u).toS)) ≤ 1099511627776)) then (cW f_q56 [(PV.s ((x1 ++ (r2.1.getD 0 PV.u).toS) ++ (r12.1.getD 0 PV.u).toS)), PV.i ((elemAt x2 x4).getD 5 PV.u).toI, PV.i ((elemAt x2 x4).getD 6 PV.u).toI, PV.i ((elemAt x2 x4).getD 7 PV.u).toI, PV.i ((elemAt x2 x4).getD 8 PV.u).toI, PV.i ((elemAt x2 x4).getD 9 PV.u).toI, PV.i ((elemAt x2 x4).getD 10 PV.u).toI] []).bind fun r13 =>
  ((bif (((elemAt x2 x4).getD 0 PV.u).toI == (16 : Int)) then some [PV.b true]
   else some [(PV.b (((elemAt x2 x4).getD 0 PV.u).toI == (18 : Int)))])).bind fun r14 =>
  (bif ((r14.getD 0 PV.u)).toB then (cW f_q56 [PV.s (r13.1.getD 0 PV.u).toS, PV.i ((elemAt x2 x4).getD 5 PV.u).toI, PV.i ((elemAt x2 x4).getD 6 PV.u).toI, PV.i ((elemAt x2 x4).getD 7 PV.u).toI, PV.i ((elemAt x2 x4).getD 8 PV.u).toI, PV.i ((elemAt x2 x4).getD 9 PV.u).toI, PV.i ((elemAt x2 x4).getD 10 PV.u).toI] []).bind fun r15 =>
  (cW f_q118 [(PV.i (IntKind.wrap .i64 ((IntKind.wrap .i64 ((64 : Int) * ((elemAt x2 x4).getD 11 PV.u).toI)) + (((List.length ((elemAt x2 x4).getD 12 PV.u).toL) : Nat) : Int))))] []).bind fun r16 =>
  (bif (decide (((List.length (r15.1.getD 0 PV.u).toS) + (List.length (r16.1.getD 0 PV.u).toS)) ≤ 1099511627776)) then rW f_q34 [] at_q50 (S_q50 (((r15.1.getD 0 PV.u).toS ++ (r16.1.getD 0 PV.u).toS)) x2 x3 x4 0 (((elemAt x2 x4).getD 0 PV.u).toI) (((elemAt x2 x4).getD 1 PV.u).toI) (((elemAt x2 x4).getD 2 PV.u).toI) (((elemAt x2 x4).getD 3 PV.u).toI) (((elemAt x2 x4).getD 4 PV.u).toI) (((elemAt x2 x4).getD 5 PV.u).toI) (((elemAt x2 x4).getD 6 PV.u).toI) (((elemAt x2 x4).getD 7 PV.u).toI) (((elemAt x2 x4).getD 8 PV.u).toI) (((elemAt x2 x4).getD 9 PV.u).toI) (((elemAt x2 x4).getD 10 PV.u).toI) (((elemAt x2 x4).getD 11 PV.u).toI) (((elemAt x2 x4).getD 12 PV.u).toL) (((elemAt x2 x4).getD 13 PV.u).toI))
  else none)
  else rW f_q34 [] at_q32 (S_q32 ((r13.1.getD 0 PV.u).toS) x2 x3 ((IntKind.wrap .i64 (x4 + (1 : Int))))))
  else none)
  else ((bif (((elemAt x2 x4).getD 0 PV.u).toI == (16 : Int)) then some [PV.b true]
   else some [(PV.b (((elemAt x2 x4).getD 0 PV.u).toI == (18 : Int)))])).bind fun r17 =>
  (bif ((r17.getD 0 PV.u)).toB then (cW f_q56 [(PV.s (x1 ++ (r2.1.getD 0 PV.u).toS)), PV.i ((elemAt x2 x4).getD 5 PV.u).toI, PV.i ((elemAt x2 x4).getD 6 PV.u).toI, PV.i ((elemAt x2 x4).getD 7 PV.u).toI, PV.i ((elemAt x2 x4).getD 8 PV.u).toI, PV.i ((elemAt x2 x4).getD 9 PV.u).toI, PV.i ((elemAt x2 x4).getD 10 PV.u).toI] []).bind fun r18 =>
  (cW f_q118 [(PV.i (IntKind.wrap .i64 ((IntKind.wrap .i64 ((64 : Int) * ((elemAt x2 x4).getD 11 PV.u).toI)) + (((List.length ((elemAt x2 x4).getD 12 PV.u).toL) : Nat) : Int))))] []).bind fun r19 =>
  (bif (decide (((List.length (r18.1.getD 0 PV.u).toS) + (List.length (r19.1.getD 0 PV.u).toS)) ≤ 1099511627776)) then rW f_q34 [] at_q50 (S_q50 (((r18.1.getD 0 PV.u).toS ++ (r19.1.getD 0 PV.u).toS)) x2 x3 x4 0 (((elemAt x2 x4).getD 0 PV.u).toI) (((elemAt x2 x4).getD 1 PV.u).toI) (((elemAt x2 x4).getD 2 PV.u).toI) (((elemAt x2 x4).getD 3 PV.u).toI) (((elemAt x2 x4).getD 4 PV.u).toI) (((elemAt x2 x4).getD 5 PV.u).toI) (((elemAt x2 x4).getD 6 PV.u).toI) (((elemAt x2 x4).getD 7 PV.u).toI) (((elemAt x2 x4).getD 8 PV.u).toI) (((elemAt x2 x4).getD 9 PV.u).toI) (((elemAt x2 x4).getD 10 PV.u).toI) (((elemAt x2 x4).getD 11 PV.u).toI) (((elemAt x2 x4).getD 12 PV.u).toL) (((elemAt x2 x4).getD 13 PV.u).toI))
  else none)
  else rW f_q34 [] at_q32 (S_q32 ((x1 ++ (r2.1.getD 0 PV.u).toS)) x2 x3 ((IntKind.wrap .i64 (x4 + (1 : Int))))))))
  else none)
  else none)
  else (cW f_q118 [(PV.i ((x3.length : Nat) : Int))] []).bind fun r20 =>
  (bif (decide (((List.length x1) + (List.length (r20.1.getD 0 PV.u).toS)) ≤ 1099511627776)) then rW f_q34 [] at_q98 (S_q98 ((x1 ++ (r20.1.getD 0 PV.u).toS)) x3 0)
  else none)) := by rw [rW_fix]; generalize cW = C; generalize rW = R; kernel_rfl
theorem w_q50 (x1 : List UInt8) (x2 x3 : List (List PV)) (x4 x5 : Int) (x6 x7 : Int) (x8 x9 : Int) (x10 x11 : Int) (x12 x13 : Int) (x14 x15 : Int) (x16 x17 : Int) (x18 : List (List PV)) (x19 : Int) : rW f_q34 [] at_q50 (S_q50 x1 x2 x3 x4 x5 x6 x7 x8 x9 x10 x11 x12 x13 x14 x15 x16 x17 x18 x19) =
  (bif (decide (x5 < ((x18.length : Nat) : Int))) then (bif (inB x5 (List.length x18)) then (cW f_q118 [PV.i ((elemAt x18 x5).getD 0 PV.u).toI] []).bind fun r21 =>
  (bif (decide (((List.length x1) + (List.length (r21.1.getD 0 PV.u).toS)) ≤ 1099511627776)) then (bif (inB x5 (List.length x18)) then (cW f_q72 [(PV.s (x1 ++ (r21.1.getD 0 PV.u).toS)), PV.i ((elemAt x18 x5).getD 1 PV.u).toI, PV.i ((elemAt x18 x5).getD 2 PV.u).toI, PV.i ((elemAt x18 x5).getD 3 PV.u).toI, PV.i ((elemAt x18 x5).getD 4 PV.u).toI] []).bind fun r22 =>
  rW f_q34 [] at_q50 (S_q50 ((r22.1.getD 0 PV.u).toS) x2 x3 x4 ((IntKind.wrap .i64 (x5 + (1 : Int)))) x6 x7 x8 x9 x10 x11 x12 x13 x14 x15 x16 x17 x18 x19)
  else none)
  else none)
  else none)
  else rW f_q34 [] at_q32 (S_q32 x1 x2 x3 ((IntKind.wrap .i64 (x4 + (1 : Int)))))) := by rw [rW_fix]; generalize cW = C; generalize rW = R; kernel_rfl
theorem w_q98 (x1 : List UInt8) (x2 : List (List PV)) (x3 : Int) : rW f_q34 [] at_q98 (S_q98 x1 x2 x3) =
  (bif (decide (x3 < ((x2.length : Nat) : Int))) then (bif (inB x3 (List.length x2)) then (cW f_q176 [PV.i ((elemAt x2 x3).getD 0 PV.u).toI] []).bind fun r23 =>
  (bif (decide (((List.length x1) + (List.length (r23.1.getD 0 PV.u).toS)) ≤ 1099511627776)) then (bif (inB x3 (List.length x2)) then (cW f_q72 [(PV.s (x1 ++ (r23.1.getD 0 PV.u).toS)), PV.i ((elemAt x2 x3).getD 1 PV.u).toI, PV.i ((elemAt x2 x3).getD 2 PV.u).toI, PV.i ((elemAt x2 x3).getD 3 PV.u).toI, PV.i ((elemAt x2 x3).getD 4 PV.u).toI] []).bind fun r24 =>
  rW f_q34 [] at_q98 (S_q98 ((r24.1.getD 0 PV.u).toS) x2 ((IntKind.wrap .i64 (x3 + (1 : Int)))))
  else none)
  else none)
  else none)
  else some ([PV.s x1], [])) := by rw [rW_fix]; generalize cW = C; generalize rW = R; kernel_rfl
theorem w_q184 (a1 a2 : Int) (a3 a4 : Int) (a5 a6 : Int) (a7 a8 : Int) (a9 a10 : Int) (a11 a12 : Int) (a13 : List (List PV)) (a14 a15 : Int) (a16 a17 : Int) (a18 a19 : Int) (a20 a21 : Int) (a22 a23 : Int) (a24 a25 a26 : Int) (a27 : List (List PV)) (a28 : Int) : cW f_q184 [.i a1, .i a2, .i a3, .i a4, .i a5, .i a6, .i a7, .i a8, .i a9, .i a10, .i a11, .i a12, .l a13, .i a14, .i a15, .i a16, .i a17, .i a18, .i a19, .i a20, .i a21, .i a22, .i a23, .i a24, .i a25, .i a26, .l a27, .i a28] [] =
  ((bif (a1 == a15) then (bif ((a2 == a16) && ((a3 == a17) && ((a4 == a18) && (a5 == a19)))) then (bif ((a6 == a20) && ((a7 == a21) && ((a8 == a22) && ((a9 == a23) && ((a10 == a24) && (a11 == a25)))))) then (bif (a12 == a26) then (bif (a14 == a28) then (cW f_q30 [PV.l a13, PV.l a27] []).bind fun r1 =>
   some [PV.b (r1.1.getD 0 PV.u).toB]
   else some [PV.b false])
   else some [PV.b false])
   else some [PV.b false])
   else some [PV.b false])
   else some [PV.b false])).bind fun r2 =>
  some ([PV.b ((r2.getD 0 PV.u)).toB], []) := by rw [cW_fix]; generalize cW = C; generalize rW = R; kernel_rfl
noncomputable def S_q10 (x1 : List (List PV)) (x2 x3 : Int) : St := mkSt [(0, .v (.sl 74 x1)), (1, .v (.fn 94 [])), (7, .v (.int .i64 x2)), (8, .v (.int .i64 x3))] [] 1000 19
noncomputable def at_q10 : List Item := (atLoop Tryz.f145 0)
theorem w_q27 (a1 : List (List PV)) : cW f_q27 [.l a1, (.f f_q174 0)] [] =
  rW f_q27 [] at_q10 (S_q10 (a1) (((a1.length : Nat) : Int)) 0) := by rw [cW_fix]; generalize cW = C; generalize rW = R; kernel_rfl
theorem w_q10 (x1 : List (List PV)) (x2 x3 : Int) : rW f_q27 [] at_q10 (S_q10 x1 x2 x3) =
  (bif (decide (x3 < x2)) then (bif (inB x3 (List.length x1)) then (cW f_q174 [PV.i ((elemAt x1 x3).getD 0 PV.u).toI, PV.i ((elemAt x1 x3).getD 1 PV.u).toI, PV.i ((elemAt x1 x3).getD 2 PV.u).toI, PV.i ((elemAt x1 x3).getD 3 PV.u).toI, PV.i ((elemAt x1 x3).getD 4 PV.u).toI] []).bind fun r1 =>
  (bif (r1.1.getD 0 PV.u).toB then some ([PV.i x3], [])
  else rW f_q27 [] at_q10 (S_q10 x1 x2 ((IntKind.wrap .i64 (x3 + (1 : Int))))))
  else none)
  else some ([(PV.i (-1 : Int))], [])) := by rw [rW_fix]; generalize cW = C; generalize rW = R; kernel_rfl
theorem w_q118 (a1 : Int) : cW f_q118 [.i a1] [] =
  some ([(PV.s (toBytes (List.set [[PV.i 0]] 0 [(PV.i (IntKind.wrap .u8 a1))])))], []) := by rw [cW_fix]; generalize cW = C; generalize rW = R; kernel_rfl
theorem w_q100 (p0_1 : List UInt8) (p0_2 p0_3 : Int) : cW f_q100 [.u] [(t_q12, [.s p0_1, .i p0_2, .i p0_3])] =
  (bif (p0_3 != (0 : Int)) then some ([PV.i 0, PV.i 0, PV.i 0, PV.i 0], [(t_q12, [PV.s p0_1, PV.i p0_2, PV.i p0_3])])
  else (cW f_q200 [PV.s p0_1, PV.i p0_2] []).bind fun r1 =>
  some ([PV.i (r1.1.getD 0 PV.u).toI, PV.i (r1.1.getD 1 PV.u).toI, PV.i (r1.1.getD 2 PV.u).toI, PV.i (r1.1.getD 3 PV.u).toI], [(t_q12, [PV.s (r1.1.getD 4 PV.u).toS, PV.i (r1.1.getD 5 PV.u).toI, PV.i (r1.1.getD 6 PV.u).toI])])) := by rw [cW_fix]; generalize cW = C; generalize rW = R; kernel_rfl
/- celluloid/celluloidref08.Matrix -/
noncomputable def S_q57 (x1 x2 : Int) (x3 x4 : Int) (x5 x6 : Int) (x7 x8 : Int) (x9 x10 : Int) (x11 x12 x13 : Int) (x14 : List (List PV)) (x15 : Int) : St := mkSt [(1, .v (.ptr (.n 1 0 0) 0)), (3, .v (.int .i64 x1)), (86, .any), (87, .any), (90, .any), (91, .any), (92, .any), (93, .any), (94, .any), (95, .any), (96, .any), (97, .any), (98, .any), (99, .any), (100, .any), (101, .any), (102, .any), (105, .any), (106, .any), (107, .any), (108, .any), (109, .any), (110, .any), (111, .any), (112, .any), (119, .any), (120, .any), (121, .any), (124, .any), (125, .any), (126, .any), (129, .any), (130, .any), (131, .any), (134, .any), (135, .any), (136, .any), (137, .any), (140, .any), (141, .any), (142, .any), (143, .any), (146, .any), (147, .any), (148, .any)] [((.n 1 0 0), .cells 70 [.int .i64 x2, .int .i64 x3, .int .i64 x4, .int .i64 x5, .int .i64 x6, .int .i64 x7, .int .i64 x8, .int .i64 x9, .int .i64 x10, .int .i64 x11, .int .i64 x12, .int .i64 x13, .sl 107 x14, .int .i64 x15])] 1000 150
noncomputable def at_q57 : List Item := (atLoop Tryz.f86 1)
theorem w_q120 (a1 a2 : Int) (a3 a4 : Int) (a5 a6 : Int) (a7 a8 : Int) (a9 a10 : Int) (a11 a12 : Int) (a13 : List (List PV)) (a14 : Int) : cW f_q120 [.i a1, .i a2, .i a3, .i a4, .i a5, .i a6, .i a7, .i a8, .i a9, .i a10, .i a11, .i a12, .l a13, .i a14] [] =
  (bif (a1 == (0 : Int)) then ((bif ((a6 == (0 : Int)) && ((a7 == (0 : Int)) && ((a8 == (0 : Int)) && ((a9 == (0 : Int)) && ((a10 == (0 : Int)) && (a11 == (0 : Int))))))) then (bif (a12 == (0 : Int)) then (bif (a14 == (0 : Int)) then (bif (((a13.length : Nat) : Int) == (0 : Int)) then (cW f_q101 [PV.i a2, PV.i a3, PV.i a4, PV.i a5] []).bind fun r1 =>
   some [PV.b (r1.1.getD 0 PV.u).toB]
   else some [PV.b false])
   else some [PV.b false])
   else some [PV.b false])
   else some [PV.b false])).bind fun r2 =>
  some ([PV.b ((r2.getD 0 PV.u)).toB], [])
  else (bif (a1 == (64 : Int)) then ((bif ((a2 == (0 : Int)) && ((a3 == (0 : Int)) && ((a4 == (0 : Int)) && (a5 == (0 : Int))))) then (bif (a12 == (0 : Int)) then (bif (((a13.length : Nat) : Int) == (0 : Int)) then (bif (decide (a14 ≥ (0 : Int))) then (bif (decide (a14 < (65536 : Int))) then (cW f_q144 [PV.i a6, PV.i a7, PV.i a8, PV.i a9, PV.i a10, PV.i a11] []).bind fun r3 =>
   some [PV.b (r3.1.getD 0 PV.u).toB]
   else some [PV.b false])
   else some [PV.b false])
   else some [PV.b false])
   else some [PV.b false])
   else some [PV.b false])).bind fun r4 =>
  some ([PV.b ((r4.getD 0 PV.u)).toB], [])
  else (bif (a1 == (65 : Int)) then ((bif ((a2 == (0 : Int)) && ((a3 == (0 : Int)) && ((a4 == (0 : Int)) && (a5 == (0 : Int))))) then (bif (a12 == (0 : Int)) then (bif (((a13.length : Nat) : Int) == (0 : Int)) then (bif (decide (a14 ≥ (0 : Int))) then (bif (decide (a14 < (65536 : Int))) then (cW f_q144 [PV.i a6, PV.i a7, PV.i a8, PV.i a9, PV.i a10, PV.i a11] []).bind fun r5 =>
   some [PV.b (r5.1.getD 0 PV.u).toB]
   else some [PV.b false])
   else some [PV.b false])
   else some [PV.b false])
   else some [PV.b false])
   else some [PV.b false])).bind fun r6 =>
  some ([PV.b ((r6.getD 0 PV.u)).toB], [])
  else (bif (a1 == (16 : Int)) then rW f_q120 [] at_q57 (S_q57 0 (a1) (a2) (a3) (a4) (a5) (a6) (a7) (a8) (a9) (a10) (a11) (a12) (a13) (a14))
  else (bif (a1 == (18 : Int)) then rW f_q120 [] at_q57 (S_q57 0 (a1) (a2) (a3) (a4) (a5) (a6) (a7) (a8) (a9) (a10) (a11) (a12) (a13) (a14))
  else some ([PV.b false], [])))))) := by rw [cW_fix]; generalize cW = C; generalize rW = R; kernel_rfl
theorem w_q57 (x1 x2 : Int) (x3 x4 : Int) (x5 x6 : Int) (x7 x8 : Int) (x9 x10 : Int) (x11 x12 x13 : Int) (x14 : List (List PV)) (x15 : Int) : rW f_q120 [] at_q57 (S_q57 x1 x2 x3 x4 x5 x6 x7 x8 x9 x10 x11 x12 x13 x14 x15) =
  (bif (decide (x1 < ((x14.length : Nat) : Int))) then (bif (inB x1 (List.length x14)) then ((bif (decide (((elemAt x14 x1).getD 0 PV.u).toI < (0 : Int))) then some [PV.b true]
   else (bif (decide (((elemAt x14 x1).getD 0 PV.u).toI > (255 : Int))) then some [PV.b true]
   else (bif (decide (x1 > (0 : Int))) then (bif (inB (IntKind.wrap .i64 (x1 - (1 : Int))) (List.length x14)) then (bif (decide (((elemAt x14 x1).getD 0 PV.u).toI < (((elemAt x14 (IntKind.wrap .i64 (x1 - (1 : Int)))).getD 0 PV.u)).toI)) then some [PV.b true]
   else (bif (inB x1 (List.length x14)) then (cW f_q101 [PV.i ((elemAt x14 x1).getD 1 PV.u).toI, PV.i ((elemAt x14 x1).getD 2 PV.u).toI, PV.i ((elemAt x14 x1).getD 3 PV.u).toI, PV.i ((elemAt x14 x1).getD 4 PV.u).toI] []).bind fun r8 =>
   some [(PV.b (!(r8.1.getD 0 PV.u).toB))]
   else none))
   else none)
   else (bif (inB x1 (List.length x14)) then (cW f_q101 [PV.i ((elemAt x14 x1).getD 1 PV.u).toI, PV.i ((elemAt x14 x1).getD 2 PV.u).toI, PV.i ((elemAt x14 x1).getD 3 PV.u).toI, PV.i ((elemAt x14 x1).getD 4 PV.u).toI] []).bind fun r7 =>
   some [(PV.b (!(r7.1.getD 0 PV.u).toB))]
   else none))))).bind fun r9 =>
  (bif ((r9.getD 0 PV.u)).toB then some ([PV.b false], [])
  else rW f_q120 [] at_q57 (S_q57 ((IntKind.wrap .i64 (x1 + (1 : Int)))) x2 x3 x4 x5 x6 x7 x8 x9 x10 x11 x12 x13 x14 x15))
  else none)
  else ((bif ((x3 == (0 : Int)) && ((x4 == (0 : Int)) && ((x5 == (0 : Int)) && (x6 == (0 : Int))))) then (bif (x15 == (0 : Int)) then (bif (decide (x13 ≥ (0 : Int))) then (bif (decide (x13 < (3 : Int))) then (bif (decide (((x14.length : Nat) : Int) > (0 : Int))) then (bif (decide (((x14.length : Nat) : Int) < (9 : Int))) then (cW f_q144 [PV.i x7, PV.i x8, PV.i x9, PV.i x10, PV.i x11, PV.i x12] []).bind fun r10 =>
   some [PV.b (r10.1.getD 0 PV.u).toB]
   else some [PV.b false])
   else some [PV.b false])
   else some [PV.b false])
   else some [PV.b false])
   else some [PV.b false])
   else some [PV.b false])).bind fun r11 =>
  some ([PV.b ((r11.getD 0 PV.u)).toB], [])) := by rw [rW_fix]; generalize cW = C; generalize rW = R; kernel_rfl
theorem w_q69 (a1 : List (List PV)) : cW f_q69 [.l a1, (.f f_q173 0)] [] =
  (cW f_q33 [PV.l a1, (PV.f f_q173 0)] []).bind fun r1 =>
  some ([(PV.b (decide ((r1.1.getD 0 PV.u).toI ≥ (0 : Int))))], []) := by rw [cW_fix]; generalize cW = C; generalize rW = R; kernel_rfl
theorem w_q174 (a1 a2 : Int) (a3 a4 a5 : Int) : cW f_q174 [.i a1, .i a2, .i a3, .i a4, .i a5] [] =
  (cW f_q199 [PV.i a1, PV.i a2, PV.i a3, PV.i a4, PV.i a5] []).bind fun r1 =>
  some ([(PV.b (!(r1.1.getD 0 PV.u).toB))], []) := by rw [cW_fix]; generalize cW = C; generalize rW = R; kernel_rfl
theorem w_q189 (a1 : Int) : cW f_q189 [.i a1] [] =
  ((bif (a1 == (64 : Int)) then some [PV.b true]
   else some [(PV.b (a1 == (65 : Int)))])).bind fun r1 =>
  some ([PV.b ((r1.getD 0 PV.u)).toB], []) := by rw [cW_fix]; generalize cW = C; generalize rW = R; kernel_rfl
theorem w_q176 (a1 : Int) : cW f_q176 [.i a1] [] =
  some ([(PV.s (toBytes (List.set (List.set [[PV.i 0], [PV.i 0]] 0 [(PV.i (IntKind.wrap .u8 (Int.tmod a1 (256 : Int))))]) 1 [(PV.i (IntKind.wrap .u8 (IntKind.wrap .i64 (Int.tdiv a1 (256 : Int)))))])))], []) := by rw [cW_fix]; generalize cW = C; generalize rW = R; kernel_rfl
theorem w_q187 (a1 : List UInt8) (a2 a3 : Int) : cW f_q187 [.s a1, .i a2, .i a3] [] =
  (cW f_q180 [PV.s a1, PV.i a2, (PV.s (toBytes (List.set [[PV.i 0]] 0 [(PV.i (IntKind.wrap .u8 a3))])))] []).bind fun r1 =>
  some ([PV.s (r1.1.getD 0 PV.u).toS, PV.i (r1.1.getD 1 PV.u).toI], []) := by rw [cW_fix]; generalize cW = C; generalize rW = R; kernel_rfl
noncomputable def S_q14 (x1 x2 : List (List PV)) (x3 x4 : Int) : St := mkSt [(0, .v (.sl 74 x1)), (1, .v (.sl 74 x2)), (12, .v (.int .i64 x3)), (13, .v (.int .i64 x4))] [] 1000 26
noncomputable def at_q14 : List Item := (atLoop Tryz.f174 0)
theorem w_q24 (a1 a2 : List (List PV)) : cW f_q24 [.l a1, .l a2] [] =
  (bif (((a1.length : Nat) : Int) != ((a2.length : Nat) : Int)) then some ([PV.b false], [])
  else rW f_q24 [] at_q14 (S_q14 (a1) (a2) (((a1.length : Nat) : Int)) 0)) := by rw [cW_fix]; generalize cW = C; generalize rW = R; kernel_rfl
theorem w_q14 (x1 x2 : List (List PV)) (x3 x4 : Int) : rW f_q24 [] at_q14 (S_q14 x1 x2 x3 x4) =
  (bif (decide (x4 < x3)) then (bif (inB x4 (List.length x1)) then (bif (inB x4 (List.length x2)) then (bif (!((((elemAt x1 x4).getD 0 PV.u).toI == ((elemAt x2 x4).getD 0 PV.u).toI) && ((((elemAt x1 x4).getD 1 PV.u).toI == ((elemAt x2 x4).getD 1 PV.u).toI) && ((((elemAt x1 x4).getD 2 PV.u).toI == ((elemAt x2 x4).getD 2 PV.u).toI) && ((((elemAt x1 x4).getD 3 PV.u).toI == ((elemAt x2 x4).getD 3 PV.u).toI) && (((elemAt x1 x4).getD 4 PV.u).toI == ((elemAt x2 x4).getD 4 PV.u).toI)))))) then some ([PV.b false], [])
  else rW f_q24 [] at_q14 (S_q14 x1 x2 x3 ((IntKind.wrap .i64 (x4 + (1 : Int))))))
  else none)
  else none)
  else some ([PV.b true], [])) := by rw [rW_fix]; generalize cW = C; generalize rW = R; kernel_rfl
theorem w_q138 (p0_1 : List UInt8) (p0_2 p0_3 : Int) : cW f_q138 [.u] [(t_q12, [.s p0_1, .i p0_2, .i p0_3])] =
  (cW f_q68 [PV.u, PV.i 1] [(t_q12, [PV.s p0_1, PV.i p0_2, PV.i p0_3])]).bind fun r1 =>
  (bif (decide ((r1.1.getD 0 PV.u).toI > (15 : Int))) then (cW f_q105 [PV.u, PV.i 7] [(t_q12, [PV.s ((r1.2.getD 0 (0, [])).2.getD 0 PV.u).toS, PV.i ((r1.2.getD 0 (0, [])).2.getD 1 PV.u).toI, PV.i ((r1.2.getD 0 (0, [])).2.getD 2 PV.u).toI])]).bind fun r2 =>
  some ([PV.i 0], [(t_q12, [PV.s ((r2.2.getD 0 (0, [])).2.getD 0 PV.u).toS, PV.i ((r2.2.getD 0 (0, [])).2.getD 1 PV.u).toI, PV.i ((r2.2.getD 0 (0, [])).2.getD 2 PV.u).toI])])
  else some ([PV.i (r1.1.getD 0 PV.u).toI], [(t_q12, [PV.s ((r1.2.getD 0 (0, [])).2.getD 0 PV.u).toS, PV.i ((r1.2.getD 0 (0, [])).2.getD 1 PV.u).toI, PV.i ((r1.2.getD 0 (0, [])).2.getD 2 PV.u).toI])])) := by rw [cW_fix]; generalize cW = C; generalize rW = R; kernel_rfl
theorem w_q105 (a2 : Int) (p0_1 : List UInt8) (p0_2 p0_3 : Int) : cW f_q105 [.u, .i a2] [(t_q12, [.s p0_1, .i p0_2, .i p0_3])] =
  (bif (p0_3 == (0 : Int)) then some ([], [(t_q12, [PV.s p0_1, PV.i p0_2, PV.i a2])])
  else some ([], [(t_q12, [PV.s p0_1, PV.i p0_2, PV.i p0_3])])) := by rw [cW_fix]; generalize cW = C; generalize rW = R; kernel_rfl
end Go.AI
