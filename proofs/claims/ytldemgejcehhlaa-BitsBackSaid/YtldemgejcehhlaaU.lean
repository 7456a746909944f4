/- Equations of the program's functions: each says what the interpreter answers for a call, by the answers one level below. -/
import Derived.Test.YtldemgejcehhlaaAiDefs
import Derived.Test.YtldemgejcehhlaaProg
import Derived.KernelRfl
set_option linter.unusedVariables false
set_option maxRecDepth 100000
namespace Go.AI
open Go.Proofs
def lookA : List (Nat × Nat × Keep) → Nat → Nat → Option Keep
  | [], _, _ => none
  | (f, k, kp) :: l, f', k' => bif Nat.beq f f' && Nat.beq k k' then some kp else lookA l f' k'
def loopTab : List (Nat × Nat × Keep) := [(5, 0, { slots := [(0, .pl 3), (3, .any), (4, .any), (11, .pl 3), (12, .any), (13, .any), (34, .any), (35, .any), (36, .any), (37, .any), (40, .any)], boxes := [], r := 1000 }),
  (10, 0, { slots := [(0, .pl 52), (3, .any), (20, .pl 52), (21, .any), (22, .any), (30, .any), (31, .any), (32, .any), (53, .any), (54, .any), (55, .any), (56, .any), (72, .any), (73, .any), (76, .any)], boxes := [], r := 1000 }),
  (12, 0, { slots := [(0, .pl 79), (3, .any), (4, .row 79), (5, .any), (18, .any), (19, .any), (144, .any), (145, .any), (146, .any), (147, .any), (159, .any)], boxes := [(.n 2 0 0)], r := 1000 }),
  (12, 3, { slots := [(3, .any), (8, .any), (97, .row 79), (98, .any), (99, .any), (144, .any), (145, .any), (146, .any), (147, .any), (159, .any)], boxes := [(.n 2 0 0), (.n 1001 3 0)], r := 2000 }),
  (14, 1, { slots := [(1, .any), (2, .any), (5, .any), (7, .any), (8, .any)], boxes := [(.n 1 0 0), (.n 1 2 0)], r := 1000 }),
  (16, 0, { slots := [(1, .any), (2, .any), (5, .any), (7, .any), (8, .any)], boxes := [(.n 1 0 0), (.n 1 2 0)], r := 1000 }),
  (20, 0, { slots := [(1, .any), (2, .any), (6, .any), (7, .any), (8, .any), (9, .any)], boxes := [(.n 1 0 0), (.n 1 1 0)], r := 1000 }),
  (21, 0, { slots := [(0, .any), (3, .any), (7, .any), (8, .any), (11, .any), (12, .any), (13, .any), (14, .any), (15, .any), (16, .any), (17, .any), (18, .any), (19, .any), (20, .any), (21, .any), (22, .any), (23, .any), (24, .any), (25, .any), (26, .any), (27, .any), (28, .any), (29, .any), (30, .any), (31, .any), (32, .any), (35, .any), (36, .any), (37, .any), (38, .any), (39, .any), (40, .any), (41, .any), (42, .any), (43, .any), (44, .any), (45, .any)], boxes := [], r := 1000 }),
  (22, 0, { slots := [(3, .any), (6, .pl 3), (7, .any), (8, .any)], boxes := [], r := 1000 }),
  (23, 0, { slots := [(3, .any), (6, .pl 3), (7, .any), (8, .any)], boxes := [], r := 1000 }),
  (24, 0, { slots := [(1, .any), (3, .any), (6, .any), (8, .row 5), (9, .any)], boxes := [(.n 1 0 0), (.n 1 1 0)], r := 1000 }),
  (26, 0, { slots := [(1, .any), (3, .any), (6, .any), (8, .row 5), (31, .any), (32, .any)], boxes := [(.n 1 0 0), (.n 1 1 0)], r := 1000 }),
  (27, 0, { slots := [(1, .any), (3, .any), (6, .any), (8, .any)], boxes := [(.n 1 0 0), (.n 1 1 0)], r := 1000 }),
  (30, 0, { slots := [(1, .any), (2, .any), (6, .any), (8, .any), (9, .any)], boxes := [(.n 1 1 0)], r := 1000 }),
  (37, 0, { slots := [(0, .pl 52), (5, .pl 52), (6, .any), (7, .any)], boxes := [], r := 1000 }),
  (38, 0, { slots := [(4, .any), (12, .pl 52), (13, .any), (14, .any), (26, .any), (27, .any), (28, .any)], boxes := [(.n 3 0 0)], r := 1000 }),
  (39, 0, { slots := [(0, .pl 58), (4, .any), (5, .any), (19, .any), (20, .any), (21, .any), (22, .any), (23, .any), (24, .any)], boxes := [], r := 1000 }),
  (40, 0, { slots := [(3, .row 58), (6, .pl 52), (7, .any), (8, .any)], boxes := [], r := 1000 }),
  (41, 0, { slots := [(0, .any), (5, .row 52), (24, .any), (25, .any), (26, .any)], boxes := [], r := 1000 }),
  (42, 0, { slots := [(0, .pl 58), (1, .pl 58), (5, .any)], boxes := [], r := 1000 }),
  (44, 0, { slots := [(5, .any), (7, .any), (8, .any), (9, .any), (10, .any), (11, .any)], boxes := [(.n 1 2 0), (.n 3 7 0)], r := 1000 }),
  (46, 0, { slots := [(5, .any), (7, .any), (8, .any), (9, .any), (10, .any), (11, .any)], boxes := [(.n 1 2 0), (.n 3 7 0)], r := 1000 }),
  (49, 0, { slots := [(5, .any), (6, .any)], boxes := [], r := 1000 }),
  (50, 0, { slots := [(0, .any), (3, .any), (4, .any)], boxes := [], r := 1000 })]
def cutTab : List (Nat × Nat × Keep) := []
def ann : Ann := { loop := lookA loopTab, cut := lookA cutTab, ownT := fun _ => false, ownA := fun _ => false, ownR := fun _ => false, wrT := fun _ _ => false }
noncomputable abbrev call (k : Nat) := callAt Try.prog ann k
noncomputable abbrev run (k : Nat) := runAt Try.prog ann k
def f_celluloidlaw02_BitsSplit : Nat := 3
def f_celluloidlaw02_BitsReads : Nat := 4
def f_celluloidlaw02_BitsWidths : Nat := 5
def f_celluloidlaw02_BitsPuts : Nat := 6
def f_celluloidlaw12_TagPuts : Nat := 7
def f_celluloidlaw12_TagJoins : Nat := 8
def f_celluloidlaw12_TagAgain : Nat := 9
def f_celluloidlaw12_TagSizes : Nat := 10
def f_celluloidlaw02_BitsTakes : Nat := 11
def f_celluloidlaw02_BitsBack : Nat := 12
def f_celluloidlaw02_awake : Nat := 13
def f_bits_Plain : Nat := 14
def f_bits_Signed : Nat := 15
def f_celluloidref02_Plain : Nat := 16
def f_celluloidlaw02_rref : Nat := 17
def f_celluloidref02_Signed : Nat := 18
def f_bits_Align : Nat := 19
def f_celluloidref02_Align : Nat := 20
def f_celluloidref02_Width : Nat := 21
def f_bits_Width : Nat := 22
def f_bits_PlainWidth : Nat := 23
def f_bits_PutPlain : Nat := 24
def f_bits_PutSigned : Nat := 25
def f_bits_PutLittle : Nat := 26
def f_celluloidref02_PutPlain : Nat := 27
def f_celluloidlaw02_wref : Nat := 28
def f_celluloidref02_PutSigned : Nat := 29
def f_celluloidref02_PutLittle : Nat := 30
def f_bits_PutBytes : Nat := 31
def f_bits_PutAlign : Nat := 32
def f_celluloidlaw12_awake : Nat := 33
def f_tag_Put : Nat := 34
def f_tag_Take : Nat := 35
def f_celluloidref12_Put : Nat := 36
def f_celluloidlaw12_few : Nat := 37
def f_tag_Join : Nat := 38
def f_celluloidref12_Join : Nat := 39
def f_celluloidlaw12_refs : Nat := 40
def f_tag_Split : Nat := 41
def f_celluloidref12_Same : Nat := 42
def f_bits_Bytes : Nat := 43
def f_bits_Little : Nat := 44
def f_celluloidref02_Bytes : Nat := 45
def f_celluloidref02_Little : Nat := 46
def f_bits_right : Nat := 47
def f_celluloidref02_Right : Nat := 48
def f_celluloidref02_Bit : Nat := 49
def f_celluloidref02_Power : Nat := 50
def f_math_bits_Len : Nat := 51
def f_celluloidref02_put : Nat := 52
def f_celluloidref12_one : Nat := 53
def f___strings_Builder__WriteString : Nat := 54
def f___strings_Builder__String : Nat := 55
def f_math_bits_Len32 : Nat := 56
def f_math_bits_Len64 : Nat := 57
def f___strings_Builder__copyCheck : Nat := 58
def t_strings_Builder : Nat := 90
/- celluloid/celluloidlaw02.BitsSplit -/
theorem u_celluloidlaw02_BitsSplit (k : Nat) (a1 : List UInt8) (a2 : Int) (a3 : Int) (a4 : Int) : call (k + 1) f_celluloidlaw02_BitsSplit [.s a1, .i a2, .i a3, .i a4] [] =
  ((bif (decide ((((List.length a1) : Nat) : Int) > (1024 : Int))) then some [(PV.b true)]
   else (bif (decide (a3 < (0 : Int))) then some [(PV.b true)]
   else (bif (decide (a4 < (0 : Int))) then some [(PV.b true)]
   else (bif (decide ((Go.IntKind.wrap .i64 (a3 + a4)) > (31 : Int))) then some [(PV.b true)]
   else (bif (decide (a3 > (31 : Int))) then some [(PV.b true)]
   else some [(PV.b (decide (a4 > (31 : Int))))])))))).bind fun r1 =>
  (bif ((r1.getD 0 PV.u)).toB then (call k f_celluloidlaw02_awake [] []).bind fun r2 =>
  some ([(PV.b (((r2).1.getD 0 PV.u)).toB)], [])
  else (call k f_bits_Plain [(PV.s a1), (PV.i a2), (PV.i (Go.IntKind.wrap .i64 (a3 + a4)))] []).bind fun r3 =>
  (call k f_bits_Plain [(PV.s a1), (PV.i a2), (PV.i a3)] []).bind fun r4 =>
  (call k f_bits_Plain [(PV.s (((r4).1.getD 1 PV.u)).toS), (PV.i (((r4).1.getD 2 PV.u)).toI), (PV.i a4)] []).bind fun r5 =>
  (bif ((((r3).1.getD 3 PV.u)).toI != (0 : Int)) then ((bif ((((r4).1.getD 3 PV.u)).toI != (0 : Int)) then (call k f_celluloidlaw02_awake [] []).bind fun r7 =>
   some [(PV.b (((r7).1.getD 0 PV.u)).toB)]
   else (bif ((((r5).1.getD 3 PV.u)).toI != (0 : Int)) then (call k f_celluloidlaw02_awake [] []).bind fun r6 =>
   some [(PV.b (((r6).1.getD 0 PV.u)).toB)]
   else some [(PV.b false)]))).bind fun r8 =>
  some ([(PV.b ((r8.getD 0 PV.u)).toB)], [])
  else ((bif ((((r4).1.getD 3 PV.u)).toI == (0 : Int)) then (bif ((((r5).1.getD 3 PV.u)).toI == (0 : Int)) then (bif (decide ((0 : Int) ≤ a4)) then (bif ((((r3).1.getD 0 PV.u)).toI == (Go.AI.bitsOp Go.BinOp.or .i64 (Go.AI.shl .i64 (((r4).1.getD 0 PV.u)).toI a4) (((r5).1.getD 0 PV.u)).toI)) then (bif (((((r5).1.getD 1 PV.u)).toS == (((r3).1.getD 1 PV.u)).toS) && ((((r5).1.getD 2 PV.u)).toI == (((r3).1.getD 2 PV.u)).toI)) then (call k f_celluloidlaw02_awake [] []).bind fun r9 =>
   some [(PV.b (((r9).1.getD 0 PV.u)).toB)]
   else some [(PV.b false)])
   else some [(PV.b false)])
   else none)
   else some [(PV.b false)])
   else some [(PV.b false)])).bind fun r10 =>
  some ([(PV.b ((r10.getD 0 PV.u)).toB)], []))) := by kernel_rfl
/- celluloid/celluloidlaw02.BitsReads -/
theorem u_celluloidlaw02_BitsReads (k : Nat) (a1 : List UInt8) (a2 : Int) (a3 : Int) : call (k + 1) f_celluloidlaw02_BitsReads [.s a1, .i a2, .i a3] [] =
  (bif (decide ((((List.length a1) : Nat) : Int) > (1024 : Int))) then (call k f_celluloidlaw02_awake [] []).bind fun r1 =>
  some ([(PV.b (((r1).1.getD 0 PV.u)).toB)], [])
  else (call k f_bits_Plain [(PV.s a1), (PV.i a2), (PV.i a3)] []).bind fun r2 =>
  (call k f_bits_Signed [(PV.s a1), (PV.i a2), (PV.i a3)] []).bind fun r3 =>
  (call k f_celluloidlaw02_rref [(PV.s a1), (PV.i a2)] []).bind fun r4 =>
  (call k f_celluloidref02_Plain [(PV.s (((r4).1.getD 0 PV.u)).toS), (PV.i (((r4).1.getD 1 PV.u)).toI), (PV.i a3)] []).bind fun r5 =>
  (call k f_celluloidlaw02_rref [(PV.s a1), (PV.i a2)] []).bind fun r6 =>
  (call k f_celluloidref02_Signed [(PV.s (((r6).1.getD 0 PV.u)).toS), (PV.i (((r6).1.getD 1 PV.u)).toI), (PV.i a3)] []).bind fun r7 =>
  ((bif ((((r2).1.getD 0 PV.u)).toI == (((r5).1.getD 0 PV.u)).toI) then (call k f_celluloidlaw02_rref [(PV.s (((r2).1.getD 1 PV.u)).toS), (PV.i (((r2).1.getD 2 PV.u)).toI)] []).bind fun r8 =>
   (bif (((((r8).1.getD 0 PV.u)).toS == (((r5).1.getD 1 PV.u)).toS) && ((((r8).1.getD 1 PV.u)).toI == (((r5).1.getD 2 PV.u)).toI)) then (bif ((((r2).1.getD 3 PV.u)).toI == (((r5).1.getD 3 PV.u)).toI) then (bif ((((r3).1.getD 0 PV.u)).toI == (((r7).1.getD 0 PV.u)).toI) then (call k f_celluloidlaw02_rref [(PV.s (((r3).1.getD 1 PV.u)).toS), (PV.i (((r3).1.getD 2 PV.u)).toI)] []).bind fun r9 =>
   (bif (((((r9).1.getD 0 PV.u)).toS == (((r7).1.getD 1 PV.u)).toS) && ((((r9).1.getD 1 PV.u)).toI == (((r7).1.getD 2 PV.u)).toI)) then (bif ((((r3).1.getD 3 PV.u)).toI == (((r7).1.getD 3 PV.u)).toI) then (call k f_bits_Align [(PV.s a1), (PV.i a2)] []).bind fun r10 =>
   (call k f_celluloidlaw02_rref [(PV.s (((r10).1.getD 0 PV.u)).toS), (PV.i (((r10).1.getD 1 PV.u)).toI)] []).bind fun r11 =>
   (call k f_celluloidlaw02_rref [(PV.s a1), (PV.i a2)] []).bind fun r12 =>
   (call k f_celluloidref02_Align [(PV.s (((r12).1.getD 0 PV.u)).toS), (PV.i (((r12).1.getD 1 PV.u)).toI)] []).bind fun r13 =>
   (bif (((((r11).1.getD 0 PV.u)).toS == (((r13).1.getD 0 PV.u)).toS) && ((((r11).1.getD 1 PV.u)).toI == (((r13).1.getD 1 PV.u)).toI)) then (call k f_celluloidlaw02_awake [] []).bind fun r14 =>
   some [(PV.b (((r14).1.getD 0 PV.u)).toB)]
   else some [(PV.b false)])
   else some [(PV.b false)])
   else some [(PV.b false)])
   else some [(PV.b false)])
   else some [(PV.b false)])
   else some [(PV.b false)])
   else some [(PV.b false)])).bind fun r15 =>
  some ([(PV.b ((r15.getD 0 PV.u)).toB)], [])) := by kernel_rfl
/- celluloid/celluloidlaw02.BitsWidths -/
noncomputable def S_celluloidlaw02_BitsWidths_L0 (x1 : List (List PV)) (x2 : Int) (x3 : Int) (x4 : List (List PV)) (x5 : Int) (x6 : Int) : St := mkSt [(0, .v (.sl 3 x1)), (3, .v (.int .i64 x2)), (4, .v (.int .i64 x3)), (11, .v (.sl 3 x4)), (12, .v (.int .i64 x5)), (13, .v (.int .i64 x6)), (34, .any), (35, .any), (36, .any), (37, .any), (40, .any)] [] 1000 42
noncomputable def at_celluloidlaw02_BitsWidths_L0 : List Item := (atLoop Try.f5 0)
theorem u_celluloidlaw02_BitsWidths (k : Nat) (a1 : List (List PV)) : call (k + 1) f_celluloidlaw02_BitsWidths [.l a1] [] =
  (bif (decide ((((List.length a1) : Nat) : Int) > (20 : Int))) then (call k f_celluloidlaw02_awake [] []).bind fun r1 =>
  some ([(PV.b (((r1).1.getD 0 PV.u)).toB)], [])
  else run k f_celluloidlaw02_BitsWidths [] at_celluloidlaw02_BitsWidths_L0 (S_celluloidlaw02_BitsWidths_L0 (a1) ((0 : Int)) ((0 : Int)) (a1) ((((List.length a1) : Nat) : Int)) ((0 : Int)))) := by kernel_rfl
theorem u_celluloidlaw02_BitsWidths_L0 (k : Nat) (x1 : List (List PV)) (x2 : Int) (x3 : Int) (x4 : List (List PV)) (x5 : Int) (x6 : Int) : run (k + 1) f_celluloidlaw02_BitsWidths [] at_celluloidlaw02_BitsWidths_L0 (S_celluloidlaw02_BitsWidths_L0 x1 x2 x3 x4 x5 x6) =
  (bif (decide (x6 < x5)) then (bif (Go.AI.inB x6 (List.length x4)) then (call k f_celluloidref02_Width [(PV.i (((Go.AI.elemAt x4 x6).getD 0 PV.u)).toI)] []).bind fun r2 =>
  (bif (decide ((((Go.AI.elemAt x4 x6).getD 0 PV.u)).toI > (0 : Int))) then (call k f_celluloidref02_Width [(PV.i (((Go.AI.elemAt x4 x6).getD 0 PV.u)).toI)] []).bind fun r3 =>
  run k f_celluloidlaw02_BitsWidths [] at_celluloidlaw02_BitsWidths_L0 (S_celluloidlaw02_BitsWidths_L0 (x1) ((bif (decide ((((r2).1.getD 0 PV.u)).toI > x2)) then (((r2).1.getD 0 PV.u)).toI else x2)) ((bif (decide ((Go.IntKind.wrap .i64 ((((r3).1.getD 0 PV.u)).toI - (1 : Int))) > x3)) then (Go.IntKind.wrap .i64 ((((r3).1.getD 0 PV.u)).toI - (1 : Int))) else x3)) (x4) (x5) ((Go.IntKind.wrap .i64 (x6 + (1 : Int)))))
  else run k f_celluloidlaw02_BitsWidths [] at_celluloidlaw02_BitsWidths_L0 (S_celluloidlaw02_BitsWidths_L0 (x1) ((bif (decide ((((r2).1.getD 0 PV.u)).toI > x2)) then (((r2).1.getD 0 PV.u)).toI else x2)) (x3) (x4) (x5) ((Go.IntKind.wrap .i64 (x6 + (1 : Int))))))
  else none)
  else ((call k f_bits_Width [(PV.l x1)] []).bind fun r4 =>
   (bif ((((r4).1.getD 0 PV.u)).toI == x2) then (call k f_bits_PlainWidth [(PV.l x1)] []).bind fun r5 =>
   (bif ((((r5).1.getD 0 PV.u)).toI == x3) then (call k f_celluloidlaw02_awake [] []).bind fun r6 =>
   some [(PV.b (((r6).1.getD 0 PV.u)).toB)]
   else some [(PV.b false)])
   else some [(PV.b false)])).bind fun r7 =>
  some ([(PV.b ((r7.getD 0 PV.u)).toB)], [])) := by kernel_rfl
/- celluloid/celluloidlaw02.BitsPuts -/
theorem u_celluloidlaw02_BitsPuts (k : Nat) (a1 : List UInt8) (a2 : Int) (a3 : Int) (a4 : Int) : call (k + 1) f_celluloidlaw02_BitsPuts [.s a1, .i a2, .i a3, .i a4] [] =
  (bif (decide ((((List.length a1) : Nat) : Int) > (1024 : Int))) then (call k f_celluloidlaw02_awake [] []).bind fun r1 =>
  some ([(PV.b (((r1).1.getD 0 PV.u)).toB)], [])
  else (call k f_bits_PutPlain [(PV.s a1), (PV.i a2), (PV.i a3), (PV.i a4)] []).bind fun r2 =>
  (call k f_bits_PutSigned [(PV.s a1), (PV.i a2), (PV.i a3), (PV.i a4)] []).bind fun r3 =>
  (call k f_bits_PutLittle [(PV.s a1), (PV.i a2), (PV.i a3), (PV.i a4)] []).bind fun r4 =>
  (call k f_celluloidlaw02_wref [(PV.s a1), (PV.i a2)] []).bind fun r5 =>
  (call k f_celluloidref02_PutPlain [(PV.s (((r5).1.getD 0 PV.u)).toS), (PV.i (((r5).1.getD 1 PV.u)).toI), (PV.i a3), (PV.i a4)] []).bind fun r6 =>
  (call k f_celluloidlaw02_wref [(PV.s a1), (PV.i a2)] []).bind fun r7 =>
  (call k f_celluloidref02_PutSigned [(PV.s (((r7).1.getD 0 PV.u)).toS), (PV.i (((r7).1.getD 1 PV.u)).toI), (PV.i a3), (PV.i a4)] []).bind fun r8 =>
  (call k f_celluloidlaw02_wref [(PV.s a1), (PV.i a2)] []).bind fun r9 =>
  (call k f_celluloidref02_PutLittle [(PV.s (((r9).1.getD 0 PV.u)).toS), (PV.i (((r9).1.getD 1 PV.u)).toI), (PV.i a3), (PV.i a4)] []).bind fun r10 =>
  ((bif (!(((((r2).1.getD 2 PV.u)).toI == (0 : Int)) == (((r6).1.getD 2 PV.u)).toB)) then some [(PV.b true)]
   else (bif (!(((((r3).1.getD 2 PV.u)).toI == (0 : Int)) == (((r8).1.getD 2 PV.u)).toB)) then some [(PV.b true)]
   else (bif (!(((((r4).1.getD 2 PV.u)).toI == (0 : Int)) == (((r10).1.getD 2 PV.u)).toB)) then some [(PV.b true)]
   else (bif (!(((r6).1.getD 2 PV.u)).toB) then (bif ((((r2).1.getD 2 PV.u)).toI != (1 : Int)) then some [(PV.b true)]
   else (bif (!(((r8).1.getD 2 PV.u)).toB) then (bif ((((r3).1.getD 2 PV.u)).toI != (1 : Int)) then some [(PV.b true)]
   else (bif (!(((r10).1.getD 2 PV.u)).toB) then some [(PV.b ((((r4).1.getD 2 PV.u)).toI != (1 : Int)))]
   else some [(PV.b false)]))
   else (bif (!(((r10).1.getD 2 PV.u)).toB) then some [(PV.b ((((r4).1.getD 2 PV.u)).toI != (1 : Int)))]
   else some [(PV.b false)])))
   else (bif (!(((r8).1.getD 2 PV.u)).toB) then (bif ((((r3).1.getD 2 PV.u)).toI != (1 : Int)) then some [(PV.b true)]
   else (bif (!(((r10).1.getD 2 PV.u)).toB) then some [(PV.b ((((r4).1.getD 2 PV.u)).toI != (1 : Int)))]
   else some [(PV.b false)]))
   else (bif (!(((r10).1.getD 2 PV.u)).toB) then some [(PV.b ((((r4).1.getD 2 PV.u)).toI != (1 : Int)))]
   else some [(PV.b false)]))))))).bind fun r11 =>
  (bif ((r11.getD 0 PV.u)).toB then some ([(PV.b false)], [])
  else (call k f_bits_PutBytes [(PV.s a1), (PV.i a2), (PV.s [120, 121])] []).bind fun r12 =>
  ((call k f_celluloidlaw02_wref [(PV.s (((r2).1.getD 0 PV.u)).toS), (PV.i (((r2).1.getD 1 PV.u)).toI)] []).bind fun r13 =>
   (bif (((((r13).1.getD 0 PV.u)).toS == (((r6).1.getD 0 PV.u)).toS) && ((((r13).1.getD 1 PV.u)).toI == (((r6).1.getD 1 PV.u)).toI)) then (call k f_celluloidlaw02_wref [(PV.s (((r3).1.getD 0 PV.u)).toS), (PV.i (((r3).1.getD 1 PV.u)).toI)] []).bind fun r14 =>
   (bif (((((r14).1.getD 0 PV.u)).toS == (((r8).1.getD 0 PV.u)).toS) && ((((r14).1.getD 1 PV.u)).toI == (((r8).1.getD 1 PV.u)).toI)) then (call k f_celluloidlaw02_wref [(PV.s (((r4).1.getD 0 PV.u)).toS), (PV.i (((r4).1.getD 1 PV.u)).toI)] []).bind fun r15 =>
   (bif (((((r15).1.getD 0 PV.u)).toS == (((r10).1.getD 0 PV.u)).toS) && ((((r15).1.getD 1 PV.u)).toI == (((r10).1.getD 1 PV.u)).toI)) then (bif (decide (((List.length a1) + 2) ≤ 1099511627776)) then (bif ((((r12).1.getD 0 PV.u)).toS == (a1 ++ [120, 121])) then (bif ((((r12).1.getD 1 PV.u)).toI == (0 : Int)) then (call k f_bits_PutAlign [(PV.s a1), (PV.i a2)] []).bind fun r16 =>
   (bif (((((r16).1.getD 0 PV.u)).toS == a1) && ((((r16).1.getD 1 PV.u)).toI == (0 : Int))) then (call k f_celluloidlaw02_awake [] []).bind fun r17 =>
   some [(PV.b (((r17).1.getD 0 PV.u)).toB)]
   else some [(PV.b false)])
   else some [(PV.b false)])
   else some [(PV.b false)])
   else none)
   else some [(PV.b false)])
   else some [(PV.b false)])
   else some [(PV.b false)])).bind fun r18 =>
  some ([(PV.b ((r18.getD 0 PV.u)).toB)], []))) := by kernel_rfl
/- celluloid/celluloidlaw12.TagPuts -/
theorem u_celluloidlaw12_TagPuts (k : Nat) (a1 : Int) (a2 : List UInt8) (a3 : List UInt8) : call (k + 1) f_celluloidlaw12_TagPuts [.i a1, .s a2, .s a3] [] =
  ((bif (decide ((((List.length a2) : Nat) : Int) > (1024 : Int))) then some [(PV.b true)]
   else some [(PV.b (decide ((((List.length a3) : Nat) : Int) > (1024 : Int))))])).bind fun r1 =>
  (bif ((r1.getD 0 PV.u)).toB then (call k f_celluloidlaw12_awake [] []).bind fun r2 =>
  some ([(PV.b (((r2).1.getD 0 PV.u)).toB)], [])
  else (call k f_tag_Put [(PV.i a1), (PV.s a2)] []).bind fun r3 =>
  ((bif (decide (a1 < (0 : Int))) then some [(PV.b true)]
   else some [(PV.b (decide (a1 > (1023 : Int))))])).bind fun r4 =>
  (bif ((r4.getD 0 PV.u)).toB then ((bif ((((r3).1.getD 0 PV.u)).toS == []) then (bif ((((r3).1.getD 1 PV.u)).toI == (1 : Int)) then (call k f_celluloidlaw12_awake [] []).bind fun r5 =>
   some [(PV.b (((r5).1.getD 0 PV.u)).toB)]
   else some [(PV.b false)])
   else some [(PV.b false)])).bind fun r6 =>
  some ([(PV.b ((r6.getD 0 PV.u)).toB)], [])
  else (bif (decide (((List.length (((r3).1.getD 0 PV.u)).toS) + (List.length a3)) ≤ 1099511627776)) then (call k f_tag_Take [(PV.s ((((r3).1.getD 0 PV.u)).toS ++ a3))] []).bind fun r7 =>
  ((call k f_celluloidref12_Put [(PV.i a1), (PV.s a2)] []).bind fun r8 =>
   (bif ((((r3).1.getD 0 PV.u)).toS == (((r8).1.getD 0 PV.u)).toS) then (bif ((((r3).1.getD 1 PV.u)).toI == (0 : Int)) then (bif (((((r7).1.getD 0 PV.u)).toI == a1) && ((((r7).1.getD 1 PV.u)).toS == a2)) then (bif ((((r7).1.getD 2 PV.u)).toS == a3) then (bif ((((r7).1.getD 3 PV.u)).toI == (0 : Int)) then (call k f_celluloidlaw12_awake [] []).bind fun r9 =>
   some [(PV.b (((r9).1.getD 0 PV.u)).toB)]
   else some [(PV.b false)])
   else some [(PV.b false)])
   else some [(PV.b false)])
   else some [(PV.b false)])
   else some [(PV.b false)])).bind fun r10 =>
  some ([(PV.b ((r10.getD 0 PV.u)).toB)], [])
  else none))) := by kernel_rfl
/- celluloid/celluloidlaw12.TagJoins -/
theorem u_celluloidlaw12_TagJoins (k : Nat) (a1 : List (List PV)) (a2 : List UInt8) : call (k + 1) f_celluloidlaw12_TagJoins [.l a1, .s a2] [] =
  ((call k f_celluloidlaw12_few [(PV.l a1)] []).bind fun r1 =>
   (bif (!(((r1).1.getD 0 PV.u)).toB) then some [(PV.b true)]
   else some [(PV.b (decide ((((List.length a2) : Nat) : Int) > (1024 : Int))))])).bind fun r2 =>
  (bif ((r2.getD 0 PV.u)).toB then (call k f_celluloidlaw12_awake [] []).bind fun r3 =>
  some ([(PV.b (((r3).1.getD 0 PV.u)).toB)], [])
  else (call k f_tag_Join [(PV.l a1)] []).bind fun r4 =>
  (call k f_celluloidlaw12_refs [(PV.l a1)] []).bind fun r5 =>
  (call k f_celluloidref12_Join [(PV.l (((r5).1.getD 0 PV.u)).toL)] []).bind fun r6 =>
  (bif (!(((r6).1.getD 1 PV.u)).toB) then ((bif ((((r4).1.getD 0 PV.u)).toS == []) then (bif ((((r4).1.getD 1 PV.u)).toI == (1 : Int)) then (call k f_celluloidlaw12_awake [] []).bind fun r7 =>
   some [(PV.b (((r7).1.getD 0 PV.u)).toB)]
   else some [(PV.b false)])
   else some [(PV.b false)])).bind fun r8 =>
  some ([(PV.b ((r8.getD 0 PV.u)).toB)], [])
  else (bif (decide (((List.length (((r4).1.getD 0 PV.u)).toS) + (List.length a2)) ≤ 1099511627776)) then (call k f_tag_Split [(PV.s ((((r4).1.getD 0 PV.u)).toS ++ a2))] []).bind fun r9 =>
  ((bif ((((r4).1.getD 0 PV.u)).toS == (((r6).1.getD 0 PV.u)).toS) then (bif ((((r4).1.getD 1 PV.u)).toI == (0 : Int)) then (call k f_celluloidlaw12_refs [(PV.l (((r9).1.getD 0 PV.u)).toL)] []).bind fun r10 =>
   (call k f_celluloidlaw12_refs [(PV.l a1)] []).bind fun r11 =>
   (call k f_celluloidref12_Same [(PV.l (((r10).1.getD 0 PV.u)).toL), (PV.l (((r11).1.getD 0 PV.u)).toL)] []).bind fun r12 =>
   (bif (((r12).1.getD 0 PV.u)).toB then (bif ((((r9).1.getD 1 PV.u)).toS == a2) then (bif ((((r9).1.getD 2 PV.u)).toI == (0 : Int)) then (call k f_celluloidlaw12_awake [] []).bind fun r13 =>
   some [(PV.b (((r13).1.getD 0 PV.u)).toB)]
   else some [(PV.b false)])
   else some [(PV.b false)])
   else some [(PV.b false)])
   else some [(PV.b false)])
   else some [(PV.b false)])).bind fun r14 =>
  some ([(PV.b ((r14.getD 0 PV.u)).toB)], [])
  else none))) := by kernel_rfl
/- celluloid/celluloidlaw12.TagAgain -/
theorem u_celluloidlaw12_TagAgain (k : Nat) (a1 : List UInt8) : call (k + 1) f_celluloidlaw12_TagAgain [.s a1] [] =
  (bif (decide ((((List.length a1) : Nat) : Int) > (4096 : Int))) then (call k f_celluloidlaw12_awake [] []).bind fun r1 =>
  some ([(PV.b (((r1).1.getD 0 PV.u)).toB)], [])
  else (call k f_tag_Split [(PV.s a1)] []).bind fun r2 =>
  (bif ((((r2).1.getD 2 PV.u)).toI != (0 : Int)) then ((bif ((((List.length (((r2).1.getD 0 PV.u)).toL) : Nat) : Int) == (0 : Int)) then (bif ((((r2).1.getD 1 PV.u)).toS == []) then (call k f_celluloidlaw12_awake [] []).bind fun r3 =>
   some [(PV.b (((r3).1.getD 0 PV.u)).toB)]
   else some [(PV.b false)])
   else some [(PV.b false)])).bind fun r4 =>
  some ([(PV.b ((r4.getD 0 PV.u)).toB)], [])
  else (call k f_tag_Join [(PV.l (((r2).1.getD 0 PV.u)).toL)] []).bind fun r5 =>
  (call k f_tag_Split [(PV.s (((r5).1.getD 0 PV.u)).toS)] []).bind fun r6 =>
  ((bif ((((r5).1.getD 1 PV.u)).toI == (0 : Int)) then (bif ((((r6).1.getD 2 PV.u)).toI == (0 : Int)) then (bif ((((r6).1.getD 1 PV.u)).toS == []) then (call k f_celluloidlaw12_refs [(PV.l (((r2).1.getD 0 PV.u)).toL)] []).bind fun r7 =>
   (call k f_celluloidlaw12_refs [(PV.l (((r6).1.getD 0 PV.u)).toL)] []).bind fun r8 =>
   (call k f_celluloidref12_Same [(PV.l (((r7).1.getD 0 PV.u)).toL), (PV.l (((r8).1.getD 0 PV.u)).toL)] []).bind fun r9 =>
   (bif (((r9).1.getD 0 PV.u)).toB then (bif (decide ((Go.IntKind.wrap .i64 ((((List.length (((r5).1.getD 0 PV.u)).toS) : Nat) : Int) + (((List.length (((r2).1.getD 1 PV.u)).toS) : Nat) : Int))) ≤ (((List.length a1) : Nat) : Int))) then (call k f_celluloidlaw12_awake [] []).bind fun r10 =>
   some [(PV.b (((r10).1.getD 0 PV.u)).toB)]
   else some [(PV.b false)])
   else some [(PV.b false)])
   else some [(PV.b false)])
   else some [(PV.b false)])
   else some [(PV.b false)])).bind fun r11 =>
  some ([(PV.b ((r11.getD 0 PV.u)).toB)], []))) := by kernel_rfl
/- celluloid/celluloidlaw12.TagSizes -/
noncomputable def S_celluloidlaw12_TagSizes_L0 (x1 : List (List PV)) (x2 : Int) (x3 : List (List PV)) (x4 : Int) (x5 : Int) : St := mkSt [(0, .v (.sl 52 x1)), (3, .v (.int .i64 x2)), (20, .v (.sl 52 x3)), (21, .v (.int .i64 x4)), (22, .v (.int .i64 x5)), (30, .any), (31, .any), (32, .any), (53, .any), (54, .any), (55, .any), (56, .any), (72, .any), (73, .any), (76, .any)] [] 1000 78
noncomputable def at_celluloidlaw12_TagSizes_L0 : List Item := (atLoop Try.f10 0)
theorem u_celluloidlaw12_TagSizes (k : Nat) (a1 : List (List PV)) : call (k + 1) f_celluloidlaw12_TagSizes [.l a1] [] =
  ((call k f_celluloidlaw12_few [(PV.l a1)] []).bind fun r1 =>
   (bif (!(((r1).1.getD 0 PV.u)).toB) then some [(PV.b true)]
   else some [(PV.b (decide ((((List.length a1) : Nat) : Int) > (256 : Int))))])).bind fun r2 =>
  (bif ((r2.getD 0 PV.u)).toB then (call k f_celluloidlaw12_awake [] []).bind fun r3 =>
  some ([(PV.b (((r3).1.getD 0 PV.u)).toB)], [])
  else run k f_celluloidlaw12_TagSizes [] at_celluloidlaw12_TagSizes_L0 (S_celluloidlaw12_TagSizes_L0 (a1) ((2 : Int)) (a1) ((((List.length a1) : Nat) : Int)) ((0 : Int)))) := by kernel_rfl
theorem u_celluloidlaw12_TagSizes_L0 (k : Nat) (x1 : List (List PV)) (x2 : Int) (x3 : List (List PV)) (x4 : Int) (x5 : Int) : run (k + 1) f_celluloidlaw12_TagSizes [] at_celluloidlaw12_TagSizes_L0 (S_celluloidlaw12_TagSizes_L0 x1 x2 x3 x4 x5) =
  (bif (decide (x5 < x4)) then (bif (Go.AI.inB x5 (List.length x3)) then ((bif (decide ((((Go.AI.elemAt x3 x5).getD 0 PV.u)).toI < (1 : Int))) then some [(PV.b true)]
   else some [(PV.b (decide ((((Go.AI.elemAt x3 x5).getD 0 PV.u)).toI > (1023 : Int))))])).bind fun r4 =>
  (bif ((r4.getD 0 PV.u)).toB then (call k f_celluloidlaw12_awake [] []).bind fun r5 =>
  some ([(PV.b (((r5).1.getD 0 PV.u)).toB)], [])
  else (call k f_tag_Put [(PV.i (((Go.AI.elemAt x3 x5).getD 0 PV.u)).toI), (PV.s (((Go.AI.elemAt x3 x5).getD 1 PV.u)).toS)] []).bind fun r6 =>
  (bif (decide ((((List.length (((Go.AI.elemAt x3 x5).getD 1 PV.u)).toS) : Nat) : Int) > (62 : Int))) then ((bif ((((r6).1.getD 1 PV.u)).toI != (0 : Int)) then some [(PV.b true)]
   else some [(PV.b ((((List.length (((r6).1.getD 0 PV.u)).toS) : Nat) : Int) != (Go.IntKind.wrap .i64 ((Go.IntKind.wrap .i64 ((2 : Int) + (((List.length (((Go.AI.elemAt x3 x5).getD 1 PV.u)).toS) : Nat) : Int))) + (4 : Int)))))])).bind fun r7 =>
  (bif ((r7.getD 0 PV.u)).toB then some ([(PV.b false)], [])
  else run k f_celluloidlaw12_TagSizes [] at_celluloidlaw12_TagSizes_L0 (S_celluloidlaw12_TagSizes_L0 (x1) ((Go.IntKind.wrap .i64 (x2 + (Go.IntKind.wrap .i64 ((Go.IntKind.wrap .i64 ((2 : Int) + (((List.length (((Go.AI.elemAt x3 x5).getD 1 PV.u)).toS) : Nat) : Int))) + (4 : Int)))))) (x3) (x4) ((Go.IntKind.wrap .i64 (x5 + (1 : Int))))))
  else ((bif ((((r6).1.getD 1 PV.u)).toI != (0 : Int)) then some [(PV.b true)]
   else some [(PV.b ((((List.length (((r6).1.getD 0 PV.u)).toS) : Nat) : Int) != (Go.IntKind.wrap .i64 ((2 : Int) + (((List.length (((Go.AI.elemAt x3 x5).getD 1 PV.u)).toS) : Nat) : Int)))))])).bind fun r8 =>
  (bif ((r8.getD 0 PV.u)).toB then some ([(PV.b false)], [])
  else run k f_celluloidlaw12_TagSizes [] at_celluloidlaw12_TagSizes_L0 (S_celluloidlaw12_TagSizes_L0 (x1) ((Go.IntKind.wrap .i64 (x2 + (Go.IntKind.wrap .i64 ((2 : Int) + (((List.length (((Go.AI.elemAt x3 x5).getD 1 PV.u)).toS) : Nat) : Int)))))) (x3) (x4) ((Go.IntKind.wrap .i64 (x5 + (1 : Int))))))))
  else none)
  else (call k f_tag_Join [(PV.l x1)] []).bind fun r9 =>
  ((bif ((((List.length (((r9).1.getD 0 PV.u)).toS) : Nat) : Int) == x2) then (bif ((((r9).1.getD 1 PV.u)).toI == (0 : Int)) then (call k f_celluloidlaw12_awake [] []).bind fun r10 =>
   some [(PV.b (((r10).1.getD 0 PV.u)).toB)]
   else some [(PV.b false)])
   else some [(PV.b false)])).bind fun r11 =>
  some ([(PV.b ((r11.getD 0 PV.u)).toB)], [])) := by kernel_rfl
/- celluloid/celluloidlaw02.BitsTakes -/
theorem u_celluloidlaw02_BitsTakes (k : Nat) (a1 : List UInt8) (a2 : Int) (a3 : Int) : call (k + 1) f_celluloidlaw02_BitsTakes [.s a1, .i a2, .i a3] [] =
  (bif (decide ((((List.length a1) : Nat) : Int) > (1024 : Int))) then (call k f_celluloidlaw02_awake [] []).bind fun r1 =>
  some ([(PV.b (((r1).1.getD 0 PV.u)).toB)], [])
  else (call k f_bits_Bytes [(PV.s a1), (PV.i a2), (PV.i a3)] []).bind fun r2 =>
  (call k f_bits_Little [(PV.s a1), (PV.i a2), (PV.i a3)] []).bind fun r3 =>
  (call k f_celluloidlaw02_rref [(PV.s a1), (PV.i a2)] []).bind fun r4 =>
  (call k f_celluloidref02_Bytes [(PV.s (((r4).1.getD 0 PV.u)).toS), (PV.i (((r4).1.getD 1 PV.u)).toI), (PV.i a3)] []).bind fun r5 =>
  (call k f_celluloidlaw02_rref [(PV.s a1), (PV.i a2)] []).bind fun r6 =>
  (call k f_celluloidref02_Little [(PV.s (((r6).1.getD 0 PV.u)).toS), (PV.i (((r6).1.getD 1 PV.u)).toI), (PV.i a3)] []).bind fun r7 =>
  ((bif ((((r2).1.getD 0 PV.u)).toS == (((r5).1.getD 0 PV.u)).toS) then (call k f_celluloidlaw02_rref [(PV.s (((r2).1.getD 1 PV.u)).toS), (PV.i (((r2).1.getD 2 PV.u)).toI)] []).bind fun r8 =>
   (bif (((((r8).1.getD 0 PV.u)).toS == (((r5).1.getD 1 PV.u)).toS) && ((((r8).1.getD 1 PV.u)).toI == (((r5).1.getD 2 PV.u)).toI)) then (bif ((((r2).1.getD 3 PV.u)).toI == (((r5).1.getD 3 PV.u)).toI) then (bif ((((r3).1.getD 0 PV.u)).toI == (((r7).1.getD 0 PV.u)).toI) then (call k f_celluloidlaw02_rref [(PV.s (((r3).1.getD 1 PV.u)).toS), (PV.i (((r3).1.getD 2 PV.u)).toI)] []).bind fun r9 =>
   (bif (((((r9).1.getD 0 PV.u)).toS == (((r7).1.getD 1 PV.u)).toS) && ((((r9).1.getD 1 PV.u)).toI == (((r7).1.getD 2 PV.u)).toI)) then (bif ((((r3).1.getD 3 PV.u)).toI == (((r7).1.getD 3 PV.u)).toI) then (call k f_celluloidlaw02_awake [] []).bind fun r10 =>
   some [(PV.b (((r10).1.getD 0 PV.u)).toB)]
   else some [(PV.b false)])
   else some [(PV.b false)])
   else some [(PV.b false)])
   else some [(PV.b false)])
   else some [(PV.b false)])
   else some [(PV.b false)])).bind fun r11 =>
  some ([(PV.b ((r11.getD 0 PV.u)).toB)], [])) := by kernel_rfl
/- celluloid/celluloidlaw02.BitsBack -/
noncomputable def S_celluloidlaw02_BitsBack_L0 (x1 : List (List PV)) (x2 : Int) (x3 : List (List PV)) (x4 : List UInt8) (x5 : Int) : St := mkSt [(0, .v (.sl 79 x1)), (3, .v (.ptr (.n 2 0 0) 0)), (4, .v (.wr (.w 4))), (5, .v (.int .i64 x2)), (18, .any), (19, .any), (144, .any), (145, .any), (146, .any), (147, .any), (159, .any)] [((.w 4), .row 79 x3), ((.n 2 0 0), .cells 41 [.str x4, .int .i64 x5])] 1000 161
noncomputable def at_celluloidlaw02_BitsBack_L0 : List Item := (atLoop Try.f12 0)
noncomputable def S_celluloidlaw02_BitsBack_L3 (x1 : Int) (x2 : Int) (x3 : List (List PV)) (x4 : List UInt8) (x5 : Int) (x6 : List UInt8) (x7 : Int) : St := mkSt [(3, .v (.ptr (.n 2 0 0) 0)), (8, .v (.ptr (.n 1001 3 0) 0)), (97, .v (.wr (.w 97))), (98, .v (.int .i64 x1)), (99, .v (.int .i64 x2)), (144, .any), (145, .any), (146, .any), (147, .any), (159, .any)] [((.w 97), .row 79 x3), ((.n 2 0 0), .cells 41 [.str x4, .int .i64 x5]), ((.n 1001 3 0), .cells 23 [.str x6, .int .i64 x7])] 2000 161
noncomputable def at_celluloidlaw02_BitsBack_L3 : List Item := (atLoop Try.f12 3)
theorem u_celluloidlaw02_BitsBack (k : Nat) (a1 : List (List PV)) : call (k + 1) f_celluloidlaw02_BitsBack [.l a1] [] =
  run k f_celluloidlaw02_BitsBack [] at_celluloidlaw02_BitsBack_L0 (S_celluloidlaw02_BitsBack_L0 (a1) ((0 : Int)) ([]) ([]) ((0 : Int))) := by kernel_rfl
theorem u_celluloidlaw02_BitsBack_L0 (k : Nat) (x1 : List (List PV)) (x2 : Int) (x3 : List (List PV)) (x4 : List UInt8) (x5 : Int) : run (k + 1) f_celluloidlaw02_BitsBack [] at_celluloidlaw02_BitsBack_L0 (S_celluloidlaw02_BitsBack_L0 x1 x2 x3 x4 x5) =
  ((bif (decide (x2 < (((List.length x1) : Nat) : Int))) then some [(PV.b (decide (x2 < (40 : Int))))]
   else some [(PV.b false)])).bind fun r1 =>
  (bif ((r1.getD 0 PV.u)).toB then (bif (Go.AI.inB x2 (List.length x1)) then (bif ((Int.tmod (Go.IntKind.wrap .u64 (((Go.AI.elemAt x1 x2).getD 0 PV.u)).toI) (4 : Int)) == (0 : Int)) then (bif (Go.AI.inB x2 (List.length x1)) then (bif (Go.AI.inB x2 (List.length x1)) then (call k f_bits_PutPlain [(PV.s x4), (PV.i x5), (PV.i (((Go.AI.elemAt x1 x2).getD 1 PV.u)).toI), (PV.i (((Go.AI.elemAt x1 x2).getD 2 PV.u)).toI)] []).bind fun r2 =>
  (bif ((((r2).1.getD 2 PV.u)).toI == (0 : Int)) then (bif (Go.AI.inB x2 (List.length x1)) then (bif (decide (((((List.length x3) + (List.length (List.set [[(PV.i (0 : Int)), (PV.i (0 : Int)), (PV.i (0 : Int))]] 0 [(PV.i (((Go.AI.elemAt x1 x2).getD 0 PV.u)).toI), (PV.i (((Go.AI.elemAt x1 x2).getD 1 PV.u)).toI), (PV.i (((Go.AI.elemAt x1 x2).getD 2 PV.u)).toI)]))) + 1000) * 25) ≤ 1099511627776)) then run k f_celluloidlaw02_BitsBack [] at_celluloidlaw02_BitsBack_L0 (S_celluloidlaw02_BitsBack_L0 (x1) ((Go.IntKind.wrap .i64 (x2 + (1 : Int)))) ((x3 ++ (List.set [[(PV.i (0 : Int)), (PV.i (0 : Int)), (PV.i (0 : Int))]] 0 [(PV.i (((Go.AI.elemAt x1 x2).getD 0 PV.u)).toI), (PV.i (((Go.AI.elemAt x1 x2).getD 1 PV.u)).toI), (PV.i (((Go.AI.elemAt x1 x2).getD 2 PV.u)).toI)]))) ((((r2).1.getD 0 PV.u)).toS) ((((r2).1.getD 1 PV.u)).toI))
  else none)
  else none)
  else run k f_celluloidlaw02_BitsBack [] at_celluloidlaw02_BitsBack_L0 (S_celluloidlaw02_BitsBack_L0 (x1) ((Go.IntKind.wrap .i64 (x2 + (1 : Int)))) (x3) (x4) (x5)))
  else none)
  else none)
  else (bif ((Int.tmod (Go.IntKind.wrap .u64 (((Go.AI.elemAt x1 x2).getD 0 PV.u)).toI) (4 : Int)) == (1 : Int)) then (bif (Go.AI.inB x2 (List.length x1)) then (bif (Go.AI.inB x2 (List.length x1)) then (call k f_bits_PutSigned [(PV.s x4), (PV.i x5), (PV.i (((Go.AI.elemAt x1 x2).getD 1 PV.u)).toI), (PV.i (((Go.AI.elemAt x1 x2).getD 2 PV.u)).toI)] []).bind fun r3 =>
  (bif ((((r3).1.getD 2 PV.u)).toI == (0 : Int)) then (bif (Go.AI.inB x2 (List.length x1)) then (bif (decide (((((List.length x3) + (List.length (List.set [[(PV.i (0 : Int)), (PV.i (0 : Int)), (PV.i (0 : Int))]] 0 [(PV.i (((Go.AI.elemAt x1 x2).getD 0 PV.u)).toI), (PV.i (((Go.AI.elemAt x1 x2).getD 1 PV.u)).toI), (PV.i (((Go.AI.elemAt x1 x2).getD 2 PV.u)).toI)]))) + 1000) * 25) ≤ 1099511627776)) then run k f_celluloidlaw02_BitsBack [] at_celluloidlaw02_BitsBack_L0 (S_celluloidlaw02_BitsBack_L0 (x1) ((Go.IntKind.wrap .i64 (x2 + (1 : Int)))) ((x3 ++ (List.set [[(PV.i (0 : Int)), (PV.i (0 : Int)), (PV.i (0 : Int))]] 0 [(PV.i (((Go.AI.elemAt x1 x2).getD 0 PV.u)).toI), (PV.i (((Go.AI.elemAt x1 x2).getD 1 PV.u)).toI), (PV.i (((Go.AI.elemAt x1 x2).getD 2 PV.u)).toI)]))) ((((r3).1.getD 0 PV.u)).toS) ((((r3).1.getD 1 PV.u)).toI))
  else none)
  else none)
  else run k f_celluloidlaw02_BitsBack [] at_celluloidlaw02_BitsBack_L0 (S_celluloidlaw02_BitsBack_L0 (x1) ((Go.IntKind.wrap .i64 (x2 + (1 : Int)))) (x3) (x4) (x5)))
  else none)
  else none)
  else (bif ((Int.tmod (Go.IntKind.wrap .u64 (((Go.AI.elemAt x1 x2).getD 0 PV.u)).toI) (4 : Int)) == (2 : Int)) then (bif (Go.AI.inB x2 (List.length x1)) then (bif (Go.AI.inB x2 (List.length x1)) then (call k f_bits_PutLittle [(PV.s x4), (PV.i x5), (PV.i (((Go.AI.elemAt x1 x2).getD 1 PV.u)).toI), (PV.i (((Go.AI.elemAt x1 x2).getD 2 PV.u)).toI)] []).bind fun r4 =>
  (bif ((((r4).1.getD 2 PV.u)).toI == (0 : Int)) then (bif (Go.AI.inB x2 (List.length x1)) then (bif (decide (((((List.length x3) + (List.length (List.set [[(PV.i (0 : Int)), (PV.i (0 : Int)), (PV.i (0 : Int))]] 0 [(PV.i (((Go.AI.elemAt x1 x2).getD 0 PV.u)).toI), (PV.i (((Go.AI.elemAt x1 x2).getD 1 PV.u)).toI), (PV.i (((Go.AI.elemAt x1 x2).getD 2 PV.u)).toI)]))) + 1000) * 25) ≤ 1099511627776)) then run k f_celluloidlaw02_BitsBack [] at_celluloidlaw02_BitsBack_L0 (S_celluloidlaw02_BitsBack_L0 (x1) ((Go.IntKind.wrap .i64 (x2 + (1 : Int)))) ((x3 ++ (List.set [[(PV.i (0 : Int)), (PV.i (0 : Int)), (PV.i (0 : Int))]] 0 [(PV.i (((Go.AI.elemAt x1 x2).getD 0 PV.u)).toI), (PV.i (((Go.AI.elemAt x1 x2).getD 1 PV.u)).toI), (PV.i (((Go.AI.elemAt x1 x2).getD 2 PV.u)).toI)]))) ((((r4).1.getD 0 PV.u)).toS) ((((r4).1.getD 1 PV.u)).toI))
  else none)
  else none)
  else run k f_celluloidlaw02_BitsBack [] at_celluloidlaw02_BitsBack_L0 (S_celluloidlaw02_BitsBack_L0 (x1) ((Go.IntKind.wrap .i64 (x2 + (1 : Int)))) (x3) (x4) (x5)))
  else none)
  else none)
  else (call k f_bits_PutAlign [(PV.s x4), (PV.i x5)] []).bind fun r5 =>
  (bif (Go.AI.inB x2 (List.length x1)) then (bif (decide (((((List.length x3) + (List.length (List.set [[(PV.i (0 : Int)), (PV.i (0 : Int)), (PV.i (0 : Int))]] 0 [(PV.i (((Go.AI.elemAt x1 x2).getD 0 PV.u)).toI), (PV.i (((Go.AI.elemAt x1 x2).getD 1 PV.u)).toI), (PV.i (((Go.AI.elemAt x1 x2).getD 2 PV.u)).toI)]))) + 1000) * 25) ≤ 1099511627776)) then run k f_celluloidlaw02_BitsBack [] at_celluloidlaw02_BitsBack_L0 (S_celluloidlaw02_BitsBack_L0 (x1) ((Go.IntKind.wrap .i64 (x2 + (1 : Int)))) ((x3 ++ (List.set [[(PV.i (0 : Int)), (PV.i (0 : Int)), (PV.i (0 : Int))]] 0 [(PV.i (((Go.AI.elemAt x1 x2).getD 0 PV.u)).toI), (PV.i (((Go.AI.elemAt x1 x2).getD 1 PV.u)).toI), (PV.i (((Go.AI.elemAt x1 x2).getD 2 PV.u)).toI)]))) ((((r5).1.getD 0 PV.u)).toS) ((((r5).1.getD 1 PV.u)).toI))
  else none)
  else none))))
  else none)
  else run k f_celluloidlaw02_BitsBack [] at_celluloidlaw02_BitsBack_L3 (S_celluloidlaw02_BitsBack_L3 ((((List.length x3) : Nat) : Int)) ((0 : Int)) (x3) (x4) (x5) (x4) ((0 : Int)))) := by kernel_rfl
theorem u_celluloidlaw02_BitsBack_L3 (k : Nat) (x1 : Int) (x2 : Int) (x3 : List (List PV)) (x4 : List UInt8) (x5 : Int) (x6 : List UInt8) (x7 : Int) : run (k + 1) f_celluloidlaw02_BitsBack [] at_celluloidlaw02_BitsBack_L3 (S_celluloidlaw02_BitsBack_L3 x1 x2 x3 x4 x5 x6 x7) =
  (bif (decide (x2 < x1)) then (bif (Go.AI.inB x2 (List.length x3)) then (bif (Go.AI.inB x2 (List.length x3)) then (bif ((Int.tmod (Go.IntKind.wrap .u64 (((Go.AI.elemAt x3 x2).getD 0 PV.u)).toI) (4 : Int)) == (0 : Int)) then (call k f_bits_Plain [(PV.s x6), (PV.i x7), (PV.i (((Go.AI.elemAt x3 x2).getD 2 PV.u)).toI)] []).bind fun r6 =>
  ((bif ((((r6).1.getD 3 PV.u)).toI != (0 : Int)) then some [(PV.b true)]
   else some [(PV.b ((((r6).1.getD 0 PV.u)).toI != (((Go.AI.elemAt x3 x2).getD 1 PV.u)).toI))])).bind fun r7 =>
  (bif ((r7.getD 0 PV.u)).toB then some ([(PV.b false)], [])
  else run k f_celluloidlaw02_BitsBack [] at_celluloidlaw02_BitsBack_L3 (S_celluloidlaw02_BitsBack_L3 (x1) ((Go.IntKind.wrap .i64 (x2 + (1 : Int)))) (x3) (x4) (x5) ((((r6).1.getD 1 PV.u)).toS) ((((r6).1.getD 2 PV.u)).toI)))
  else (bif ((Int.tmod (Go.IntKind.wrap .u64 (((Go.AI.elemAt x3 x2).getD 0 PV.u)).toI) (4 : Int)) == (1 : Int)) then (call k f_bits_Signed [(PV.s x6), (PV.i x7), (PV.i (((Go.AI.elemAt x3 x2).getD 2 PV.u)).toI)] []).bind fun r8 =>
  ((bif ((((r8).1.getD 3 PV.u)).toI != (0 : Int)) then some [(PV.b true)]
   else some [(PV.b ((((r8).1.getD 0 PV.u)).toI != (((Go.AI.elemAt x3 x2).getD 1 PV.u)).toI))])).bind fun r9 =>
  (bif ((r9.getD 0 PV.u)).toB then some ([(PV.b false)], [])
  else run k f_celluloidlaw02_BitsBack [] at_celluloidlaw02_BitsBack_L3 (S_celluloidlaw02_BitsBack_L3 (x1) ((Go.IntKind.wrap .i64 (x2 + (1 : Int)))) (x3) (x4) (x5) ((((r8).1.getD 1 PV.u)).toS) ((((r8).1.getD 2 PV.u)).toI)))
  else (bif ((Int.tmod (Go.IntKind.wrap .u64 (((Go.AI.elemAt x3 x2).getD 0 PV.u)).toI) (4 : Int)) == (2 : Int)) then (call k f_bits_Little [(PV.s x6), (PV.i x7), (PV.i (((Go.AI.elemAt x3 x2).getD 2 PV.u)).toI)] []).bind fun r10 =>
  ((bif ((((r10).1.getD 3 PV.u)).toI != (0 : Int)) then some [(PV.b true)]
   else some [(PV.b ((((r10).1.getD 0 PV.u)).toI != (((Go.AI.elemAt x3 x2).getD 1 PV.u)).toI))])).bind fun r11 =>
  (bif ((r11.getD 0 PV.u)).toB then some ([(PV.b false)], [])
  else run k f_celluloidlaw02_BitsBack [] at_celluloidlaw02_BitsBack_L3 (S_celluloidlaw02_BitsBack_L3 (x1) ((Go.IntKind.wrap .i64 (x2 + (1 : Int)))) (x3) (x4) (x5) ((((r10).1.getD 1 PV.u)).toS) ((((r10).1.getD 2 PV.u)).toI)))
  else (call k f_bits_Align [(PV.s x6), (PV.i x7)] []).bind fun r12 =>
  (bif ((((Go.AI.elemAt x3 x2).getD 1 PV.u)).toI != (((Go.AI.elemAt x3 x2).getD 1 PV.u)).toI) then some ([(PV.b false)], [])
  else run k f_celluloidlaw02_BitsBack [] at_celluloidlaw02_BitsBack_L3 (S_celluloidlaw02_BitsBack_L3 (x1) ((Go.IntKind.wrap .i64 (x2 + (1 : Int)))) (x3) (x4) (x5) ((((r12).1.getD 0 PV.u)).toS) ((((r12).1.getD 1 PV.u)).toI))))))
  else none)
  else none)
  else ((call k f_bits_Align [(PV.s x6), (PV.i x7)] []).bind fun r13 =>
   (bif ((((r13).1.getD 1 PV.u)).toI == (Go.IntKind.wrap .i64 ((8 : Int) * (((List.length x4) : Nat) : Int)))) then (call k f_celluloidlaw02_awake [] []).bind fun r14 =>
   some [(PV.b (((r14).1.getD 0 PV.u)).toB)]
   else some [(PV.b false)])).bind fun r15 =>
  some ([(PV.b ((r15.getD 0 PV.u)).toB)], [])) := by kernel_rfl
/- celluloid/celluloidlaw02.awake -/
theorem u_celluloidlaw02_awake (k : Nat)  : call (k + 1) f_celluloidlaw02_awake [] [] =
  (call k f_bits_PutPlain [(PV.s []), (PV.i (0 : Int)), (PV.i (5 : Int)), (PV.i (3 : Int))] []).bind fun r1 =>
  (call k f_bits_PutSigned [(PV.s (((r1).1.getD 0 PV.u)).toS), (PV.i (((r1).1.getD 1 PV.u)).toI), (PV.i (-1 : Int)), (PV.i (2 : Int))] []).bind fun r2 =>
  (call k f_bits_Signed [(PV.s [184]), (PV.i (3 : Int)), (PV.i (2 : Int))] []).bind fun r3 =>
  ((bif ((((r2).1.getD 0 PV.u)).toS == [184]) then (bif ((((r2).1.getD 1 PV.u)).toI == (3 : Int)) then (bif ((((r1).1.getD 2 PV.u)).toI == (0 : Int)) then (bif ((((r2).1.getD 2 PV.u)).toI == (0 : Int)) then (bif ((((r3).1.getD 0 PV.u)).toI == (-1 : Int)) then (bif ((((r3).1.getD 3 PV.u)).toI == (0 : Int)) then (call k f_bits_Width [(PV.l [[(PV.i (1 : Int))]])] []).bind fun r4 =>
   some [(PV.b ((((r4).1.getD 0 PV.u)).toI == (2 : Int)))]
   else some [(PV.b false)])
   else some [(PV.b false)])
   else some [(PV.b false)])
   else some [(PV.b false)])
   else some [(PV.b false)])
   else some [(PV.b false)])).bind fun r5 =>
  some ([(PV.b ((r5.getD 0 PV.u)).toB)], []) := by kernel_rfl
/- celluloid/bits.Plain -/
noncomputable def S_bits_Plain_L1 (x1 : Int) (x2 : Int) (x3 : Int) (x4 : List UInt8) (x5 : Int) (x6 : List UInt8) (x7 : Int) : St := mkSt [(1, .v (.int .i64 x1)), (2, .v (.ptr (.n 1 0 0) 0)), (5, .v (.ptr (.n 1 2 0) 0)), (7, .v (.int .i64 x2)), (8, .v (.int .i64 x3))] [((.n 1 0 0), .cells 23 [.str x4, .int .i64 x5]), ((.n 1 2 0), .cells 23 [.str x6, .int .i64 x7])] 1000 64
noncomputable def at_bits_Plain_L1 : List Item := (atLoop Try.f14 1)
theorem u_bits_Plain (k : Nat) (a1 : List UInt8) (a2 : Int) (a3 : Int) : call (k + 1) f_bits_Plain [.s a1, .i a2, .i a3] [] =
  ((call k f_bits_right [(PV.s a1), (PV.i a2)] []).bind fun r1 =>
   (bif (!(((r1).1.getD 0 PV.u)).toB) then some [(PV.b true)]
   else (bif (decide (a3 < (0 : Int))) then some [(PV.b true)]
   else some [(PV.b (decide (a3 > (31 : Int))))]))).bind fun r2 =>
  (bif ((r2.getD 0 PV.u)).toB then some ([(PV.i (0 : Int)), (PV.s []), (PV.i (0 : Int)), (PV.i (1 : Int))], [])
  else (bif (decide ((Go.IntKind.wrap .i64 (a2 + a3)) > (Go.IntKind.wrap .i64 ((8 : Int) * (((List.length a1) : Nat) : Int))))) then some ([(PV.i (0 : Int)), (PV.s []), (PV.i (0 : Int)), (PV.i (2 : Int))], [])
  else run k f_bits_Plain [] at_bits_Plain_L1 (S_bits_Plain_L1 (a3) ((0 : Int)) (a2) (a1) (a2) ([]) ((0 : Int))))) := by kernel_rfl
theorem u_bits_Plain_L1 (k : Nat) (x1 : Int) (x2 : Int) (x3 : Int) (x4 : List UInt8) (x5 : Int) (x6 : List UInt8) (x7 : Int) : run (k + 1) f_bits_Plain [] at_bits_Plain_L1 (S_bits_Plain_L1 x1 x2 x3 x4 x5 x6 x7) =
  (bif (decide (x3 < (Go.IntKind.wrap .i64 (x5 + x1)))) then (bif (Go.AI.inB (Go.IntKind.wrap .i64 (Int.tdiv x3 (8 : Int))) (List.length x4)) then (bif (decide ((0 : Int) ≤ (Go.IntKind.wrap .i64 ((7 : Int) - (Int.tmod x3 (8 : Int)))))) then run k f_bits_Plain [] at_bits_Plain_L1 (S_bits_Plain_L1 (x1) ((Go.AI.bitsOp Go.BinOp.or .i64 (Go.AI.shl .i64 x2 (1 : Int)) (Go.IntKind.wrap .i64 (Go.AI.bitsOp Go.BinOp.and .u8 (Go.AI.shr .u8 (Go.AI.bt x4 (Go.IntKind.wrap .i64 (Int.tdiv x3 (8 : Int)))) (Go.IntKind.wrap .i64 ((7 : Int) - (Int.tmod x3 (8 : Int))))) (1 : Int))))) ((Go.IntKind.wrap .i64 (x3 + (1 : Int)))) (x4) (x5) (x6) (x7))
  else none)
  else none)
  else some ([(PV.i x2), (PV.s x4), (PV.i (Go.IntKind.wrap .i64 (x5 + x1))), (PV.i (0 : Int))], [])) := by kernel_rfl
/- celluloid/bits.Signed -/
theorem u_bits_Signed (k : Nat) (a1 : List UInt8) (a2 : Int) (a3 : Int) : call (k + 1) f_bits_Signed [.s a1, .i a2, .i a3] [] =
  (call k f_bits_Plain [(PV.s a1), (PV.i a2), (PV.i a3)] []).bind fun r1 =>
  ((bif ((((r1).1.getD 3 PV.u)).toI == (0 : Int)) then (bif (decide (a3 > (0 : Int))) then (bif (decide ((0 : Int) ≤ (Go.IntKind.wrap .i64 (a3 - (1 : Int))))) then some [(PV.b ((Go.AI.shr .i64 (((r1).1.getD 0 PV.u)).toI (Go.IntKind.wrap .i64 (a3 - (1 : Int)))) == (1 : Int)))]
   else none)
   else some [(PV.b false)])
   else some [(PV.b false)])).bind fun r2 =>
  (bif ((r2.getD 0 PV.u)).toB then (bif (decide ((0 : Int) ≤ a3)) then some ([(PV.i (Go.IntKind.wrap .i64 ((((r1).1.getD 0 PV.u)).toI - (Go.AI.shl .i64 (1 : Int) a3)))), (PV.s (((r1).1.getD 1 PV.u)).toS), (PV.i (((r1).1.getD 2 PV.u)).toI), (PV.i (((r1).1.getD 3 PV.u)).toI)], [])
  else none)
  else some ([(PV.i (((r1).1.getD 0 PV.u)).toI), (PV.s (((r1).1.getD 1 PV.u)).toS), (PV.i (((r1).1.getD 2 PV.u)).toI), (PV.i (((r1).1.getD 3 PV.u)).toI)], [])) := by kernel_rfl
/- celluloid/celluloidref02.Plain -/
noncomputable def S_celluloidref02_Plain_L0 (x1 : Int) (x2 : Int) (x3 : Int) (x4 : List UInt8) (x5 : Int) (x6 : List UInt8) (x7 : Int) : St := mkSt [(1, .v (.int .i64 x1)), (2, .v (.ptr (.n 1 0 0) 0)), (5, .v (.ptr (.n 1 2 0) 0)), (7, .v (.int .i64 x2)), (8, .v (.int .i64 x3))] [((.n 1 0 0), .cells 29 [.str x4, .int .i64 x5]), ((.n 1 2 0), .cells 29 [.str x6, .int .i64 x7])] 1000 54
noncomputable def at_celluloidref02_Plain_L0 : List Item := (atLoop Try.f16 0)
theorem u_celluloidref02_Plain (k : Nat) (a1 : List UInt8) (a2 : Int) (a3 : Int) : call (k + 1) f_celluloidref02_Plain [.s a1, .i a2, .i a3] [] =
  ((call k f_celluloidref02_Right [(PV.s a1), (PV.i a2)] []).bind fun r1 =>
   (bif (!(((r1).1.getD 0 PV.u)).toB) then some [(PV.b true)]
   else (bif (decide (a3 < (0 : Int))) then some [(PV.b true)]
   else some [(PV.b (decide (a3 > (31 : Int))))]))).bind fun r2 =>
  (bif ((r2.getD 0 PV.u)).toB then some ([(PV.i (0 : Int)), (PV.s []), (PV.i (0 : Int)), (PV.i (1 : Int))], [])
  else (bif (decide ((Go.IntKind.wrap .i64 ((Go.IntKind.wrap .i64 ((8 : Int) * (((List.length a1) : Nat) : Int))) - a2)) < a3)) then some ([(PV.i (0 : Int)), (PV.s []), (PV.i (0 : Int)), (PV.i (2 : Int))], [])
  else run k f_celluloidref02_Plain [] at_celluloidref02_Plain_L0 (S_celluloidref02_Plain_L0 (a3) ((0 : Int)) ((0 : Int)) (a1) (a2) ([]) ((0 : Int))))) := by kernel_rfl
theorem u_celluloidref02_Plain_L0 (k : Nat) (x1 : Int) (x2 : Int) (x3 : Int) (x4 : List UInt8) (x5 : Int) (x6 : List UInt8) (x7 : Int) : run (k + 1) f_celluloidref02_Plain [] at_celluloidref02_Plain_L0 (S_celluloidref02_Plain_L0 x1 x2 x3 x4 x5 x6 x7) =
  (bif (decide (x3 < x1)) then (call k f_celluloidref02_Bit [(PV.s x4), (PV.i (Go.IntKind.wrap .i64 (x5 + x3)))] []).bind fun r3 =>
  run k f_celluloidref02_Plain [] at_celluloidref02_Plain_L0 (S_celluloidref02_Plain_L0 (x1) ((Go.IntKind.wrap .i64 ((Go.IntKind.wrap .i64 ((2 : Int) * x2)) + (((r3).1.getD 0 PV.u)).toI))) ((Go.IntKind.wrap .i64 (x3 + (1 : Int)))) (x4) (x5) (x6) (x7))
  else some ([(PV.i x2), (PV.s x4), (PV.i (Go.IntKind.wrap .i64 (x5 + x1))), (PV.i (0 : Int))], [])) := by kernel_rfl
/- celluloid/celluloidlaw02.rref -/
theorem u_celluloidlaw02_rref (k : Nat) (a1 : List UInt8) (a2 : Int) : call (k + 1) f_celluloidlaw02_rref [.s a1, .i a2] [] =
  some ([(PV.s a1), (PV.i a2)], []) := by kernel_rfl
/- celluloid/celluloidref02.Signed -/
theorem u_celluloidref02_Signed (k : Nat) (a1 : List UInt8) (a2 : Int) (a3 : Int) : call (k + 1) f_celluloidref02_Signed [.s a1, .i a2, .i a3] [] =
  (call k f_celluloidref02_Plain [(PV.s a1), (PV.i a2), (PV.i a3)] []).bind fun r1 =>
  ((bif ((((r1).1.getD 3 PV.u)).toI == (0 : Int)) then (bif (decide (a3 > (0 : Int))) then (call k f_celluloidref02_Power [(PV.i a3)] []).bind fun r2 =>
   some [(PV.b (decide ((Go.IntKind.wrap .i64 ((2 : Int) * (((r1).1.getD 0 PV.u)).toI)) ≥ (((r2).1.getD 0 PV.u)).toI)))]
   else some [(PV.b false)])
   else some [(PV.b false)])).bind fun r3 =>
  (bif ((r3.getD 0 PV.u)).toB then (call k f_celluloidref02_Power [(PV.i a3)] []).bind fun r4 =>
  some ([(PV.i (Go.IntKind.wrap .i64 ((((r1).1.getD 0 PV.u)).toI - (((r4).1.getD 0 PV.u)).toI))), (PV.s (((r1).1.getD 1 PV.u)).toS), (PV.i (((r1).1.getD 2 PV.u)).toI), (PV.i (((r1).1.getD 3 PV.u)).toI)], [])
  else some ([(PV.i (((r1).1.getD 0 PV.u)).toI), (PV.s (((r1).1.getD 1 PV.u)).toS), (PV.i (((r1).1.getD 2 PV.u)).toI), (PV.i (((r1).1.getD 3 PV.u)).toI)], [])) := by kernel_rfl
/- celluloid/bits.Align -/
theorem u_bits_Align (k : Nat) (a1 : List UInt8) (a2 : Int) : call (k + 1) f_bits_Align [.s a1, .i a2] [] =
  (call k f_bits_right [(PV.s a1), (PV.i a2)] []).bind fun r1 =>
  (bif (((r1).1.getD 0 PV.u)).toB then some ([(PV.s a1), (PV.i (Go.IntKind.wrap .i64 ((Go.IntKind.wrap .i64 (Int.tdiv (Go.IntKind.wrap .i64 (a2 + (7 : Int))) (8 : Int))) * (8 : Int))))], [])
  else some ([(PV.s a1), (PV.i a2)], [])) := by kernel_rfl
/- celluloid/celluloidref02.Align -/
noncomputable def S_celluloidref02_Align_L0 (x1 : List UInt8) (x2 : Int) (x3 : List UInt8) (x4 : Int) : St := mkSt [(1, .v (.ptr (.n 1 0 0) 0)), (2, .v (.ptr (.n 1 1 0) 0)), (6, .any), (7, .any), (8, .any), (9, .any)] [((.n 1 0 0), .cells 29 [.str x1, .int .i64 x2]), ((.n 1 1 0), .cells 29 [.str x3, .int .i64 x4])] 1000 16
noncomputable def at_celluloidref02_Align_L0 : List Item := (atLoop Try.f20 0)
theorem u_celluloidref02_Align (k : Nat) (a1 : List UInt8) (a2 : Int) : call (k + 1) f_celluloidref02_Align [.s a1, .i a2] [] =
  run k f_celluloidref02_Align [] at_celluloidref02_Align_L0 (S_celluloidref02_Align_L0 (a1) (a2) ([]) ((0 : Int))) := by kernel_rfl
theorem u_celluloidref02_Align_L0 (k : Nat) (x1 : List UInt8) (x2 : Int) (x3 : List UInt8) (x4 : Int) : run (k + 1) f_celluloidref02_Align [] at_celluloidref02_Align_L0 (S_celluloidref02_Align_L0 x1 x2 x3 x4) =
  ((call k f_celluloidref02_Right [(PV.s x1), (PV.i x2)] []).bind fun r1 =>
   (bif (((r1).1.getD 0 PV.u)).toB then some [(PV.b ((Int.tmod x2 (8 : Int)) != (0 : Int)))]
   else some [(PV.b false)])).bind fun r2 =>
  (bif ((r2.getD 0 PV.u)).toB then run k f_celluloidref02_Align [] at_celluloidref02_Align_L0 (S_celluloidref02_Align_L0 (x1) ((Go.IntKind.wrap .i64 (x2 + (1 : Int)))) (x3) (x4))
  else some ([(PV.s x1), (PV.i x2)], [])) := by kernel_rfl
/- celluloid/celluloidref02.Width -/
noncomputable def S_celluloidref02_Width_L0 (x1 : Int) (x2 : Int) : St := mkSt [(0, .v (.int .i64 x1)), (3, .v (.int .i64 x2)), (7, .any), (8, .any), (11, .any), (12, .any), (13, .any), (14, .any), (15, .any), (16, .any), (17, .any), (18, .any), (19, .any), (20, .any), (21, .any), (22, .any), (23, .any), (24, .any), (25, .any), (26, .any), (27, .any), (28, .any), (29, .any), (30, .any), (31, .any), (32, .any), (35, .any), (36, .any), (37, .any), (38, .any), (39, .any), (40, .any), (41, .any), (42, .any), (43, .any), (44, .any), (45, .any)] [] 1000 50
noncomputable def at_celluloidref02_Width_L0 : List Item := (atLoop Try.f21 0)
theorem u_celluloidref02_Width (k : Nat) (a1 : Int) : call (k + 1) f_celluloidref02_Width [.i a1] [] =
  run k f_celluloidref02_Width [] at_celluloidref02_Width_L0 (S_celluloidref02_Width_L0 (a1) ((0 : Int))) := by kernel_rfl
theorem u_celluloidref02_Width_L0 (k : Nat) (x1 : Int) (x2 : Int) : run (k + 1) f_celluloidref02_Width [] at_celluloidref02_Width_L0 (S_celluloidref02_Width_L0 x1 x2) =
  ((bif (decide (x2 < (64 : Int))) then (bif (x1 != (0 : Int)) then (bif (decide (x2 > (0 : Int))) then (bif (decide (x2 < (63 : Int))) then (call k f_celluloidref02_Power [(PV.i (Go.IntKind.wrap .i64 (x2 - (1 : Int))))] []).bind fun r1 =>
   (bif (decide (x1 ≥ (Go.IntKind.wrap .i64 ((0 : Int) - (((r1).1.getD 0 PV.u)).toI)))) then (call k f_celluloidref02_Power [(PV.i (Go.IntKind.wrap .i64 (x2 - (1 : Int))))] []).bind fun r2 =>
   (bif (!(decide (x1 < (((r2).1.getD 0 PV.u)).toI))) then (bif (x2 == (63 : Int)) then (bif (decide (x1 ≥ (-4611686018427387904 : Int))) then some [(PV.b (!(decide (x1 < (4611686018427387904 : Int)))))]
   else some [(PV.b true)])
   else some [(PV.b true)])
   else some [(PV.b false)])
   else (bif (x2 == (63 : Int)) then (bif (decide (x1 ≥ (-4611686018427387904 : Int))) then some [(PV.b (!(decide (x1 < (4611686018427387904 : Int)))))]
   else some [(PV.b true)])
   else some [(PV.b true)]))
   else (bif (x2 == (63 : Int)) then (bif (decide (x1 ≥ (-4611686018427387904 : Int))) then some [(PV.b (!(decide (x1 < (4611686018427387904 : Int)))))]
   else some [(PV.b true)])
   else some [(PV.b true)]))
   else (bif (x2 == (63 : Int)) then (bif (decide (x1 ≥ (-4611686018427387904 : Int))) then some [(PV.b (!(decide (x1 < (4611686018427387904 : Int)))))]
   else some [(PV.b true)])
   else some [(PV.b true)]))
   else some [(PV.b false)])
   else some [(PV.b false)])).bind fun r3 =>
  (bif ((r3.getD 0 PV.u)).toB then run k f_celluloidref02_Width [] at_celluloidref02_Width_L0 (S_celluloidref02_Width_L0 (x1) ((Go.IntKind.wrap .i64 (x2 + (1 : Int)))))
  else some ([(PV.i x2)], [])) := by kernel_rfl
/- celluloid/bits.Width -/
noncomputable def S_bits_Width_L0 (x1 : Int) (x2 : List (List PV)) (x3 : Int) (x4 : Int) : St := mkSt [(3, .v (.int .i64 x1)), (6, .v (.sl 3 x2)), (7, .v (.int .i64 x3)), (8, .v (.int .i64 x4))] [] 1000 26
noncomputable def at_bits_Width_L0 : List Item := (atLoop Try.f22 0)
theorem u_bits_Width (k : Nat) (a1 : List (List PV)) : call (k + 1) f_bits_Width [.l a1] [] =
  run k f_bits_Width [] at_bits_Width_L0 (S_bits_Width_L0 ((0 : Int)) (a1) ((((List.length a1) : Nat) : Int)) ((0 : Int))) := by kernel_rfl
theorem u_bits_Width_L0 (k : Nat) (x1 : Int) (x2 : List (List PV)) (x3 : Int) (x4 : Int) : run (k + 1) f_bits_Width [] at_bits_Width_L0 (S_bits_Width_L0 x1 x2 x3 x4) =
  (bif (decide (x4 < x3)) then (bif (Go.AI.inB x4 (List.length x2)) then (bif (decide ((((Go.AI.elemAt x2 x4).getD 0 PV.u)).toI < (0 : Int))) then (call k f_math_bits_Len [(PV.i (Go.IntKind.wrap .u64 (Go.AI.bitsOp Go.BinOp.xor .i64 (-1 : Int) (((Go.AI.elemAt x2 x4).getD 0 PV.u)).toI)))] []).bind fun r1 =>
  run k f_bits_Width [] at_bits_Width_L0 (S_bits_Width_L0 ((bif (decide ((Go.IntKind.wrap .i64 ((((r1).1.getD 0 PV.u)).toI + (1 : Int))) > x1)) then (Go.IntKind.wrap .i64 ((((r1).1.getD 0 PV.u)).toI + (1 : Int))) else x1)) (x2) (x3) ((Go.IntKind.wrap .i64 (x4 + (1 : Int)))))
  else (bif ((((Go.AI.elemAt x2 x4).getD 0 PV.u)).toI == (0 : Int)) then run k f_bits_Width [] at_bits_Width_L0 (S_bits_Width_L0 (x1) (x2) (x3) ((Go.IntKind.wrap .i64 (x4 + (1 : Int)))))
  else (call k f_math_bits_Len [(PV.i (Go.IntKind.wrap .u64 (((Go.AI.elemAt x2 x4).getD 0 PV.u)).toI))] []).bind fun r2 =>
  run k f_bits_Width [] at_bits_Width_L0 (S_bits_Width_L0 ((bif (decide ((Go.IntKind.wrap .i64 ((((r2).1.getD 0 PV.u)).toI + (1 : Int))) > x1)) then (Go.IntKind.wrap .i64 ((((r2).1.getD 0 PV.u)).toI + (1 : Int))) else x1)) (x2) (x3) ((Go.IntKind.wrap .i64 (x4 + (1 : Int)))))))
  else none)
  else some ([(PV.i x1)], [])) := by kernel_rfl
/- celluloid/bits.PlainWidth -/
noncomputable def S_bits_PlainWidth_L0 (x1 : Int) (x2 : List (List PV)) (x3 : Int) (x4 : Int) : St := mkSt [(3, .v (.int .i64 x1)), (6, .v (.sl 3 x2)), (7, .v (.int .i64 x3)), (8, .v (.int .i64 x4))] [] 1000 20
noncomputable def at_bits_PlainWidth_L0 : List Item := (atLoop Try.f23 0)
theorem u_bits_PlainWidth (k : Nat) (a1 : List (List PV)) : call (k + 1) f_bits_PlainWidth [.l a1] [] =
  run k f_bits_PlainWidth [] at_bits_PlainWidth_L0 (S_bits_PlainWidth_L0 ((0 : Int)) (a1) ((((List.length a1) : Nat) : Int)) ((0 : Int))) := by kernel_rfl
theorem u_bits_PlainWidth_L0 (k : Nat) (x1 : Int) (x2 : List (List PV)) (x3 : Int) (x4 : Int) : run (k + 1) f_bits_PlainWidth [] at_bits_PlainWidth_L0 (S_bits_PlainWidth_L0 x1 x2 x3 x4) =
  (bif (decide (x4 < x3)) then (bif (Go.AI.inB x4 (List.length x2)) then (call k f_math_bits_Len [(PV.i (Go.IntKind.wrap .u64 (bif (decide ((0 : Int) > (((Go.AI.elemAt x2 x4).getD 0 PV.u)).toI)) then (0 : Int) else (((Go.AI.elemAt x2 x4).getD 0 PV.u)).toI)))] []).bind fun r1 =>
  run k f_bits_PlainWidth [] at_bits_PlainWidth_L0 (S_bits_PlainWidth_L0 ((bif (decide ((((r1).1.getD 0 PV.u)).toI > x1)) then (((r1).1.getD 0 PV.u)).toI else x1)) (x2) (x3) ((Go.IntKind.wrap .i64 (x4 + (1 : Int)))))
  else none)
  else some ([(PV.i x1)], [])) := by kernel_rfl
/- celluloid/bits.PutPlain -/
noncomputable def S_bits_PutPlain_L0 (x1 : Int) (x2 : Int) (x3 : List (List PV)) (x4 : List UInt8) (x5 : Int) (x6 : List UInt8) (x7 : Int) : St := mkSt [(1, .v (.int .i64 x1)), (3, .v (.ptr (.n 1 0 0) 0)), (6, .v (.ptr (.n 1 1 0) 0)), (8, .v (.wr (.w 8))), (9, .v (.int .i64 x2))] [((.w 8), .row 5 x3), ((.n 1 0 0), .cells 41 [.str x4, .int .i64 x5]), ((.n 1 1 0), .cells 41 [.str x6, .int .i64 x7])] 1000 96
noncomputable def at_bits_PutPlain_L0 : List Item := (atLoop Try.f24 0)
theorem u_bits_PutPlain (k : Nat) (a1 : List UInt8) (a2 : Int) (a3 : Int) (a4 : Int) : call (k + 1) f_bits_PutPlain [.s a1, .i a2, .i a3, .i a4] [] =
  ((bif (decide (a4 < (0 : Int))) then some [(PV.b true)]
   else (bif (decide (a4 > (31 : Int))) then some [(PV.b true)]
   else (bif (decide (a3 < (0 : Int))) then some [(PV.b true)]
   else (bif (decide ((0 : Int) ≤ a4)) then some [(PV.b ((Go.AI.shr .i64 a3 a4) != (0 : Int)))]
   else none))))).bind fun r1 =>
  (bif ((r1.getD 0 PV.u)).toB then some ([(PV.s []), (PV.i (0 : Int)), (PV.i (1 : Int))], [])
  else ((bif (decide (a2 < (0 : Int))) then some [(PV.b true)]
   else (bif (decide (a2 > (7 : Int))) then some [(PV.b true)]
   else (bif ((((List.length (Go.AI.ofBytes a1)) : Nat) : Int) == (0 : Int)) then some [(PV.b true)]
   else (bif (Go.AI.inB (Go.IntKind.wrap .i64 ((((List.length (Go.AI.ofBytes a1)) : Nat) : Int) - (1 : Int))) (List.length (Go.AI.ofBytes a1))) then (bif (Go.AI.inB (Go.IntKind.wrap .i64 ((((List.length (Go.AI.ofBytes a1)) : Nat) : Int) - (1 : Int))) (List.length (Go.AI.ofBytes a1))) then (bif (decide ((0 : Int) ≤ a2)) then some [(PV.b ((Go.AI.bitsOp Go.BinOp.and .u8 (((Go.AI.elemAt (Go.AI.ofBytes a1) (Go.IntKind.wrap .i64 ((((List.length (Go.AI.ofBytes a1)) : Nat) : Int) - (1 : Int)))).getD 0 PV.u)).toI (Go.IntKind.wrap .u8 ((Go.AI.shl .u8 (1 : Int) a2) - (1 : Int)))) != (0 : Int)))]
   else none)
   else none)
   else none))))).bind fun r2 =>
  (bif ((r2.getD 0 PV.u)).toB then run k f_bits_PutPlain [] at_bits_PutPlain_L0 (S_bits_PutPlain_L0 (a3) ((Go.IntKind.wrap .i64 (a4 - (1 : Int)))) ((Go.AI.ofBytes a1)) (a1) ((0 : Int)) ([]) ((0 : Int)))
  else run k f_bits_PutPlain [] at_bits_PutPlain_L0 (S_bits_PutPlain_L0 (a3) ((Go.IntKind.wrap .i64 (a4 - (1 : Int)))) ((Go.AI.ofBytes a1)) (a1) (a2) ([]) ((0 : Int))))) := by kernel_rfl
theorem u_bits_PutPlain_L0 (k : Nat) (x1 : Int) (x2 : Int) (x3 : List (List PV)) (x4 : List UInt8) (x5 : Int) (x6 : List UInt8) (x7 : Int) : run (k + 1) f_bits_PutPlain [] at_bits_PutPlain_L0 (S_bits_PutPlain_L0 x1 x2 x3 x4 x5 x6 x7) =
  (bif (decide (x2 ≥ (0 : Int))) then (bif (x5 == (0 : Int)) then (bif (decide (((((List.length x3) + 1) + 1000) * 2) ≤ 1099511627776)) then (bif (Go.AI.inB (Go.IntKind.wrap .i64 ((((List.length (x3 ++ [[(PV.i (0 : Int))]])) : Nat) : Int) - (1 : Int))) (List.length (x3 ++ [[(PV.i (0 : Int))]]))) then (bif (Go.AI.inB (Go.IntKind.wrap .i64 ((((List.length (x3 ++ [[(PV.i (0 : Int))]])) : Nat) : Int) - (1 : Int))) (List.length (x3 ++ [[(PV.i (0 : Int))]]))) then (bif (decide ((0 : Int) ≤ x2)) then (bif (Go.AI.inB (Go.IntKind.wrap .i64 ((((List.length (x3 ++ [[(PV.i (0 : Int))]])) : Nat) : Int) - (1 : Int))) (List.length (x3 ++ [[(PV.i (0 : Int))]]))) then (bif (Go.AI.inB (Go.IntKind.wrap .i64 ((((List.length (x3 ++ [[(PV.i (0 : Int))]])) : Nat) : Int) - (1 : Int))) (List.length (x3 ++ [[(PV.i (0 : Int))]]))) then run k f_bits_PutPlain [] at_bits_PutPlain_L0 (S_bits_PutPlain_L0 (x1) ((Go.IntKind.wrap .i64 (x2 - (1 : Int)))) ((List.set (x3 ++ [[(PV.i (0 : Int))]]) (Int.toNat (Go.IntKind.wrap .i64 ((((List.length (x3 ++ [[(PV.i (0 : Int))]])) : Nat) : Int) - (1 : Int)))) (Go.AI.putAt (Go.AI.elemAt (x3 ++ [[(PV.i (0 : Int))]]) (Go.IntKind.wrap .i64 ((((List.length (x3 ++ [[(PV.i (0 : Int))]])) : Nat) : Int) - (1 : Int)))) 0 [(PV.i (Go.AI.bitsOp Go.BinOp.or .u8 (((Go.AI.elemAt (x3 ++ [[(PV.i (0 : Int))]]) (Go.IntKind.wrap .i64 ((((List.length (x3 ++ [[(PV.i (0 : Int))]])) : Nat) : Int) - (1 : Int)))).getD 0 PV.u)).toI (Go.AI.shl .u8 (Go.IntKind.wrap .u8 (Go.AI.bitsOp Go.BinOp.and .i64 (Go.AI.shr .i64 x1 x2) (1 : Int))) (7 : Int))))]))) (x4) ((7 : Int)) (x6) (x7))
  else none)
  else none)
  else none)
  else none)
  else none)
  else none)
  else (bif (Go.AI.inB (Go.IntKind.wrap .i64 ((((List.length x3) : Nat) : Int) - (1 : Int))) (List.length x3)) then (bif (Go.AI.inB (Go.IntKind.wrap .i64 ((((List.length x3) : Nat) : Int) - (1 : Int))) (List.length x3)) then (bif (decide ((0 : Int) ≤ x2)) then (bif (decide ((0 : Int) ≤ (Go.IntKind.wrap .i64 (x5 - (1 : Int))))) then (bif (Go.AI.inB (Go.IntKind.wrap .i64 ((((List.length x3) : Nat) : Int) - (1 : Int))) (List.length x3)) then (bif (Go.AI.inB (Go.IntKind.wrap .i64 ((((List.length x3) : Nat) : Int) - (1 : Int))) (List.length x3)) then run k f_bits_PutPlain [] at_bits_PutPlain_L0 (S_bits_PutPlain_L0 (x1) ((Go.IntKind.wrap .i64 (x2 - (1 : Int)))) ((List.set x3 (Int.toNat (Go.IntKind.wrap .i64 ((((List.length x3) : Nat) : Int) - (1 : Int)))) (Go.AI.putAt (Go.AI.elemAt x3 (Go.IntKind.wrap .i64 ((((List.length x3) : Nat) : Int) - (1 : Int)))) 0 [(PV.i (Go.AI.bitsOp Go.BinOp.or .u8 (((Go.AI.elemAt x3 (Go.IntKind.wrap .i64 ((((List.length x3) : Nat) : Int) - (1 : Int)))).getD 0 PV.u)).toI (Go.AI.shl .u8 (Go.IntKind.wrap .u8 (Go.AI.bitsOp Go.BinOp.and .i64 (Go.AI.shr .i64 x1 x2) (1 : Int))) (Go.IntKind.wrap .i64 (x5 - (1 : Int))))))]))) (x4) ((Go.IntKind.wrap .i64 (x5 - (1 : Int)))) (x6) (x7))
  else none)
  else none)
  else none)
  else none)
  else none)
  else none))
  else some ([(PV.s (Go.AI.toBytes x3)), (PV.i x5), (PV.i (0 : Int))], [])) := by kernel_rfl
/- celluloid/bits.PutSigned -/
theorem u_bits_PutSigned (k : Nat) (a1 : List UInt8) (a2 : Int) (a3 : Int) (a4 : Int) : call (k + 1) f_bits_PutSigned [.s a1, .i a2, .i a3, .i a4] [] =
  ((bif (decide (a4 < (0 : Int))) then some [(PV.b true)]
   else (bif (decide (a4 > (31 : Int))) then some [(PV.b true)]
   else (call k f_bits_Width [(PV.l (List.set [[(PV.i (0 : Int))]] 0 [(PV.i a3)]))] []).bind fun r1 =>
   some [(PV.b (decide ((((r1).1.getD 0 PV.u)).toI > a4)))]))).bind fun r2 =>
  (bif ((r2.getD 0 PV.u)).toB then some ([(PV.s []), (PV.i (0 : Int)), (PV.i (1 : Int))], [])
  else (bif (decide (a3 < (0 : Int))) then (bif (decide ((0 : Int) ≤ a4)) then (call k f_bits_PutPlain [(PV.s a1), (PV.i a2), (PV.i (Go.IntKind.wrap .i64 (a3 + (Go.AI.shl .i64 (1 : Int) a4)))), (PV.i a4)] []).bind fun r3 =>
  some ([(PV.s (((r3).1.getD 0 PV.u)).toS), (PV.i (((r3).1.getD 1 PV.u)).toI), (PV.i (((r3).1.getD 2 PV.u)).toI)], [])
  else none)
  else (call k f_bits_PutPlain [(PV.s a1), (PV.i a2), (PV.i a3), (PV.i a4)] []).bind fun r4 =>
  some ([(PV.s (((r4).1.getD 0 PV.u)).toS), (PV.i (((r4).1.getD 1 PV.u)).toI), (PV.i (((r4).1.getD 2 PV.u)).toI)], []))) := by kernel_rfl
/- celluloid/bits.PutLittle -/
noncomputable def S_bits_PutLittle_L0 (x1 : Int) (x2 : Int) (x3 : Int) (x4 : List (List PV)) (x5 : List UInt8) (x6 : Int) (x7 : List UInt8) (x8 : Int) : St := mkSt [(1, .v (.int .i64 x1)), (3, .v (.ptr (.n 1 0 0) 0)), (6, .v (.ptr (.n 1 1 0) 0)), (8, .v (.wr (.w 8))), (31, .v (.int .i64 x2)), (32, .v (.int .i64 x3))] [((.w 8), .row 5 x4), ((.n 1 0 0), .cells 41 [.str x5, .int .i64 x6]), ((.n 1 1 0), .cells 41 [.str x7, .int .i64 x8])] 1000 48
noncomputable def at_bits_PutLittle_L0 : List Item := (atLoop Try.f26 0)
theorem u_bits_PutLittle (k : Nat) (a1 : List UInt8) (a2 : Int) (a3 : Int) (a4 : Int) : call (k + 1) f_bits_PutLittle [.s a1, .i a2, .i a3, .i a4] [] =
  ((bif (decide (a4 < (1 : Int))) then some [(PV.b true)]
   else (bif (decide (a4 > (4 : Int))) then some [(PV.b true)]
   else (bif (decide (a3 < (0 : Int))) then some [(PV.b true)]
   else (bif (decide ((0 : Int) ≤ (Go.IntKind.wrap .i64 ((8 : Int) * a4)))) then some [(PV.b ((Go.AI.shr .i64 a3 (Go.IntKind.wrap .i64 ((8 : Int) * a4))) != (0 : Int)))]
   else none))))).bind fun r1 =>
  (bif ((r1.getD 0 PV.u)).toB then some ([(PV.s []), (PV.i (0 : Int)), (PV.i (1 : Int))], [])
  else (bif ((decide ((0 : Int) ≤ a4)) && ((decide (a4 ≤ a4)) && (decide (a4 ≤ (1073741824 : Int))))) then run k f_bits_PutLittle [] at_bits_PutLittle_L0 (S_bits_PutLittle_L0 (a3) ((((List.length (List.replicate (Int.toNat a4) [(PV.i (0 : Int))])) : Nat) : Int)) ((0 : Int)) ((List.replicate (Int.toNat a4) [(PV.i (0 : Int))])) (a1) (a2) ([]) ((0 : Int)))
  else none)) := by kernel_rfl
theorem u_bits_PutLittle_L0 (k : Nat) (x1 : Int) (x2 : Int) (x3 : Int) (x4 : List (List PV)) (x5 : List UInt8) (x6 : Int) (x7 : List UInt8) (x8 : Int) : run (k + 1) f_bits_PutLittle [] at_bits_PutLittle_L0 (S_bits_PutLittle_L0 x1 x2 x3 x4 x5 x6 x7 x8) =
  (bif (decide (x3 < x2)) then (bif (decide ((0 : Int) ≤ (Go.IntKind.wrap .i64 ((8 : Int) * x3)))) then (bif (Go.AI.inB x3 (List.length x4)) then (bif (Go.AI.inB x3 (List.length x4)) then run k f_bits_PutLittle [] at_bits_PutLittle_L0 (S_bits_PutLittle_L0 (x1) (x2) ((Go.IntKind.wrap .i64 (x3 + (1 : Int)))) ((List.set x4 (Int.toNat x3) (Go.AI.putAt (Go.AI.elemAt x4 x3) 0 [(PV.i (Go.IntKind.wrap .u8 (Go.AI.shr .i64 x1 (Go.IntKind.wrap .i64 ((8 : Int) * x3)))))]))) (x5) (x6) (x7) (x8))
  else none)
  else none)
  else none)
  else (call k f_bits_PutBytes [(PV.s x5), (PV.i x6), (PV.s (Go.AI.toBytes x4))] []).bind fun r2 =>
  some ([(PV.s (((r2).1.getD 0 PV.u)).toS), (PV.i (((r2).1.getD 1 PV.u)).toI), (PV.i (0 : Int))], [])) := by kernel_rfl
/- celluloid/celluloidref02.PutPlain -/
noncomputable def S_celluloidref02_PutPlain_L0 (x1 : Int) (x2 : Int) (x3 : List UInt8) (x4 : Int) (x5 : List UInt8) (x6 : Int) : St := mkSt [(1, .v (.int .i64 x1)), (3, .v (.ptr (.n 1 0 0) 0)), (6, .v (.ptr (.n 1 1 0) 0)), (8, .v (.int .i64 x2))] [((.n 1 0 0), .cells 44 [.str x3, .int .i64 x4]), ((.n 1 1 0), .cells 44 [.str x5, .int .i64 x6])] 1000 70
noncomputable def at_celluloidref02_PutPlain_L0 : List Item := (atLoop Try.f27 0)
theorem u_celluloidref02_PutPlain (k : Nat) (a1 : List UInt8) (a2 : Int) (a3 : Int) (a4 : Int) : call (k + 1) f_celluloidref02_PutPlain [.s a1, .i a2, .i a3, .i a4] [] =
  ((bif (decide (a4 < (0 : Int))) then some [(PV.b true)]
   else (bif (decide (a4 > (31 : Int))) then some [(PV.b true)]
   else (bif (decide (a3 < (0 : Int))) then some [(PV.b true)]
   else (call k f_celluloidref02_Power [(PV.i a4)] []).bind fun r1 =>
   some [(PV.b (decide (a3 ≥ (((r1).1.getD 0 PV.u)).toI)))])))).bind fun r2 =>
  (bif ((r2.getD 0 PV.u)).toB then some ([(PV.s []), (PV.i (0 : Int)), (PV.b false)], [])
  else ((bif (decide (a2 < (0 : Int))) then some [(PV.b true)]
   else (bif (decide (a2 > (7 : Int))) then some [(PV.b true)]
   else (bif ((((List.length a1) : Nat) : Int) == (0 : Int)) then some [(PV.b true)]
   else (bif (Go.AI.inB (Go.IntKind.wrap .i64 ((((List.length a1) : Nat) : Int) - (1 : Int))) (List.length a1)) then (call k f_celluloidref02_Power [(PV.i a2)] []).bind fun r3 =>
   (bif ((((r3).1.getD 0 PV.u)).toI != (0 : Int)) then some [(PV.b ((Int.tmod (Go.IntKind.wrap .i64 (Go.AI.bt a1 (Go.IntKind.wrap .i64 ((((List.length a1) : Nat) : Int) - (1 : Int))))) (((r3).1.getD 0 PV.u)).toI) != (0 : Int)))]
   else none)
   else none))))).bind fun r4 =>
  (bif ((r4.getD 0 PV.u)).toB then run k f_celluloidref02_PutPlain [] at_celluloidref02_PutPlain_L0 (S_celluloidref02_PutPlain_L0 (a3) ((Go.IntKind.wrap .i64 (a4 - (1 : Int)))) (a1) ((0 : Int)) ([]) ((0 : Int)))
  else run k f_celluloidref02_PutPlain [] at_celluloidref02_PutPlain_L0 (S_celluloidref02_PutPlain_L0 (a3) ((Go.IntKind.wrap .i64 (a4 - (1 : Int)))) (a1) (a2) ([]) ((0 : Int))))) := by kernel_rfl
theorem u_celluloidref02_PutPlain_L0 (k : Nat) (x1 : Int) (x2 : Int) (x3 : List UInt8) (x4 : Int) (x5 : List UInt8) (x6 : Int) : run (k + 1) f_celluloidref02_PutPlain [] at_celluloidref02_PutPlain_L0 (S_celluloidref02_PutPlain_L0 x1 x2 x3 x4 x5 x6) =
  (bif (decide (x2 ≥ (0 : Int))) then (call k f_celluloidref02_Power [(PV.i x2)] []).bind fun r5 =>
  (bif ((((r5).1.getD 0 PV.u)).toI != (0 : Int)) then (call k f_celluloidref02_put [(PV.s x3), (PV.i x4), (PV.i (Int.tmod (Go.IntKind.wrap .i64 (Int.tdiv x1 (((r5).1.getD 0 PV.u)).toI)) (2 : Int)))] []).bind fun r6 =>
  run k f_celluloidref02_PutPlain [] at_celluloidref02_PutPlain_L0 (S_celluloidref02_PutPlain_L0 (x1) ((Go.IntKind.wrap .i64 (x2 - (1 : Int)))) ((((r6).1.getD 0 PV.u)).toS) ((((r6).1.getD 1 PV.u)).toI) (x5) (x6))
  else none)
  else some ([(PV.s x3), (PV.i x4), (PV.b true)], [])) := by kernel_rfl
/- celluloid/celluloidlaw02.wref -/
theorem u_celluloidlaw02_wref (k : Nat) (a1 : List UInt8) (a2 : Int) : call (k + 1) f_celluloidlaw02_wref [.s a1, .i a2] [] =
  some ([(PV.s a1), (PV.i a2)], []) := by kernel_rfl
/- celluloid/celluloidref02.PutSigned -/
theorem u_celluloidref02_PutSigned (k : Nat) (a1 : List UInt8) (a2 : Int) (a3 : Int) (a4 : Int) : call (k + 1) f_celluloidref02_PutSigned [.s a1, .i a2, .i a3, .i a4] [] =
  ((bif (decide (a4 < (0 : Int))) then some [(PV.b true)]
   else (bif (decide (a4 > (31 : Int))) then some [(PV.b true)]
   else (call k f_celluloidref02_Width [(PV.i a3)] []).bind fun r1 =>
   some [(PV.b (decide ((((r1).1.getD 0 PV.u)).toI > a4)))]))).bind fun r2 =>
  (bif ((r2.getD 0 PV.u)).toB then some ([(PV.s []), (PV.i (0 : Int)), (PV.b false)], [])
  else (bif (decide (a3 < (0 : Int))) then (call k f_celluloidref02_Power [(PV.i a4)] []).bind fun r3 =>
  (call k f_celluloidref02_PutPlain [(PV.s a1), (PV.i a2), (PV.i (Go.IntKind.wrap .i64 (a3 + (((r3).1.getD 0 PV.u)).toI))), (PV.i a4)] []).bind fun r4 =>
  some ([(PV.s (((r4).1.getD 0 PV.u)).toS), (PV.i (((r4).1.getD 1 PV.u)).toI), (PV.b (((r4).1.getD 2 PV.u)).toB)], [])
  else (call k f_celluloidref02_PutPlain [(PV.s a1), (PV.i a2), (PV.i a3), (PV.i a4)] []).bind fun r5 =>
  some ([(PV.s (((r5).1.getD 0 PV.u)).toS), (PV.i (((r5).1.getD 1 PV.u)).toI), (PV.b (((r5).1.getD 2 PV.u)).toB)], []))) := by kernel_rfl
/- celluloid/celluloidref02.PutLittle -/
noncomputable def S_celluloidref02_PutLittle_L0 (x1 : Int) (x2 : Int) (x3 : List UInt8) (x4 : Int) (x5 : List UInt8) (x6 : Int) : St := mkSt [(1, .v (.int .i64 x1)), (2, .v (.int .i64 x2)), (6, .v (.ptr (.n 1 1 0) 0)), (8, .v (.str x3)), (9, .v (.int .i64 x4))] [((.n 1 1 0), .cells 44 [.str x5, .int .i64 x6])] 1000 48
noncomputable def at_celluloidref02_PutLittle_L0 : List Item := (atLoop Try.f30 0)
theorem u_celluloidref02_PutLittle (k : Nat) (a1 : List UInt8) (a2 : Int) (a3 : Int) (a4 : Int) : call (k + 1) f_celluloidref02_PutLittle [.s a1, .i a2, .i a3, .i a4] [] =
  ((bif (decide (a4 < (1 : Int))) then some [(PV.b true)]
   else (bif (decide (a4 > (4 : Int))) then some [(PV.b true)]
   else (bif (decide (a3 < (0 : Int))) then some [(PV.b true)]
   else (call k f_celluloidref02_Power [(PV.i (Go.IntKind.wrap .i64 ((8 : Int) * a4)))] []).bind fun r1 =>
   some [(PV.b (decide (a3 ≥ (((r1).1.getD 0 PV.u)).toI)))])))).bind fun r2 =>
  (bif ((r2.getD 0 PV.u)).toB then some ([(PV.s []), (PV.i (0 : Int)), (PV.b false)], [])
  else run k f_celluloidref02_PutLittle [] at_celluloidref02_PutLittle_L0 (S_celluloidref02_PutLittle_L0 (a3) (a4) (a1) ((0 : Int)) ([]) ((0 : Int)))) := by kernel_rfl
theorem u_celluloidref02_PutLittle_L0 (k : Nat) (x1 : Int) (x2 : Int) (x3 : List UInt8) (x4 : Int) (x5 : List UInt8) (x6 : Int) : run (k + 1) f_celluloidref02_PutLittle [] at_celluloidref02_PutLittle_L0 (S_celluloidref02_PutLittle_L0 x1 x2 x3 x4 x5 x6) =
  (bif (decide (x4 < x2)) then (call k f_celluloidref02_Power [(PV.i (Go.IntKind.wrap .i64 ((8 : Int) * x4)))] []).bind fun r3 =>
  (bif ((((r3).1.getD 0 PV.u)).toI != (0 : Int)) then (bif (decide (((List.length x3) + (List.length (Go.AI.toBytes (List.set [[(PV.i (0 : Int))]] 0 [(PV.i (Go.IntKind.wrap .u8 (Int.tmod (Go.IntKind.wrap .i64 (Int.tdiv x1 (((r3).1.getD 0 PV.u)).toI)) (256 : Int))))])))) ≤ 1099511627776)) then run k f_celluloidref02_PutLittle [] at_celluloidref02_PutLittle_L0 (S_celluloidref02_PutLittle_L0 (x1) (x2) ((x3 ++ (Go.AI.toBytes (List.set [[(PV.i (0 : Int))]] 0 [(PV.i (Go.IntKind.wrap .u8 (Int.tmod (Go.IntKind.wrap .i64 (Int.tdiv x1 (((r3).1.getD 0 PV.u)).toI)) (256 : Int))))])))) ((Go.IntKind.wrap .i64 (x4 + (1 : Int)))) (x5) (x6))
  else none)
  else none)
  else some ([(PV.s x3), (PV.i (0 : Int)), (PV.b true)], [])) := by kernel_rfl
/- celluloid/bits.PutBytes -/
theorem u_bits_PutBytes (k : Nat) (a1 : List UInt8) (a2 : Int) (a3 : List UInt8) : call (k + 1) f_bits_PutBytes [.s a1, .i a2, .s a3] [] =
  (bif (decide (((List.length a1) + (List.length a3)) ≤ 1099511627776)) then some ([(PV.s (a1 ++ a3)), (PV.i (0 : Int))], [])
  else none) := by kernel_rfl
/- celluloid/bits.PutAlign -/
theorem u_bits_PutAlign (k : Nat) (a1 : List UInt8) (a2 : Int) : call (k + 1) f_bits_PutAlign [.s a1, .i a2] [] =
  some ([(PV.s a1), (PV.i (0 : Int))], []) := by kernel_rfl
/- celluloid/celluloidlaw12.awake -/
theorem u_celluloidlaw12_awake (k : Nat)  : call (k + 1) f_celluloidlaw12_awake [] [] =
  (call k f_tag_Join [(PV.l [])] []).bind fun r1 =>
  (call k f_tag_Put [(PV.i (1 : Int)), (PV.s [])] []).bind fun r2 =>
  (call k f_tag_Split [(PV.s [65, 0, 120, 0, 0, 121])] []).bind fun r3 =>
  ((bif ((((r1).1.getD 0 PV.u)).toS == [0, 0]) then (bif ((((r1).1.getD 1 PV.u)).toI == (0 : Int)) then (bif ((((r2).1.getD 0 PV.u)).toS == [64, 0]) then (bif ((((r2).1.getD 1 PV.u)).toI == (0 : Int)) then (bif ((((List.length (((r3).1.getD 0 PV.u)).toL) : Nat) : Int) == (1 : Int)) then (bif (Go.AI.inB (0 : Int) (List.length (((r3).1.getD 0 PV.u)).toL)) then (bif (((((Go.AI.elemAt (((r3).1.getD 0 PV.u)).toL (0 : Int)).getD 0 PV.u)).toI == (1 : Int)) && ((((Go.AI.elemAt (((r3).1.getD 0 PV.u)).toL (0 : Int)).getD 1 PV.u)).toS == [120])) then (bif ((((r3).1.getD 1 PV.u)).toS == [121]) then some [(PV.b ((((r3).1.getD 2 PV.u)).toI == (0 : Int)))]
   else some [(PV.b false)])
   else some [(PV.b false)])
   else none)
   else some [(PV.b false)])
   else some [(PV.b false)])
   else some [(PV.b false)])
   else some [(PV.b false)])
   else some [(PV.b false)])).bind fun r4 =>
  some ([(PV.b ((r4.getD 0 PV.u)).toB)], []) := by kernel_rfl
/- celluloid/tag.Put -/
theorem u_tag_Put (k : Nat) (a1 : Int) (a2 : List UInt8) : call (k + 1) f_tag_Put [.i a1, .s a2] [] =
  ((bif (decide (a1 < (0 : Int))) then some [(PV.b true)]
   else some [(PV.b (decide (a1 ≥ (1024 : Int))))])).bind fun r1 =>
  (bif ((r1.getD 0 PV.u)).toB then some ([(PV.s []), (PV.i (1 : Int))], [])
  else (call k f_bits_PutLittle [(PV.s []), (PV.i (0 : Int)), (PV.i (Go.AI.bitsOp Go.BinOp.or .i64 (Go.AI.shl .i64 a1 (6 : Int)) (bif (decide ((63 : Int) < (((List.length a2) : Nat) : Int))) then (63 : Int) else (((List.length a2) : Nat) : Int)))), (PV.i (2 : Int))] []).bind fun r2 =>
  (bif ((bif (decide ((63 : Int) < (((List.length a2) : Nat) : Int))) then (63 : Int) else (((List.length a2) : Nat) : Int)) == (63 : Int)) then (call k f_bits_PutLittle [(PV.s (((r2).1.getD 0 PV.u)).toS), (PV.i (((r2).1.getD 1 PV.u)).toI), (PV.i (((List.length a2) : Nat) : Int)), (PV.i (4 : Int))] []).bind fun r3 =>
  (bif (decide (((List.length (((r3).1.getD 0 PV.u)).toS) + (List.length a2)) ≤ 1099511627776)) then some ([(PV.s ((((r3).1.getD 0 PV.u)).toS ++ a2)), (PV.i (0 : Int))], [])
  else none)
  else (bif (decide (((List.length (((r2).1.getD 0 PV.u)).toS) + (List.length a2)) ≤ 1099511627776)) then some ([(PV.s ((((r2).1.getD 0 PV.u)).toS ++ a2)), (PV.i (0 : Int))], [])
  else none))) := by kernel_rfl
/- celluloid/tag.Take -/
theorem u_tag_Take (k : Nat) (a1 : List UInt8) : call (k + 1) f_tag_Take [.s a1] [] =
  (call k f_bits_Little [(PV.s a1), (PV.i (0 : Int)), (PV.i (2 : Int))] []).bind fun r1 =>
  (bif ((((r1).1.getD 3 PV.u)).toI != (0 : Int)) then some ([(PV.i (0 : Int)), (PV.s []), (PV.s []), (PV.i (((r1).1.getD 3 PV.u)).toI)], [])
  else (bif ((Go.AI.bitsOp Go.BinOp.and .i64 (((r1).1.getD 0 PV.u)).toI (63 : Int)) == (63 : Int)) then (call k f_bits_Little [(PV.s (((r1).1.getD 1 PV.u)).toS), (PV.i (((r1).1.getD 2 PV.u)).toI), (PV.i (4 : Int))] []).bind fun r2 =>
  (bif ((((r2).1.getD 3 PV.u)).toI != (0 : Int)) then some ([(PV.i (0 : Int)), (PV.s []), (PV.s []), (PV.i (((r2).1.getD 3 PV.u)).toI)], [])
  else (call k f_bits_Bytes [(PV.s (((r2).1.getD 1 PV.u)).toS), (PV.i (((r2).1.getD 2 PV.u)).toI), (PV.i (((r2).1.getD 0 PV.u)).toI)] []).bind fun r3 =>
  (bif ((((r3).1.getD 3 PV.u)).toI != (0 : Int)) then some ([(PV.i (0 : Int)), (PV.s []), (PV.s []), (PV.i (((r3).1.getD 3 PV.u)).toI)], [])
  else (bif (Go.AI.okB (Go.IntKind.wrap .i64 (Int.tdiv (((r3).1.getD 2 PV.u)).toI (8 : Int))) (((List.length a1) : Nat) : Int) (List.length a1)) then some ([(PV.i (Go.AI.shr .i64 (((r1).1.getD 0 PV.u)).toI (6 : Int))), (PV.s (((r3).1.getD 0 PV.u)).toS), (PV.s (Go.AI.cutL (Go.IntKind.wrap .i64 (Int.tdiv (((r3).1.getD 2 PV.u)).toI (8 : Int))) (((List.length a1) : Nat) : Int) a1)), (PV.i (0 : Int))], [])
  else none)))
  else (call k f_bits_Bytes [(PV.s (((r1).1.getD 1 PV.u)).toS), (PV.i (((r1).1.getD 2 PV.u)).toI), (PV.i (Go.AI.bitsOp Go.BinOp.and .i64 (((r1).1.getD 0 PV.u)).toI (63 : Int)))] []).bind fun r4 =>
  (bif ((((r4).1.getD 3 PV.u)).toI != (0 : Int)) then some ([(PV.i (0 : Int)), (PV.s []), (PV.s []), (PV.i (((r4).1.getD 3 PV.u)).toI)], [])
  else (bif (Go.AI.okB (Go.IntKind.wrap .i64 (Int.tdiv (((r4).1.getD 2 PV.u)).toI (8 : Int))) (((List.length a1) : Nat) : Int) (List.length a1)) then some ([(PV.i (Go.AI.shr .i64 (((r1).1.getD 0 PV.u)).toI (6 : Int))), (PV.s (((r4).1.getD 0 PV.u)).toS), (PV.s (Go.AI.cutL (Go.IntKind.wrap .i64 (Int.tdiv (((r4).1.getD 2 PV.u)).toI (8 : Int))) (((List.length a1) : Nat) : Int) a1)), (PV.i (0 : Int))], [])
  else none)))) := by kernel_rfl
/- celluloid/celluloidref12.Put -/
theorem u_celluloidref12_Put (k : Nat) (a1 : Int) (a2 : List UInt8) : call (k + 1) f_celluloidref12_Put [.i a1, .s a2] [] =
  (bif (decide ((((List.length a2) : Nat) : Int) < (63 : Int))) then (call k f_celluloidref12_one [(PV.i (Int.tmod (Go.IntKind.wrap .i64 ((Go.IntKind.wrap .i64 ((64 : Int) * a1)) + (((List.length a2) : Nat) : Int))) (256 : Int)))] []).bind fun r1 =>
  (call k f_celluloidref12_one [(PV.i (Go.IntKind.wrap .i64 (Int.tdiv (Go.IntKind.wrap .i64 ((Go.IntKind.wrap .i64 ((64 : Int) * a1)) + (((List.length a2) : Nat) : Int))) (256 : Int))))] []).bind fun r2 =>
  (bif (decide (((List.length (((r1).1.getD 0 PV.u)).toS) + (List.length (((r2).1.getD 0 PV.u)).toS)) ≤ 1099511627776)) then (bif (decide (((List.length ((((r1).1.getD 0 PV.u)).toS ++ (((r2).1.getD 0 PV.u)).toS)) + (List.length a2)) ≤ 1099511627776)) then some ([(PV.s (((((r1).1.getD 0 PV.u)).toS ++ (((r2).1.getD 0 PV.u)).toS) ++ a2))], [])
  else none)
  else none)
  else (call k f_celluloidref12_one [(PV.i (Int.tmod (Go.IntKind.wrap .i64 ((Go.IntKind.wrap .i64 ((64 : Int) * a1)) + (63 : Int))) (256 : Int)))] []).bind fun r3 =>
  (call k f_celluloidref12_one [(PV.i (Go.IntKind.wrap .i64 (Int.tdiv (Go.IntKind.wrap .i64 ((Go.IntKind.wrap .i64 ((64 : Int) * a1)) + (63 : Int))) (256 : Int))))] []).bind fun r4 =>
  (bif (decide (((List.length (((r3).1.getD 0 PV.u)).toS) + (List.length (((r4).1.getD 0 PV.u)).toS)) ≤ 1099511627776)) then (call k f_celluloidref12_one [(PV.i (Int.tmod (((List.length a2) : Nat) : Int) (256 : Int)))] []).bind fun r5 =>
  (bif (decide (((List.length ((((r3).1.getD 0 PV.u)).toS ++ (((r4).1.getD 0 PV.u)).toS)) + (List.length (((r5).1.getD 0 PV.u)).toS)) ≤ 1099511627776)) then (call k f_celluloidref12_one [(PV.i (Int.tmod (Go.IntKind.wrap .i64 (Int.tdiv (((List.length a2) : Nat) : Int) (256 : Int))) (256 : Int)))] []).bind fun r6 =>
  (bif (decide (((List.length (((((r3).1.getD 0 PV.u)).toS ++ (((r4).1.getD 0 PV.u)).toS) ++ (((r5).1.getD 0 PV.u)).toS)) + (List.length (((r6).1.getD 0 PV.u)).toS)) ≤ 1099511627776)) then (call k f_celluloidref12_one [(PV.i (Int.tmod (Go.IntKind.wrap .i64 (Int.tdiv (((List.length a2) : Nat) : Int) (65536 : Int))) (256 : Int)))] []).bind fun r7 =>
  (bif (decide (((List.length ((((((r3).1.getD 0 PV.u)).toS ++ (((r4).1.getD 0 PV.u)).toS) ++ (((r5).1.getD 0 PV.u)).toS) ++ (((r6).1.getD 0 PV.u)).toS)) + (List.length (((r7).1.getD 0 PV.u)).toS)) ≤ 1099511627776)) then (call k f_celluloidref12_one [(PV.i (Go.IntKind.wrap .i64 (Int.tdiv (((List.length a2) : Nat) : Int) (16777216 : Int))))] []).bind fun r8 =>
  (bif (decide (((List.length (((((((r3).1.getD 0 PV.u)).toS ++ (((r4).1.getD 0 PV.u)).toS) ++ (((r5).1.getD 0 PV.u)).toS) ++ (((r6).1.getD 0 PV.u)).toS) ++ (((r7).1.getD 0 PV.u)).toS)) + (List.length (((r8).1.getD 0 PV.u)).toS)) ≤ 1099511627776)) then (bif (decide (((List.length ((((((((r3).1.getD 0 PV.u)).toS ++ (((r4).1.getD 0 PV.u)).toS) ++ (((r5).1.getD 0 PV.u)).toS) ++ (((r6).1.getD 0 PV.u)).toS) ++ (((r7).1.getD 0 PV.u)).toS) ++ (((r8).1.getD 0 PV.u)).toS)) + (List.length a2)) ≤ 1099511627776)) then some ([(PV.s (((((((((r3).1.getD 0 PV.u)).toS ++ (((r4).1.getD 0 PV.u)).toS) ++ (((r5).1.getD 0 PV.u)).toS) ++ (((r6).1.getD 0 PV.u)).toS) ++ (((r7).1.getD 0 PV.u)).toS) ++ (((r8).1.getD 0 PV.u)).toS) ++ a2))], [])
  else none)
  else none)
  else none)
  else none)
  else none)
  else none)) := by kernel_rfl
/- celluloid/celluloidlaw12.few -/
noncomputable def S_celluloidlaw12_few_L0 (x1 : List (List PV)) (x2 : List (List PV)) (x3 : Int) (x4 : Int) : St := mkSt [(0, .v (.sl 52 x1)), (5, .v (.sl 52 x2)), (6, .v (.int .i64 x3)), (7, .v (.int .i64 x4))] [] 1000 19
noncomputable def at_celluloidlaw12_few_L0 : List Item := (atLoop Try.f37 0)
theorem u_celluloidlaw12_few (k : Nat) (a1 : List (List PV)) : call (k + 1) f_celluloidlaw12_few [.l a1] [] =
  run k f_celluloidlaw12_few [] at_celluloidlaw12_few_L0 (S_celluloidlaw12_few_L0 (a1) (a1) ((((List.length a1) : Nat) : Int)) ((0 : Int))) := by kernel_rfl
theorem u_celluloidlaw12_few_L0 (k : Nat) (x1 : List (List PV)) (x2 : List (List PV)) (x3 : Int) (x4 : Int) : run (k + 1) f_celluloidlaw12_few [] at_celluloidlaw12_few_L0 (S_celluloidlaw12_few_L0 x1 x2 x3 x4) =
  (bif (decide (x4 < x3)) then (bif (Go.AI.inB x4 (List.length x2)) then (bif (decide ((((List.length (((Go.AI.elemAt x2 x4).getD 1 PV.u)).toS) : Nat) : Int) > (1024 : Int))) then some ([(PV.b false)], [])
  else run k f_celluloidlaw12_few [] at_celluloidlaw12_few_L0 (S_celluloidlaw12_few_L0 (x1) (x2) (x3) ((Go.IntKind.wrap .i64 (x4 + (1 : Int))))))
  else none)
  else some ([(PV.b (decide ((((List.length x1) : Nat) : Int) ≤ (300 : Int))))], [])) := by kernel_rfl
/- celluloid/tag.Join -/
noncomputable def S_tag_Join_L0 (x1 : List (List PV)) (x2 : Int) (x3 : Int) (x4 : List (List PV)) : St := mkSt [(4, .v (.ptr (.n 3 0 0) 0)), (12, .v (.sl 52 x1)), (13, .v (.int .i64 x2)), (14, .v (.int .i64 x3)), (26, .any), (27, .any), (28, .any)] [((.n 3 0 0), .cells 90 [.nilp, .sl 5 x4])] 1000 35
noncomputable def at_tag_Join_L0 : List Item := (atLoop Try.f38 0)
theorem u_tag_Join (k : Nat) (a1 : List (List PV)) : call (k + 1) f_tag_Join [.l a1] [] =
  (bif (decide ((((List.length a1) : Nat) : Int) > (256 : Int))) then some ([(PV.s []), (PV.i (1 : Int))], [])
  else run k f_tag_Join [] at_tag_Join_L0 (S_tag_Join_L0 (a1) ((((List.length a1) : Nat) : Int)) ((0 : Int)) ([]))) := by kernel_rfl
theorem u_tag_Join_L0 (k : Nat) (x1 : List (List PV)) (x2 : Int) (x3 : Int) (x4 : List (List PV)) : run (k + 1) f_tag_Join [] at_tag_Join_L0 (S_tag_Join_L0 x1 x2 x3 x4) =
  (bif (decide (x3 < x2)) then (bif (Go.AI.inB x3 (List.length x1)) then (call k f_tag_Put [(PV.i (((Go.AI.elemAt x1 x3).getD 0 PV.u)).toI), (PV.s (((Go.AI.elemAt x1 x3).getD 1 PV.u)).toS)] []).bind fun r1 =>
  ((bif ((((r1).1.getD 1 PV.u)).toI != (0 : Int)) then some [(PV.b true)]
   else some [(PV.b ((((Go.AI.elemAt x1 x3).getD 0 PV.u)).toI == (0 : Int)))])).bind fun r2 =>
  (bif ((r2.getD 0 PV.u)).toB then some ([(PV.s []), (PV.i (1 : Int))], [])
  else none)
  else none)
  else none) := by kernel_rfl
/- celluloid/celluloidref12.Join -/
noncomputable def S_celluloidref12_Join_L0 (x1 : List (List PV)) (x2 : List UInt8) (x3 : Int) : St := mkSt [(0, .v (.sl 58 x1)), (4, .v (.str x2)), (5, .v (.int .i64 x3)), (19, .any), (20, .any), (21, .any), (22, .any), (23, .any), (24, .any)] [] 1000 41
noncomputable def at_celluloidref12_Join_L0 : List Item := (atLoop Try.f39 0)
theorem u_celluloidref12_Join (k : Nat) (a1 : List (List PV)) : call (k + 1) f_celluloidref12_Join [.l a1] [] =
  run k f_celluloidref12_Join [] at_celluloidref12_Join_L0 (S_celluloidref12_Join_L0 (a1) ([]) ((0 : Int))) := by kernel_rfl
theorem u_celluloidref12_Join_L0 (k : Nat) (x1 : List (List PV)) (x2 : List UInt8) (x3 : Int) : run (k + 1) f_celluloidref12_Join [] at_celluloidref12_Join_L0 (S_celluloidref12_Join_L0 x1 x2 x3) =
  (bif (decide (x3 < (((List.length x1) : Nat) : Int))) then ((bif (Go.AI.inB x3 (List.length x1)) then (bif (decide ((((Go.AI.elemAt x1 x3).getD 0 PV.u)).toI < (1 : Int))) then some [(PV.b true)]
   else (bif (Go.AI.inB x3 (List.length x1)) then some [(PV.b (decide ((((Go.AI.elemAt x1 x3).getD 0 PV.u)).toI > (1023 : Int))))]
   else none))
   else none)).bind fun r1 =>
  (bif ((r1.getD 0 PV.u)).toB then some ([(PV.s []), (PV.b false)], [])
  else (bif (Go.AI.inB x3 (List.length x1)) then (call k f_celluloidref12_Put [(PV.i (((Go.AI.elemAt x1 x3).getD 0 PV.u)).toI), (PV.s (((Go.AI.elemAt x1 x3).getD 1 PV.u)).toS)] []).bind fun r2 =>
  (bif (decide (((List.length x2) + (List.length (((r2).1.getD 0 PV.u)).toS)) ≤ 1099511627776)) then run k f_celluloidref12_Join [] at_celluloidref12_Join_L0 (S_celluloidref12_Join_L0 (x1) ((x2 ++ (((r2).1.getD 0 PV.u)).toS)) ((Go.IntKind.wrap .i64 (x3 + (1 : Int)))))
  else none)
  else none))
  else (bif (decide ((((List.length x1) : Nat) : Int) > (256 : Int))) then some ([(PV.s []), (PV.b false)], [])
  else (call k f_celluloidref12_one [(PV.i (0 : Int))] []).bind fun r3 =>
  (bif (decide (((List.length x2) + (List.length (((r3).1.getD 0 PV.u)).toS)) ≤ 1099511627776)) then (call k f_celluloidref12_one [(PV.i (0 : Int))] []).bind fun r4 =>
  (bif (decide (((List.length (x2 ++ (((r3).1.getD 0 PV.u)).toS)) + (List.length (((r4).1.getD 0 PV.u)).toS)) ≤ 1099511627776)) then some ([(PV.s ((x2 ++ (((r3).1.getD 0 PV.u)).toS) ++ (((r4).1.getD 0 PV.u)).toS)), (PV.b true)], [])
  else none)
  else none))) := by kernel_rfl
/- celluloid/celluloidlaw12.refs -/
noncomputable def S_celluloidlaw12_refs_L0 (x1 : List (List PV)) (x2 : Int) (x3 : Int) (x4 : List (List PV)) : St := mkSt [(3, .v (.wr (.w 3))), (6, .v (.sl 52 x1)), (7, .v (.int .i64 x2)), (8, .v (.int .i64 x3))] [((.w 3), .row 58 x4)] 1000 18
noncomputable def at_celluloidlaw12_refs_L0 : List Item := (atLoop Try.f40 0)
theorem u_celluloidlaw12_refs (k : Nat) (a1 : List (List PV)) : call (k + 1) f_celluloidlaw12_refs [.l a1] [] =
  run k f_celluloidlaw12_refs [] at_celluloidlaw12_refs_L0 (S_celluloidlaw12_refs_L0 (a1) ((((List.length a1) : Nat) : Int)) ((0 : Int)) ([])) := by kernel_rfl
theorem u_celluloidlaw12_refs_L0 (k : Nat) (x1 : List (List PV)) (x2 : Int) (x3 : Int) (x4 : List (List PV)) : run (k + 1) f_celluloidlaw12_refs [] at_celluloidlaw12_refs_L0 (S_celluloidlaw12_refs_L0 x1 x2 x3 x4) =
  (bif (decide (x3 < x2)) then (bif (Go.AI.inB x3 (List.length x1)) then (bif (decide (((((List.length x4) + (List.length (List.set [[(PV.i (0 : Int)), (PV.s [])]] 0 [(PV.i (((Go.AI.elemAt x1 x3).getD 0 PV.u)).toI), (PV.s (((Go.AI.elemAt x1 x3).getD 1 PV.u)).toS)]))) + 1000) * 25) ≤ 1099511627776)) then run k f_celluloidlaw12_refs [] at_celluloidlaw12_refs_L0 (S_celluloidlaw12_refs_L0 (x1) (x2) ((Go.IntKind.wrap .i64 (x3 + (1 : Int)))) ((x4 ++ (List.set [[(PV.i (0 : Int)), (PV.s [])]] 0 [(PV.i (((Go.AI.elemAt x1 x3).getD 0 PV.u)).toI), (PV.s (((Go.AI.elemAt x1 x3).getD 1 PV.u)).toS)]))))
  else none)
  else none)
  else some ([(PV.l x4)], [])) := by kernel_rfl
/- celluloid/tag.Split -/
noncomputable def S_tag_Split_L0 (x1 : List UInt8) (x2 : List (List PV)) : St := mkSt [(0, .v (.str x1)), (5, .v (.wr (.w 5))), (24, .any), (25, .any), (26, .any)] [((.w 5), .row 52 x2)] 1000 43
noncomputable def at_tag_Split_L0 : List Item := (atLoop Try.f41 0)
theorem u_tag_Split (k : Nat) (a1 : List UInt8) : call (k + 1) f_tag_Split [.s a1] [] =
  run k f_tag_Split [] at_tag_Split_L0 (S_tag_Split_L0 (a1) ([])) := by kernel_rfl
theorem u_tag_Split_L0 (k : Nat) (x1 : List UInt8) (x2 : List (List PV)) : run (k + 1) f_tag_Split [] at_tag_Split_L0 (S_tag_Split_L0 x1 x2) =
  (call k f_tag_Take [(PV.s x1)] []).bind fun r1 =>
  (bif ((((r1).1.getD 3 PV.u)).toI != (0 : Int)) then some ([(PV.l []), (PV.s []), (PV.i (((r1).1.getD 3 PV.u)).toI)], [])
  else ((bif ((((r1).1.getD 0 PV.u)).toI == (0 : Int)) then some [(PV.b (!((((r1).1.getD 1 PV.u)).toS == [])))]
   else some [(PV.b false)])).bind fun r2 =>
  (bif ((r2.getD 0 PV.u)).toB then some ([(PV.l []), (PV.s []), (PV.i (3 : Int))], [])
  else (bif ((((r1).1.getD 0 PV.u)).toI == (0 : Int)) then some ([(PV.l x2), (PV.s (((r1).1.getD 2 PV.u)).toS), (PV.i (0 : Int))], [])
  else (bif ((((List.length x2) : Nat) : Int) == (256 : Int)) then some ([(PV.l []), (PV.s []), (PV.i (7 : Int))], [])
  else (bif (decide (((((List.length x2) + (List.length (List.set [[(PV.i (0 : Int)), (PV.s [])]] 0 [(PV.i (((r1).1.getD 0 PV.u)).toI), (PV.s (((r1).1.getD 1 PV.u)).toS)]))) + 1000) * 25) ≤ 1099511627776)) then run k f_tag_Split [] at_tag_Split_L0 (S_tag_Split_L0 ((((r1).1.getD 2 PV.u)).toS) ((x2 ++ (List.set [[(PV.i (0 : Int)), (PV.s [])]] 0 [(PV.i (((r1).1.getD 0 PV.u)).toI), (PV.s (((r1).1.getD 1 PV.u)).toS)]))))
  else none))))) := by kernel_rfl
/- celluloid/celluloidref12.Same -/
noncomputable def S_celluloidref12_Same_L0 (x1 : List (List PV)) (x2 : List (List PV)) (x3 : Int) : St := mkSt [(0, .v (.sl 58 x1)), (1, .v (.sl 58 x2)), (5, .v (.int .i64 x3))] [] 1000 26
noncomputable def at_celluloidref12_Same_L0 : List Item := (atLoop Try.f42 0)
theorem u_celluloidref12_Same (k : Nat) (a1 : List (List PV)) (a2 : List (List PV)) : call (k + 1) f_celluloidref12_Same [.l a1, .l a2] [] =
  (bif ((((List.length a1) : Nat) : Int) != (((List.length a2) : Nat) : Int)) then some ([(PV.b false)], [])
  else run k f_celluloidref12_Same [] at_celluloidref12_Same_L0 (S_celluloidref12_Same_L0 (a1) (a2) ((0 : Int)))) := by kernel_rfl
theorem u_celluloidref12_Same_L0 (k : Nat) (x1 : List (List PV)) (x2 : List (List PV)) (x3 : Int) : run (k + 1) f_celluloidref12_Same [] at_celluloidref12_Same_L0 (S_celluloidref12_Same_L0 x1 x2 x3) =
  (bif (decide (x3 < (((List.length x1) : Nat) : Int))) then (bif (Go.AI.inB x3 (List.length x1)) then (bif (Go.AI.inB x3 (List.length x2)) then (bif (!(((((Go.AI.elemAt x1 x3).getD 0 PV.u)).toI == (((Go.AI.elemAt x2 x3).getD 0 PV.u)).toI) && ((((Go.AI.elemAt x1 x3).getD 1 PV.u)).toS == (((Go.AI.elemAt x2 x3).getD 1 PV.u)).toS))) then some ([(PV.b false)], [])
  else run k f_celluloidref12_Same [] at_celluloidref12_Same_L0 (S_celluloidref12_Same_L0 (x1) (x2) ((Go.IntKind.wrap .i64 (x3 + (1 : Int))))))
  else none)
  else none)
  else some ([(PV.b true)], [])) := by kernel_rfl
/- celluloid/bits.Bytes -/
theorem u_bits_Bytes (k : Nat) (a1 : List UInt8) (a2 : Int) (a3 : Int) : call (k + 1) f_bits_Bytes [.s a1, .i a2, .i a3] [] =
  ((call k f_bits_right [(PV.s a1), (PV.i a2)] []).bind fun r1 =>
   (bif (!(((r1).1.getD 0 PV.u)).toB) then some [(PV.b true)]
   else some [(PV.b (decide (a3 < (0 : Int))))])).bind fun r2 =>
  (bif ((r2.getD 0 PV.u)).toB then some ([(PV.s []), (PV.s []), (PV.i (0 : Int)), (PV.i (1 : Int))], [])
  else (call k f_bits_Align [(PV.s a1), (PV.i a2)] []).bind fun r3 =>
  (bif (decide (a3 > (Go.IntKind.wrap .i64 ((((List.length a1) : Nat) : Int) - (Go.IntKind.wrap .i64 (Int.tdiv (((r3).1.getD 1 PV.u)).toI (8 : Int))))))) then some ([(PV.s []), (PV.s []), (PV.i (0 : Int)), (PV.i (2 : Int))], [])
  else (bif (Go.AI.okB (Go.IntKind.wrap .i64 (Int.tdiv (((r3).1.getD 1 PV.u)).toI (8 : Int))) (Go.IntKind.wrap .i64 ((Go.IntKind.wrap .i64 (Int.tdiv (((r3).1.getD 1 PV.u)).toI (8 : Int))) + a3)) (List.length a1)) then some ([(PV.s (Go.AI.cutL (Go.IntKind.wrap .i64 (Int.tdiv (((r3).1.getD 1 PV.u)).toI (8 : Int))) (Go.IntKind.wrap .i64 ((Go.IntKind.wrap .i64 (Int.tdiv (((r3).1.getD 1 PV.u)).toI (8 : Int))) + a3)) a1)), (PV.s a1), (PV.i (Go.IntKind.wrap .i64 ((8 : Int) * (Go.IntKind.wrap .i64 ((Go.IntKind.wrap .i64 (Int.tdiv (((r3).1.getD 1 PV.u)).toI (8 : Int))) + a3))))), (PV.i (0 : Int))], [])
  else none))) := by kernel_rfl
/- celluloid/bits.Little -/
noncomputable def S_bits_Little_L0 (x1 : List UInt8) (x2 : Int) (x3 : Int) (x4 : Int) (x5 : List UInt8) (x6 : Int) (x7 : List UInt8) (x8 : Int) : St := mkSt [(5, .v (.ptr (.n 1 2 0) 0)), (7, .v (.str x1)), (8, .v (.ptr (.n 3 7 0) 0)), (9, .v (.int .i64 x2)), (10, .v (.int .i64 x3)), (11, .v (.int .i64 x4))] [((.n 1 2 0), .cells 23 [.str x5, .int .i64 x6]), ((.n 3 7 0), .cells 23 [.str x7, .int .i64 x8])] 1000 43
noncomputable def at_bits_Little_L0 : List Item := (atLoop Try.f44 0)
theorem u_bits_Little (k : Nat) (a1 : List UInt8) (a2 : Int) (a3 : Int) : call (k + 1) f_bits_Little [.s a1, .i a2, .i a3] [] =
  ((bif (decide (a3 < (1 : Int))) then some [(PV.b true)]
   else some [(PV.b (decide (a3 > (4 : Int))))])).bind fun r1 =>
  (bif ((r1.getD 0 PV.u)).toB then some ([(PV.i (0 : Int)), (PV.s []), (PV.i (0 : Int)), (PV.i (1 : Int))], [])
  else (call k f_bits_Bytes [(PV.s a1), (PV.i a2), (PV.i a3)] []).bind fun r2 =>
  run k f_bits_Little [] at_bits_Little_L0 (S_bits_Little_L0 ((((r2).1.getD 0 PV.u)).toS) ((((r2).1.getD 3 PV.u)).toI) ((0 : Int)) ((Go.IntKind.wrap .i64 ((((List.length (((r2).1.getD 0 PV.u)).toS) : Nat) : Int) - (1 : Int)))) ([]) ((0 : Int)) ((((r2).1.getD 1 PV.u)).toS) ((((r2).1.getD 2 PV.u)).toI))) := by kernel_rfl
theorem u_bits_Little_L0 (k : Nat) (x1 : List UInt8) (x2 : Int) (x3 : Int) (x4 : Int) (x5 : List UInt8) (x6 : Int) (x7 : List UInt8) (x8 : Int) : run (k + 1) f_bits_Little [] at_bits_Little_L0 (S_bits_Little_L0 x1 x2 x3 x4 x5 x6 x7 x8) =
  (bif (decide (x4 ≥ (0 : Int))) then (bif (Go.AI.inB x4 (List.length x1)) then run k f_bits_Little [] at_bits_Little_L0 (S_bits_Little_L0 (x1) (x2) ((Go.AI.bitsOp Go.BinOp.or .i64 (Go.AI.shl .i64 x3 (8 : Int)) (Go.IntKind.wrap .i64 (Go.AI.bt x1 x4)))) ((Go.IntKind.wrap .i64 (x4 - (1 : Int)))) (x5) (x6) (x7) (x8))
  else none)
  else some ([(PV.i x3), (PV.s x7), (PV.i x8), (PV.i x2)], [])) := by kernel_rfl
/- celluloid/celluloidref02.Bytes -/
theorem u_celluloidref02_Bytes (k : Nat) (a1 : List UInt8) (a2 : Int) (a3 : Int) : call (k + 1) f_celluloidref02_Bytes [.s a1, .i a2, .i a3] [] =
  ((call k f_celluloidref02_Right [(PV.s a1), (PV.i a2)] []).bind fun r1 =>
   (bif (!(((r1).1.getD 0 PV.u)).toB) then some [(PV.b true)]
   else some [(PV.b (decide (a3 < (0 : Int))))])).bind fun r2 =>
  (bif ((r2.getD 0 PV.u)).toB then some ([(PV.s []), (PV.s []), (PV.i (0 : Int)), (PV.i (1 : Int))], [])
  else (call k f_celluloidref02_Align [(PV.s a1), (PV.i a2)] []).bind fun r3 =>
  (bif (decide ((Go.IntKind.wrap .i64 ((((List.length a1) : Nat) : Int) - (Go.IntKind.wrap .i64 (Int.tdiv (((r3).1.getD 1 PV.u)).toI (8 : Int))))) < a3)) then some ([(PV.s []), (PV.s []), (PV.i (0 : Int)), (PV.i (2 : Int))], [])
  else (bif (Go.AI.okB (Go.IntKind.wrap .i64 (Int.tdiv (((r3).1.getD 1 PV.u)).toI (8 : Int))) (Go.IntKind.wrap .i64 ((Go.IntKind.wrap .i64 (Int.tdiv (((r3).1.getD 1 PV.u)).toI (8 : Int))) + a3)) (List.length a1)) then some ([(PV.s (Go.AI.cutL (Go.IntKind.wrap .i64 (Int.tdiv (((r3).1.getD 1 PV.u)).toI (8 : Int))) (Go.IntKind.wrap .i64 ((Go.IntKind.wrap .i64 (Int.tdiv (((r3).1.getD 1 PV.u)).toI (8 : Int))) + a3)) a1)), (PV.s a1), (PV.i (Go.IntKind.wrap .i64 ((8 : Int) * (Go.IntKind.wrap .i64 ((Go.IntKind.wrap .i64 (Int.tdiv (((r3).1.getD 1 PV.u)).toI (8 : Int))) + a3))))), (PV.i (0 : Int))], [])
  else none))) := by kernel_rfl
/- celluloid/celluloidref02.Little -/
noncomputable def S_celluloidref02_Little_L0 (x1 : List UInt8) (x2 : Int) (x3 : Int) (x4 : Int) (x5 : List UInt8) (x6 : Int) (x7 : List UInt8) (x8 : Int) : St := mkSt [(5, .v (.ptr (.n 1 2 0) 0)), (7, .v (.str x1)), (8, .v (.ptr (.n 3 7 0) 0)), (9, .v (.int .i64 x2)), (10, .v (.int .i64 x3)), (11, .v (.int .i64 x4))] [((.n 1 2 0), .cells 29 [.str x5, .int .i64 x6]), ((.n 3 7 0), .cells 29 [.str x7, .int .i64 x8])] 1000 45
noncomputable def at_celluloidref02_Little_L0 : List Item := (atLoop Try.f46 0)
theorem u_celluloidref02_Little (k : Nat) (a1 : List UInt8) (a2 : Int) (a3 : Int) : call (k + 1) f_celluloidref02_Little [.s a1, .i a2, .i a3] [] =
  ((bif (decide (a3 < (1 : Int))) then some [(PV.b true)]
   else some [(PV.b (decide (a3 > (4 : Int))))])).bind fun r1 =>
  (bif ((r1.getD 0 PV.u)).toB then some ([(PV.i (0 : Int)), (PV.s []), (PV.i (0 : Int)), (PV.i (1 : Int))], [])
  else (call k f_celluloidref02_Bytes [(PV.s a1), (PV.i a2), (PV.i a3)] []).bind fun r2 =>
  run k f_celluloidref02_Little [] at_celluloidref02_Little_L0 (S_celluloidref02_Little_L0 ((((r2).1.getD 0 PV.u)).toS) ((((r2).1.getD 3 PV.u)).toI) ((0 : Int)) ((0 : Int)) ([]) ((0 : Int)) ((((r2).1.getD 1 PV.u)).toS) ((((r2).1.getD 2 PV.u)).toI))) := by kernel_rfl
theorem u_celluloidref02_Little_L0 (k : Nat) (x1 : List UInt8) (x2 : Int) (x3 : Int) (x4 : Int) (x5 : List UInt8) (x6 : Int) (x7 : List UInt8) (x8 : Int) : run (k + 1) f_celluloidref02_Little [] at_celluloidref02_Little_L0 (S_celluloidref02_Little_L0 x1 x2 x3 x4 x5 x6 x7 x8) =
  (bif (decide (x4 < (((List.length x1) : Nat) : Int))) then (bif (Go.AI.inB x4 (List.length x1)) then (call k f_celluloidref02_Power [(PV.i (Go.IntKind.wrap .i64 ((8 : Int) * x4)))] []).bind fun r3 =>
  run k f_celluloidref02_Little [] at_celluloidref02_Little_L0 (S_celluloidref02_Little_L0 (x1) (x2) ((Go.IntKind.wrap .i64 (x3 + (Go.IntKind.wrap .i64 ((Go.IntKind.wrap .i64 (Go.AI.bt x1 x4)) * (((r3).1.getD 0 PV.u)).toI))))) ((Go.IntKind.wrap .i64 (x4 + (1 : Int)))) (x5) (x6) (x7) (x8))
  else none)
  else some ([(PV.i x3), (PV.s x7), (PV.i x8), (PV.i x2)], [])) := by kernel_rfl
/- celluloid/bits.right -/
theorem u_bits_right (k : Nat) (a1 : List UInt8) (a2 : Int) : call (k + 1) f_bits_right [.s a1, .i a2] [] =
  ((bif (decide (a2 ≥ (0 : Int))) then some [(PV.b (decide (a2 ≤ (Go.IntKind.wrap .i64 ((8 : Int) * (((List.length a1) : Nat) : Int))))))]
   else some [(PV.b false)])).bind fun r1 =>
  some ([(PV.b ((r1.getD 0 PV.u)).toB)], []) := by kernel_rfl
/- celluloid/celluloidref02.Right -/
theorem u_celluloidref02_Right (k : Nat) (a1 : List UInt8) (a2 : Int) : call (k + 1) f_celluloidref02_Right [.s a1, .i a2] [] =
  ((bif (decide (a2 ≥ (0 : Int))) then some [(PV.b (decide (a2 ≤ (Go.IntKind.wrap .i64 ((8 : Int) * (((List.length a1) : Nat) : Int))))))]
   else some [(PV.b false)])).bind fun r1 =>
  some ([(PV.b ((r1.getD 0 PV.u)).toB)], []) := by kernel_rfl
/- celluloid/celluloidref02.Bit -/
noncomputable def S_celluloidref02_Bit_L0 (x1 : Int) (x2 : Int) : St := mkSt [(5, .v (.int .i64 x1)), (6, .v (.int .i64 x2))] [] 1000 22
noncomputable def at_celluloidref02_Bit_L0 : List Item := (atLoop Try.f49 0)
theorem u_celluloidref02_Bit (k : Nat) (a1 : List UInt8) (a2 : Int) : call (k + 1) f_celluloidref02_Bit [.s a1, .i a2] [] =
  (bif (Go.AI.inB (Go.IntKind.wrap .i64 (Int.tdiv a2 (8 : Int))) (List.length a1)) then run k f_celluloidref02_Bit [] at_celluloidref02_Bit_L0 (S_celluloidref02_Bit_L0 ((Go.IntKind.wrap .i64 (Go.AI.bt a1 (Go.IntKind.wrap .i64 (Int.tdiv a2 (8 : Int)))))) ((Int.tmod a2 (8 : Int))))
  else none) := by kernel_rfl
theorem u_celluloidref02_Bit_L0 (k : Nat) (x1 : Int) (x2 : Int) : run (k + 1) f_celluloidref02_Bit [] at_celluloidref02_Bit_L0 (S_celluloidref02_Bit_L0 x1 x2) =
  (bif (decide (x2 < (7 : Int))) then run k f_celluloidref02_Bit [] at_celluloidref02_Bit_L0 (S_celluloidref02_Bit_L0 ((Go.IntKind.wrap .i64 (Int.tdiv x1 (2 : Int)))) ((Go.IntKind.wrap .i64 (x2 + (1 : Int)))))
  else some ([(PV.i (Int.tmod x1 (2 : Int)))], [])) := by kernel_rfl
/- celluloid/celluloidref02.Power -/
noncomputable def S_celluloidref02_Power_L0 (x1 : Int) (x2 : Int) (x3 : Int) : St := mkSt [(0, .v (.int .i64 x1)), (3, .v (.int .i64 x2)), (4, .v (.int .i64 x3))] [] 1000 13
noncomputable def at_celluloidref02_Power_L0 : List Item := (atLoop Try.f50 0)
theorem u_celluloidref02_Power (k : Nat) (a1 : Int) : call (k + 1) f_celluloidref02_Power [.i a1] [] =
  run k f_celluloidref02_Power [] at_celluloidref02_Power_L0 (S_celluloidref02_Power_L0 (a1) ((1 : Int)) ((0 : Int))) := by kernel_rfl
theorem u_celluloidref02_Power_L0 (k : Nat) (x1 : Int) (x2 : Int) (x3 : Int) : run (k + 1) f_celluloidref02_Power [] at_celluloidref02_Power_L0 (S_celluloidref02_Power_L0 x1 x2 x3) =
  (bif (decide (x3 < x1)) then run k f_celluloidref02_Power [] at_celluloidref02_Power_L0 (S_celluloidref02_Power_L0 (x1) ((Go.IntKind.wrap .i64 (x2 * (2 : Int)))) ((Go.IntKind.wrap .i64 (x3 + (1 : Int)))))
  else some ([(PV.i x2)], [])) := by kernel_rfl
/- math/bits.Len -/
theorem u_math_bits_Len (k : Nat) (a1 : Int) : call (k + 1) f_math_bits_Len [.i a1] [] =
  (call k f_math_bits_Len64 [(PV.i a1)] []).bind fun r1 =>
  some ([(PV.i (((r1).1.getD 0 PV.u)).toI)], []) := by kernel_rfl
/- celluloid/celluloidref02.put -/
theorem u_celluloidref02_put (k : Nat) (a1 : List UInt8) (a2 : Int) (a3 : Int) : call (k + 1) f_celluloidref02_put [.s a1, .i a2, .i a3] [] =
  (bif (a2 == (0 : Int)) then (bif (decide (((List.length a1) + (List.length (Go.AI.toBytes (List.set [[(PV.i (0 : Int))]] 0 [(PV.i (Go.IntKind.wrap .u8 (Go.IntKind.wrap .i64 ((128 : Int) * a3))))])))) ≤ 1099511627776)) then some ([(PV.s (a1 ++ (Go.AI.toBytes (List.set [[(PV.i (0 : Int))]] 0 [(PV.i (Go.IntKind.wrap .u8 (Go.IntKind.wrap .i64 ((128 : Int) * a3))))])))), (PV.i (7 : Int))], [])
  else none)
  else (bif (Go.AI.inB (Go.IntKind.wrap .i64 ((((List.length a1) : Nat) : Int) - (1 : Int))) (List.length a1)) then (call k f_celluloidref02_Power [(PV.i (Go.IntKind.wrap .i64 (a2 - (1 : Int))))] []).bind fun r1 =>
  (bif (Go.AI.okB (0 : Int) (Go.IntKind.wrap .i64 ((((List.length a1) : Nat) : Int) - (1 : Int))) (List.length a1)) then (bif (decide (((List.length (Go.AI.cutL (0 : Int) (Go.IntKind.wrap .i64 ((((List.length a1) : Nat) : Int) - (1 : Int))) a1)) + (List.length (Go.AI.toBytes (List.set [[(PV.i (0 : Int))]] 0 [(PV.i (Go.IntKind.wrap .u8 (Go.IntKind.wrap .i64 ((Go.IntKind.wrap .i64 (Go.AI.bt a1 (Go.IntKind.wrap .i64 ((((List.length a1) : Nat) : Int) - (1 : Int))))) + (Go.IntKind.wrap .i64 (a3 * (((r1).1.getD 0 PV.u)).toI))))))])))) ≤ 1099511627776)) then some ([(PV.s ((Go.AI.cutL (0 : Int) (Go.IntKind.wrap .i64 ((((List.length a1) : Nat) : Int) - (1 : Int))) a1) ++ (Go.AI.toBytes (List.set [[(PV.i (0 : Int))]] 0 [(PV.i (Go.IntKind.wrap .u8 (Go.IntKind.wrap .i64 ((Go.IntKind.wrap .i64 (Go.AI.bt a1 (Go.IntKind.wrap .i64 ((((List.length a1) : Nat) : Int) - (1 : Int))))) + (Go.IntKind.wrap .i64 (a3 * (((r1).1.getD 0 PV.u)).toI))))))])))), (PV.i (Go.IntKind.wrap .i64 (a2 - (1 : Int))))], [])
  else none)
  else none)
  else none)) := by kernel_rfl
/- celluloid/celluloidref12.one -/
theorem u_celluloidref12_one (k : Nat) (a1 : Int) : call (k + 1) f_celluloidref12_one [.i a1] [] =
  some ([(PV.s (Go.AI.toBytes (List.set [[(PV.i (0 : Int))]] 0 [(PV.i (Go.IntKind.wrap .u8 a1))])))], []) := by kernel_rfl
/- (*strings.Builder).WriteString -/
theorem u___strings_Builder__WriteString (k : Nat) (a2 : List UInt8) (p0_2 : List (List PV)) : call (k + 1) f___strings_Builder__WriteString [.u, .s a2] [(t_strings_Builder, [.u, .l p0_2])] =
  none := by kernel_rfl
/- (*strings.Builder).String -/
theorem u___strings_Builder__String (k : Nat) (p0_2 : List (List PV)) : call (k + 1) f___strings_Builder__String [.u] [(t_strings_Builder, [.u, .l p0_2])] =
  none := by kernel_rfl
/- math/bits.Len32 -/
theorem u_math_bits_Len32 (k : Nat) (a1 : Int) : call (k + 1) f_math_bits_Len32 [.i a1] [] =
  (bif (decide (a1 ≥ (65536 : Int))) then (bif (decide ((Go.AI.shr .u32 a1 (16 : Int)) ≥ (256 : Int))) then (bif (Go.AI.inB (Go.IntKind.wrap .u8 (Go.AI.shr .u32 (Go.AI.shr .u32 a1 (16 : Int)) (8 : Int))) 256) then some ([(PV.i (Go.IntKind.wrap .i64 ((24 : Int) + (Go.IntKind.wrap .i64 (Go.AI.bt [0, 1, 2, 2, 3, 3, 3, 3, 4, 4, 4, 4, 4, 4, 4, 4, 5, 5, 5, 5, 5, 5, 5, 5, 5, 5, 5, 5, 5, 5, 5, 5, 6, 6, 6, 6, 6, 6, 6, 6, 6, 6, 6, 6, 6, 6, 6, 6, 6, 6, 6, 6, 6, 6, 6, 6, 6, 6, 6, 6, 6, 6, 6, 6, 7, 7, 7, 7, 7, 7, 7, 7, 7, 7, 7, 7, 7, 7, 7, 7, 7, 7, 7, 7, 7, 7, 7, 7, 7, 7, 7, 7, 7, 7, 7, 7, 7, 7, 7, 7, 7, 7, 7, 7, 7, 7, 7, 7, 7, 7, 7, 7, 7, 7, 7, 7, 7, 7, 7, 7, 7, 7, 7, 7, 7, 7, 7, 7, 8, 8, 8, 8, 8, 8, 8, 8, 8, 8, 8, 8, 8, 8, 8, 8, 8, 8, 8, 8, 8, 8, 8, 8, 8, 8, 8, 8, 8, 8, 8, 8, 8, 8, 8, 8, 8, 8, 8, 8, 8, 8, 8, 8, 8, 8, 8, 8, 8, 8, 8, 8, 8, 8, 8, 8, 8, 8, 8, 8, 8, 8, 8, 8, 8, 8, 8, 8, 8, 8, 8, 8, 8, 8, 8, 8, 8, 8, 8, 8, 8, 8, 8, 8, 8, 8, 8, 8, 8, 8, 8, 8, 8, 8, 8, 8, 8, 8, 8, 8, 8, 8, 8, 8, 8, 8, 8, 8, 8, 8, 8, 8, 8, 8, 8, 8, 8, 8, 8, 8, 8, 8, 8, 8, 8, 8, 8, 8] (Go.IntKind.wrap .u8 (Go.AI.shr .u32 (Go.AI.shr .u32 a1 (16 : Int)) (8 : Int))))))))], [])
  else none)
  else (bif (Go.AI.inB (Go.IntKind.wrap .u8 (Go.AI.shr .u32 a1 (16 : Int))) 256) then some ([(PV.i (Go.IntKind.wrap .i64 ((16 : Int) + (Go.IntKind.wrap .i64 (Go.AI.bt [0, 1, 2, 2, 3, 3, 3, 3, 4, 4, 4, 4, 4, 4, 4, 4, 5, 5, 5, 5, 5, 5, 5, 5, 5, 5, 5, 5, 5, 5, 5, 5, 6, 6, 6, 6, 6, 6, 6, 6, 6, 6, 6, 6, 6, 6, 6, 6, 6, 6, 6, 6, 6, 6, 6, 6, 6, 6, 6, 6, 6, 6, 6, 6, 7, 7, 7, 7, 7, 7, 7, 7, 7, 7, 7, 7, 7, 7, 7, 7, 7, 7, 7, 7, 7, 7, 7, 7, 7, 7, 7, 7, 7, 7, 7, 7, 7, 7, 7, 7, 7, 7, 7, 7, 7, 7, 7, 7, 7, 7, 7, 7, 7, 7, 7, 7, 7, 7, 7, 7, 7, 7, 7, 7, 7, 7, 7, 7, 8, 8, 8, 8, 8, 8, 8, 8, 8, 8, 8, 8, 8, 8, 8, 8, 8, 8, 8, 8, 8, 8, 8, 8, 8, 8, 8, 8, 8, 8, 8, 8, 8, 8, 8, 8, 8, 8, 8, 8, 8, 8, 8, 8, 8, 8, 8, 8, 8, 8, 8, 8, 8, 8, 8, 8, 8, 8, 8, 8, 8, 8, 8, 8, 8, 8, 8, 8, 8, 8, 8, 8, 8, 8, 8, 8, 8, 8, 8, 8, 8, 8, 8, 8, 8, 8, 8, 8, 8, 8, 8, 8, 8, 8, 8, 8, 8, 8, 8, 8, 8, 8, 8, 8, 8, 8, 8, 8, 8, 8, 8, 8, 8, 8, 8, 8, 8, 8, 8, 8, 8, 8, 8, 8, 8, 8, 8, 8] (Go.IntKind.wrap .u8 (Go.AI.shr .u32 a1 (16 : Int))))))))], [])
  else none))
  else (bif (decide (a1 ≥ (256 : Int))) then (bif (Go.AI.inB (Go.IntKind.wrap .u8 (Go.AI.shr .u32 a1 (8 : Int))) 256) then some ([(PV.i (Go.IntKind.wrap .i64 ((8 : Int) + (Go.IntKind.wrap .i64 (Go.AI.bt [0, 1, 2, 2, 3, 3, 3, 3, 4, 4, 4, 4, 4, 4, 4, 4, 5, 5, 5, 5, 5, 5, 5, 5, 5, 5, 5, 5, 5, 5, 5, 5, 6, 6, 6, 6, 6, 6, 6, 6, 6, 6, 6, 6, 6, 6, 6, 6, 6, 6, 6, 6, 6, 6, 6, 6, 6, 6, 6, 6, 6, 6, 6, 6, 7, 7, 7, 7, 7, 7, 7, 7, 7, 7, 7, 7, 7, 7, 7, 7, 7, 7, 7, 7, 7, 7, 7, 7, 7, 7, 7, 7, 7, 7, 7, 7, 7, 7, 7, 7, 7, 7, 7, 7, 7, 7, 7, 7, 7, 7, 7, 7, 7, 7, 7, 7, 7, 7, 7, 7, 7, 7, 7, 7, 7, 7, 7, 7, 8, 8, 8, 8, 8, 8, 8, 8, 8, 8, 8, 8, 8, 8, 8, 8, 8, 8, 8, 8, 8, 8, 8, 8, 8, 8, 8, 8, 8, 8, 8, 8, 8, 8, 8, 8, 8, 8, 8, 8, 8, 8, 8, 8, 8, 8, 8, 8, 8, 8, 8, 8, 8, 8, 8, 8, 8, 8, 8, 8, 8, 8, 8, 8, 8, 8, 8, 8, 8, 8, 8, 8, 8, 8, 8, 8, 8, 8, 8, 8, 8, 8, 8, 8, 8, 8, 8, 8, 8, 8, 8, 8, 8, 8, 8, 8, 8, 8, 8, 8, 8, 8, 8, 8, 8, 8, 8, 8, 8, 8, 8, 8, 8, 8, 8, 8, 8, 8, 8, 8, 8, 8, 8, 8, 8, 8, 8, 8] (Go.IntKind.wrap .u8 (Go.AI.shr .u32 a1 (8 : Int))))))))], [])
  else none)
  else (bif (Go.AI.inB (Go.IntKind.wrap .u8 a1) 256) then some ([(PV.i (Go.IntKind.wrap .i64 ((0 : Int) + (Go.IntKind.wrap .i64 (Go.AI.bt [0, 1, 2, 2, 3, 3, 3, 3, 4, 4, 4, 4, 4, 4, 4, 4, 5, 5, 5, 5, 5, 5, 5, 5, 5, 5, 5, 5, 5, 5, 5, 5, 6, 6, 6, 6, 6, 6, 6, 6, 6, 6, 6, 6, 6, 6, 6, 6, 6, 6, 6, 6, 6, 6, 6, 6, 6, 6, 6, 6, 6, 6, 6, 6, 7, 7, 7, 7, 7, 7, 7, 7, 7, 7, 7, 7, 7, 7, 7, 7, 7, 7, 7, 7, 7, 7, 7, 7, 7, 7, 7, 7, 7, 7, 7, 7, 7, 7, 7, 7, 7, 7, 7, 7, 7, 7, 7, 7, 7, 7, 7, 7, 7, 7, 7, 7, 7, 7, 7, 7, 7, 7, 7, 7, 7, 7, 7, 7, 8, 8, 8, 8, 8, 8, 8, 8, 8, 8, 8, 8, 8, 8, 8, 8, 8, 8, 8, 8, 8, 8, 8, 8, 8, 8, 8, 8, 8, 8, 8, 8, 8, 8, 8, 8, 8, 8, 8, 8, 8, 8, 8, 8, 8, 8, 8, 8, 8, 8, 8, 8, 8, 8, 8, 8, 8, 8, 8, 8, 8, 8, 8, 8, 8, 8, 8, 8, 8, 8, 8, 8, 8, 8, 8, 8, 8, 8, 8, 8, 8, 8, 8, 8, 8, 8, 8, 8, 8, 8, 8, 8, 8, 8, 8, 8, 8, 8, 8, 8, 8, 8, 8, 8, 8, 8, 8, 8, 8, 8, 8, 8, 8, 8, 8, 8, 8, 8, 8, 8, 8, 8, 8, 8, 8, 8, 8, 8] (Go.IntKind.wrap .u8 a1))))))], [])
  else none))) := by kernel_rfl
/- math/bits.Len64 -/
theorem u_math_bits_Len64 (k : Nat) (a1 : Int) : call (k + 1) f_math_bits_Len64 [.i a1] [] =
  (bif (decide (a1 ≥ (4294967296 : Int))) then (bif (decide ((Go.AI.shr .u64 a1 (32 : Int)) ≥ (65536 : Int))) then (bif (decide ((Go.AI.shr .u64 (Go.AI.shr .u64 a1 (32 : Int)) (16 : Int)) ≥ (256 : Int))) then (bif (Go.AI.inB (Go.IntKind.wrap .u8 (Go.AI.shr .u64 (Go.AI.shr .u64 (Go.AI.shr .u64 a1 (32 : Int)) (16 : Int)) (8 : Int))) 256) then some ([(PV.i (Go.IntKind.wrap .i64 ((56 : Int) + (Go.IntKind.wrap .i64 (Go.AI.bt [0, 1, 2, 2, 3, 3, 3, 3, 4, 4, 4, 4, 4, 4, 4, 4, 5, 5, 5, 5, 5, 5, 5, 5, 5, 5, 5, 5, 5, 5, 5, 5, 6, 6, 6, 6, 6, 6, 6, 6, 6, 6, 6, 6, 6, 6, 6, 6, 6, 6, 6, 6, 6, 6, 6, 6, 6, 6, 6, 6, 6, 6, 6, 6, 7, 7, 7, 7, 7, 7, 7, 7, 7, 7, 7, 7, 7, 7, 7, 7, 7, 7, 7, 7, 7, 7, 7, 7, 7, 7, 7, 7, 7, 7, 7, 7, 7, 7, 7, 7, 7, 7, 7, 7, 7, 7, 7, 7, 7, 7, 7, 7, 7, 7, 7, 7, 7, 7, 7, 7, 7, 7, 7, 7, 7, 7, 7, 7, 8, 8, 8, 8, 8, 8, 8, 8, 8, 8, 8, 8, 8, 8, 8, 8, 8, 8, 8, 8, 8, 8, 8, 8, 8, 8, 8, 8, 8, 8, 8, 8, 8, 8, 8, 8, 8, 8, 8, 8, 8, 8, 8, 8, 8, 8, 8, 8, 8, 8, 8, 8, 8, 8, 8, 8, 8, 8, 8, 8, 8, 8, 8, 8, 8, 8, 8, 8, 8, 8, 8, 8, 8, 8, 8, 8, 8, 8, 8, 8, 8, 8, 8, 8, 8, 8, 8, 8, 8, 8, 8, 8, 8, 8, 8, 8, 8, 8, 8, 8, 8, 8, 8, 8, 8, 8, 8, 8, 8, 8, 8, 8, 8, 8, 8, 8, 8, 8, 8, 8, 8, 8, 8, 8, 8, 8, 8, 8] (Go.IntKind.wrap .u8 (Go.AI.shr .u64 (Go.AI.shr .u64 (Go.AI.shr .u64 a1 (32 : Int)) (16 : Int)) (8 : Int))))))))], [])
  else none)
  else (bif (Go.AI.inB (Go.IntKind.wrap .u8 (Go.AI.shr .u64 (Go.AI.shr .u64 a1 (32 : Int)) (16 : Int))) 256) then some ([(PV.i (Go.IntKind.wrap .i64 ((48 : Int) + (Go.IntKind.wrap .i64 (Go.AI.bt [0, 1, 2, 2, 3, 3, 3, 3, 4, 4, 4, 4, 4, 4, 4, 4, 5, 5, 5, 5, 5, 5, 5, 5, 5, 5, 5, 5, 5, 5, 5, 5, 6, 6, 6, 6, 6, 6, 6, 6, 6, 6, 6, 6, 6, 6, 6, 6, 6, 6, 6, 6, 6, 6, 6, 6, 6, 6, 6, 6, 6, 6, 6, 6, 7, 7, 7, 7, 7, 7, 7, 7, 7, 7, 7, 7, 7, 7, 7, 7, 7, 7, 7, 7, 7, 7, 7, 7, 7, 7, 7, 7, 7, 7, 7, 7, 7, 7, 7, 7, 7, 7, 7, 7, 7, 7, 7, 7, 7, 7, 7, 7, 7, 7, 7, 7, 7, 7, 7, 7, 7, 7, 7, 7, 7, 7, 7, 7, 8, 8, 8, 8, 8, 8, 8, 8, 8, 8, 8, 8, 8, 8, 8, 8, 8, 8, 8, 8, 8, 8, 8, 8, 8, 8, 8, 8, 8, 8, 8, 8, 8, 8, 8, 8, 8, 8, 8, 8, 8, 8, 8, 8, 8, 8, 8, 8, 8, 8, 8, 8, 8, 8, 8, 8, 8, 8, 8, 8, 8, 8, 8, 8, 8, 8, 8, 8, 8, 8, 8, 8, 8, 8, 8, 8, 8, 8, 8, 8, 8, 8, 8, 8, 8, 8, 8, 8, 8, 8, 8, 8, 8, 8, 8, 8, 8, 8, 8, 8, 8, 8, 8, 8, 8, 8, 8, 8, 8, 8, 8, 8, 8, 8, 8, 8, 8, 8, 8, 8, 8, 8, 8, 8, 8, 8, 8, 8] (Go.IntKind.wrap .u8 (Go.AI.shr .u64 (Go.AI.shr .u64 a1 (32 : Int)) (16 : Int))))))))], [])
  else none))
  else (bif (decide ((Go.AI.shr .u64 a1 (32 : Int)) ≥ (256 : Int))) then (bif (Go.AI.inB (Go.IntKind.wrap .u8 (Go.AI.shr .u64 (Go.AI.shr .u64 a1 (32 : Int)) (8 : Int))) 256) then some ([(PV.i (Go.IntKind.wrap .i64 ((40 : Int) + (Go.IntKind.wrap .i64 (Go.AI.bt [0, 1, 2, 2, 3, 3, 3, 3, 4, 4, 4, 4, 4, 4, 4, 4, 5, 5, 5, 5, 5, 5, 5, 5, 5, 5, 5, 5, 5, 5, 5, 5, 6, 6, 6, 6, 6, 6, 6, 6, 6, 6, 6, 6, 6, 6, 6, 6, 6, 6, 6, 6, 6, 6, 6, 6, 6, 6, 6, 6, 6, 6, 6, 6, 7, 7, 7, 7, 7, 7, 7, 7, 7, 7, 7, 7, 7, 7, 7, 7, 7, 7, 7, 7, 7, 7, 7, 7, 7, 7, 7, 7, 7, 7, 7, 7, 7, 7, 7, 7, 7, 7, 7, 7, 7, 7, 7, 7, 7, 7, 7, 7, 7, 7, 7, 7, 7, 7, 7, 7, 7, 7, 7, 7, 7, 7, 7, 7, 8, 8, 8, 8, 8, 8, 8, 8, 8, 8, 8, 8, 8, 8, 8, 8, 8, 8, 8, 8, 8, 8, 8, 8, 8, 8, 8, 8, 8, 8, 8, 8, 8, 8, 8, 8, 8, 8, 8, 8, 8, 8, 8, 8, 8, 8, 8, 8, 8, 8, 8, 8, 8, 8, 8, 8, 8, 8, 8, 8, 8, 8, 8, 8, 8, 8, 8, 8, 8, 8, 8, 8, 8, 8, 8, 8, 8, 8, 8, 8, 8, 8, 8, 8, 8, 8, 8, 8, 8, 8, 8, 8, 8, 8, 8, 8, 8, 8, 8, 8, 8, 8, 8, 8, 8, 8, 8, 8, 8, 8, 8, 8, 8, 8, 8, 8, 8, 8, 8, 8, 8, 8, 8, 8, 8, 8, 8, 8] (Go.IntKind.wrap .u8 (Go.AI.shr .u64 (Go.AI.shr .u64 a1 (32 : Int)) (8 : Int))))))))], [])
  else none)
  else (bif (Go.AI.inB (Go.IntKind.wrap .u8 (Go.AI.shr .u64 a1 (32 : Int))) 256) then some ([(PV.i (Go.IntKind.wrap .i64 ((32 : Int) + (Go.IntKind.wrap .i64 (Go.AI.bt [0, 1, 2, 2, 3, 3, 3, 3, 4, 4, 4, 4, 4, 4, 4, 4, 5, 5, 5, 5, 5, 5, 5, 5, 5, 5, 5, 5, 5, 5, 5, 5, 6, 6, 6, 6, 6, 6, 6, 6, 6, 6, 6, 6, 6, 6, 6, 6, 6, 6, 6, 6, 6, 6, 6, 6, 6, 6, 6, 6, 6, 6, 6, 6, 7, 7, 7, 7, 7, 7, 7, 7, 7, 7, 7, 7, 7, 7, 7, 7, 7, 7, 7, 7, 7, 7, 7, 7, 7, 7, 7, 7, 7, 7, 7, 7, 7, 7, 7, 7, 7, 7, 7, 7, 7, 7, 7, 7, 7, 7, 7, 7, 7, 7, 7, 7, 7, 7, 7, 7, 7, 7, 7, 7, 7, 7, 7, 7, 8, 8, 8, 8, 8, 8, 8, 8, 8, 8, 8, 8, 8, 8, 8, 8, 8, 8, 8, 8, 8, 8, 8, 8, 8, 8, 8, 8, 8, 8, 8, 8, 8, 8, 8, 8, 8, 8, 8, 8, 8, 8, 8, 8, 8, 8, 8, 8, 8, 8, 8, 8, 8, 8, 8, 8, 8, 8, 8, 8, 8, 8, 8, 8, 8, 8, 8, 8, 8, 8, 8, 8, 8, 8, 8, 8, 8, 8, 8, 8, 8, 8, 8, 8, 8, 8, 8, 8, 8, 8, 8, 8, 8, 8, 8, 8, 8, 8, 8, 8, 8, 8, 8, 8, 8, 8, 8, 8, 8, 8, 8, 8, 8, 8, 8, 8, 8, 8, 8, 8, 8, 8, 8, 8, 8, 8, 8, 8] (Go.IntKind.wrap .u8 (Go.AI.shr .u64 a1 (32 : Int))))))))], [])
  else none)))
  else (bif (decide (a1 ≥ (65536 : Int))) then (bif (decide ((Go.AI.shr .u64 a1 (16 : Int)) ≥ (256 : Int))) then (bif (Go.AI.inB (Go.IntKind.wrap .u8 (Go.AI.shr .u64 (Go.AI.shr .u64 a1 (16 : Int)) (8 : Int))) 256) then some ([(PV.i (Go.IntKind.wrap .i64 ((24 : Int) + (Go.IntKind.wrap .i64 (Go.AI.bt [0, 1, 2, 2, 3, 3, 3, 3, 4, 4, 4, 4, 4, 4, 4, 4, 5, 5, 5, 5, 5, 5, 5, 5, 5, 5, 5, 5, 5, 5, 5, 5, 6, 6, 6, 6, 6, 6, 6, 6, 6, 6, 6, 6, 6, 6, 6, 6, 6, 6, 6, 6, 6, 6, 6, 6, 6, 6, 6, 6, 6, 6, 6, 6, 7, 7, 7, 7, 7, 7, 7, 7, 7, 7, 7, 7, 7, 7, 7, 7, 7, 7, 7, 7, 7, 7, 7, 7, 7, 7, 7, 7, 7, 7, 7, 7, 7, 7, 7, 7, 7, 7, 7, 7, 7, 7, 7, 7, 7, 7, 7, 7, 7, 7, 7, 7, 7, 7, 7, 7, 7, 7, 7, 7, 7, 7, 7, 7, 8, 8, 8, 8, 8, 8, 8, 8, 8, 8, 8, 8, 8, 8, 8, 8, 8, 8, 8, 8, 8, 8, 8, 8, 8, 8, 8, 8, 8, 8, 8, 8, 8, 8, 8, 8, 8, 8, 8, 8, 8, 8, 8, 8, 8, 8, 8, 8, 8, 8, 8, 8, 8, 8, 8, 8, 8, 8, 8, 8, 8, 8, 8, 8, 8, 8, 8, 8, 8, 8, 8, 8, 8, 8, 8, 8, 8, 8, 8, 8, 8, 8, 8, 8, 8, 8, 8, 8, 8, 8, 8, 8, 8, 8, 8, 8, 8, 8, 8, 8, 8, 8, 8, 8, 8, 8, 8, 8, 8, 8, 8, 8, 8, 8, 8, 8, 8, 8, 8, 8, 8, 8, 8, 8, 8, 8, 8, 8] (Go.IntKind.wrap .u8 (Go.AI.shr .u64 (Go.AI.shr .u64 a1 (16 : Int)) (8 : Int))))))))], [])
  else none)
  else (bif (Go.AI.inB (Go.IntKind.wrap .u8 (Go.AI.shr .u64 a1 (16 : Int))) 256) then some ([(PV.i (Go.IntKind.wrap .i64 ((16 : Int) + (Go.IntKind.wrap .i64 (Go.AI.bt [0, 1, 2, 2, 3, 3, 3, 3, 4, 4, 4, 4, 4, 4, 4, 4, 5, 5, 5, 5, 5, 5, 5, 5, 5, 5, 5, 5, 5, 5, 5, 5, 6, 6, 6, 6, 6, 6, 6, 6, 6, 6, 6, 6, 6, 6, 6, 6, 6, 6, 6, 6, 6, 6, 6, 6, 6, 6, 6, 6, 6, 6, 6, 6, 7, 7, 7, 7, 7, 7, 7, 7, 7, 7, 7, 7, 7, 7, 7, 7, 7, 7, 7, 7, 7, 7, 7, 7, 7, 7, 7, 7, 7, 7, 7, 7, 7, 7, 7, 7, 7, 7, 7, 7, 7, 7, 7, 7, 7, 7, 7, 7, 7, 7, 7, 7, 7, 7, 7, 7, 7, 7, 7, 7, 7, 7, 7, 7, 8, 8, 8, 8, 8, 8, 8, 8, 8, 8, 8, 8, 8, 8, 8, 8, 8, 8, 8, 8, 8, 8, 8, 8, 8, 8, 8, 8, 8, 8, 8, 8, 8, 8, 8, 8, 8, 8, 8, 8, 8, 8, 8, 8, 8, 8, 8, 8, 8, 8, 8, 8, 8, 8, 8, 8, 8, 8, 8, 8, 8, 8, 8, 8, 8, 8, 8, 8, 8, 8, 8, 8, 8, 8, 8, 8, 8, 8, 8, 8, 8, 8, 8, 8, 8, 8, 8, 8, 8, 8, 8, 8, 8, 8, 8, 8, 8, 8, 8, 8, 8, 8, 8, 8, 8, 8, 8, 8, 8, 8, 8, 8, 8, 8, 8, 8, 8, 8, 8, 8, 8, 8, 8, 8, 8, 8, 8, 8] (Go.IntKind.wrap .u8 (Go.AI.shr .u64 a1 (16 : Int))))))))], [])
  else none))
  else (bif (decide (a1 ≥ (256 : Int))) then (bif (Go.AI.inB (Go.IntKind.wrap .u8 (Go.AI.shr .u64 a1 (8 : Int))) 256) then some ([(PV.i (Go.IntKind.wrap .i64 ((8 : Int) + (Go.IntKind.wrap .i64 (Go.AI.bt [0, 1, 2, 2, 3, 3, 3, 3, 4, 4, 4, 4, 4, 4, 4, 4, 5, 5, 5, 5, 5, 5, 5, 5, 5, 5, 5, 5, 5, 5, 5, 5, 6, 6, 6, 6, 6, 6, 6, 6, 6, 6, 6, 6, 6, 6, 6, 6, 6, 6, 6, 6, 6, 6, 6, 6, 6, 6, 6, 6, 6, 6, 6, 6, 7, 7, 7, 7, 7, 7, 7, 7, 7, 7, 7, 7, 7, 7, 7, 7, 7, 7, 7, 7, 7, 7, 7, 7, 7, 7, 7, 7, 7, 7, 7, 7, 7, 7, 7, 7, 7, 7, 7, 7, 7, 7, 7, 7, 7, 7, 7, 7, 7, 7, 7, 7, 7, 7, 7, 7, 7, 7, 7, 7, 7, 7, 7, 7, 8, 8, 8, 8, 8, 8, 8, 8, 8, 8, 8, 8, 8, 8, 8, 8, 8, 8, 8, 8, 8, 8, 8, 8, 8, 8, 8, 8, 8, 8, 8, 8, 8, 8, 8, 8, 8, 8, 8, 8, 8, 8, 8, 8, 8, 8, 8, 8, 8, 8, 8, 8, 8, 8, 8, 8, 8, 8, 8, 8, 8, 8, 8, 8, 8, 8, 8, 8, 8, 8, 8, 8, 8, 8, 8, 8, 8, 8, 8, 8, 8, 8, 8, 8, 8, 8, 8, 8, 8, 8, 8, 8, 8, 8, 8, 8, 8, 8, 8, 8, 8, 8, 8, 8, 8, 8, 8, 8, 8, 8, 8, 8, 8, 8, 8, 8, 8, 8, 8, 8, 8, 8, 8, 8, 8, 8, 8, 8] (Go.IntKind.wrap .u8 (Go.AI.shr .u64 a1 (8 : Int))))))))], [])
  else none)
  else (bif (Go.AI.inB (Go.IntKind.wrap .u8 a1) 256) then some ([(PV.i (Go.IntKind.wrap .i64 ((0 : Int) + (Go.IntKind.wrap .i64 (Go.AI.bt [0, 1, 2, 2, 3, 3, 3, 3, 4, 4, 4, 4, 4, 4, 4, 4, 5, 5, 5, 5, 5, 5, 5, 5, 5, 5, 5, 5, 5, 5, 5, 5, 6, 6, 6, 6, 6, 6, 6, 6, 6, 6, 6, 6, 6, 6, 6, 6, 6, 6, 6, 6, 6, 6, 6, 6, 6, 6, 6, 6, 6, 6, 6, 6, 7, 7, 7, 7, 7, 7, 7, 7, 7, 7, 7, 7, 7, 7, 7, 7, 7, 7, 7, 7, 7, 7, 7, 7, 7, 7, 7, 7, 7, 7, 7, 7, 7, 7, 7, 7, 7, 7, 7, 7, 7, 7, 7, 7, 7, 7, 7, 7, 7, 7, 7, 7, 7, 7, 7, 7, 7, 7, 7, 7, 7, 7, 7, 7, 8, 8, 8, 8, 8, 8, 8, 8, 8, 8, 8, 8, 8, 8, 8, 8, 8, 8, 8, 8, 8, 8, 8, 8, 8, 8, 8, 8, 8, 8, 8, 8, 8, 8, 8, 8, 8, 8, 8, 8, 8, 8, 8, 8, 8, 8, 8, 8, 8, 8, 8, 8, 8, 8, 8, 8, 8, 8, 8, 8, 8, 8, 8, 8, 8, 8, 8, 8, 8, 8, 8, 8, 8, 8, 8, 8, 8, 8, 8, 8, 8, 8, 8, 8, 8, 8, 8, 8, 8, 8, 8, 8, 8, 8, 8, 8, 8, 8, 8, 8, 8, 8, 8, 8, 8, 8, 8, 8, 8, 8, 8, 8, 8, 8, 8, 8, 8, 8, 8, 8, 8, 8, 8, 8, 8, 8, 8, 8] (Go.IntKind.wrap .u8 a1))))))], [])
  else none)))) := by kernel_rfl
/- (*strings.Builder).copyCheck -/
theorem u___strings_Builder__copyCheck (k : Nat) (p0_2 : List (List PV)) : call (k + 1) f___strings_Builder__copyCheck [.u] [(t_strings_Builder, [.u, .l p0_2])] =
  none := by kernel_rfl

end Go.AI
