/- Equations of the program's functions: each says what the interpreter answers for a call, by the answers one level below. -/
import Derived.Test.YtdfhhanbapkegaaAiDefs
import Derived.Test.YtdfhhanbapkegaaProg
import Derived.KernelRfl
set_option linter.unusedVariables false
set_option maxRecDepth 100000
namespace Go.AI
open Go.Proofs
def lookA : List (Nat × Nat × Keep) → Nat → Nat → Option Keep
  | [], _, _ => none
  | (f, k, kp) :: l, f', k' => bif Nat.beq f f' && Nat.beq k k' then some kp else lookA l f' k'
def loopTab : List (Nat × Nat × Keep) := [(10, 0, { slots := [(3, .any), (6, .pl 3), (7, .any), (8, .any)], boxes := [], r := 1000 }),
  (16, 0, { slots := [(1, .any), (3, .any), (15, .any), (16, .any), (17, .any), (18, .any), (19, .any), (20, .any)], boxes := [(.n 1 0 0)], r := 1000 }),
  (17, 0, { slots := [(13, .pl 3), (14, .any), (15, .any), (22, .any), (23, .any)], boxes := [], r := 1000 }),
  (25, 0, { slots := [(0, .any), (3, .any), (5, .any), (6, .any), (7, .any), (18, .any), (19, .any), (20, .any), (21, .any), (22, .any), (26, .any), (27, .any), (28, .any), (29, .any), (30, .any), (35, .any), (49, .any)], boxes := [(.n 1 0 0)], r := 1000 }),
  (25, 2, { slots := [(0, .any), (3, .any), (5, .any), (6, .any), (8, .row 3), (9, .any), (35, .any), (49, .any)], boxes := [(.n 1 0 0)], r := 2000 }),
  (25, 4, { slots := [(0, .any), (3, .any), (5, .any), (6, .any), (8, .row 3), (10, .any), (49, .any)], boxes := [(.n 1 0 0)], r := 3000 }),
  (29, 0, { slots := [(2, .any), (3, .any), (5, .any), (6, .any), (7, .any), (8, .any), (9, .any), (25, .any)], boxes := [(.n 1 1 0), (.n 1 2 0), (.n 2 1 0), (.n 3 1 0)], r := 1000 }),
  (29, 2, { slots := [(2, .any), (3, .any), (5, .any), (6, .any), (7, .any), (9, .any), (36, .any)], boxes := [(.n 1 1 0), (.n 1 2 0), (.n 2 1 0), (.n 3 1 0)], r := 2000 }),
  (34, 0, { slots := [(2, .any), (3, .any), (4, .any), (5, .any), (7, .any), (9, .pl 3), (10, .any), (11, .any), (38, .any), (39, .any), (53, .any), (54, .any)], boxes := [(.n 1 1 0), (.n 1 2 0), (.n 2 2 0), (.n 5 9 0)], r := 1000 }),
  (34, 2, { slots := [(2, .any), (3, .any), (4, .any), (5, .any), (7, .any), (9, .pl 3), (10, .any), (12, .any), (53, .any), (54, .any)], boxes := [(.n 1 1 0), (.n 1 2 0), (.n 2 2 0), (.n 5 9 0)], r := 2000 }),
  (37, 0, { slots := [(0, .any), (6, .any), (15, .pl 3), (16, .any), (17, .any)], boxes := [(.p 0)], r := 1000 }),
  (45, 0, { slots := [(0, .any), (1, .any), (9, .pl 3), (10, .any), (11, .any), (19, .any), (20, .any), (21, .any)], boxes := [], r := 1000 }),
  (46, 0, { slots := [(2, .pl 3), (3, .any), (6, .any), (7, .any), (8, .any)], boxes := [(.n 1 0 0), (.n 1 1 0)], r := 1000 }),
  (53, 0, { slots := [(2, .any), (3, .any), (7, .any), (8, .any), (9, .row 3), (10, .any)], boxes := [(.n 1 0 0), (.n 1 2 0)], r := 1000 }),
  (62, 0, { slots := [(0, .pl 3), (3, .any), (4, .any)], boxes := [], r := 1000 }),
  (63, 0, { slots := [(1, .any), (3, .any), (6, .any), (8, .any)], boxes := [(.n 1 0 0), (.n 1 1 0)], r := 1000 }),
  (65, 1, { slots := [(1, .any), (2, .any), (5, .any), (7, .any), (8, .any)], boxes := [(.n 1 0 0), (.n 1 2 0)], r := 1000 }),
  (71, 0, { slots := [(1, .any), (2, .any), (6, .any), (7, .any), (8, .any), (9, .any)], boxes := [(.n 1 0 0), (.n 1 1 0)], r := 1000 }),
  (72, 0, { slots := [(1, .any), (2, .any), (5, .any), (7, .any), (8, .any)], boxes := [(.n 1 0 0), (.n 1 2 0)], r := 1000 }),
  (73, 0, { slots := [(1, .any), (3, .any), (6, .any), (8, .row 5), (9, .any)], boxes := [(.n 1 0 0), (.n 1 1 0)], r := 1000 }),
  (74, 0, { slots := [(0, .any), (3, .any), (7, .any), (8, .any), (11, .any), (12, .any), (13, .any), (14, .any), (15, .any), (16, .any), (17, .any), (18, .any), (19, .any), (20, .any), (21, .any), (22, .any), (23, .any), (24, .any), (25, .any), (26, .any), (27, .any), (28, .any), (29, .any), (30, .any), (31, .any), (32, .any), (35, .any), (36, .any), (37, .any), (38, .any), (39, .any), (40, .any), (41, .any), (42, .any), (43, .any), (44, .any), (45, .any)], boxes := [], r := 1000 }),
  (75, 0, { slots := [(0, .any), (3, .any), (4, .any)], boxes := [], r := 1000 }),
  (78, 0, { slots := [(5, .any), (6, .any)], boxes := [], r := 1000 })]
def cutTab : List (Nat × Nat × Keep) := []
def ann : Ann := { loop := lookA loopTab, cut := lookA cutTab, ownT := fun _ => false, ownA := fun _ => false, ownR := fun _ => false, wrT := fun _ _ => false }
noncomputable abbrev call (k : Nat) := callAt Try.prog ann k
noncomputable abbrev run (k : Nat) := runAt Try.prog ann k
def f_celluloidlaw07_FieldSizes : Nat := 3
def f_celluloidlaw07_FieldPuts : Nat := 4
def f_celluloidlaw07_FieldTakes : Nat := 5
def f_celluloidlaw07_FieldAgain : Nat := 6
def f_celluloidlaw07_FieldBack : Nat := 7
def f_field_PutRect : Nat := 8
def f_field_PutMatrix : Nat := 9
def f_bits_Width : Nat := 10
def f_celluloidlaw07_awake : Nat := 11
def f_field_PutCx : Nat := 12
def f_field_PutRGBA : Nat := 13
def f_celluloidref07_Rect : Nat := 14
def f_celluloidref07_Matrix : Nat := 15
def f_celluloidref07_Cx : Nat := 16
def f_celluloidref07_RGBA : Nat := 17
def f_field_RightRect : Nat := 18
def f_field_RightMatrix : Nat := 19
def f_field_RightCx : Nat := 20
def f_field_RightRGBA : Nat := 21
def f_celluloidlaw07_put : Nat := 22
def f_celluloidref07_PutRect : Nat := 23
def f_celluloidref07_PutMatrix : Nat := 24
def f_celluloidref07_PutCx : Nat := 25
def f_celluloidref07_PutRGBA : Nat := 26
def f_field_TakeRect : Nat := 27
def f_field_TakeMatrix : Nat := 28
def f_field_TakeCx : Nat := 29
def f_field_TakeRGBA : Nat := 30
def f_celluloidref07_TakeRect : Nat := 31
def f_celluloidlaw07_in : Nat := 32
def f_celluloidref07_TakeMatrix : Nat := 33
def f_celluloidref07_TakeCx : Nat := 34
def f_celluloidref07_TakeRGBA : Nat := 35
def f_bits_PutAlign : Nat := 36
def f___celluloid_field_writer__signed : Nat := 37
def f___celluloid_field_writer__done : Nat := 38
def f___celluloid_field_writer__flag : Nat := 39
def f_math_bits_Len : Nat := 40
def f_field_Same : Nat := 41
def f_field_Plain : Nat := 42
def f_bits_PutBytes : Nat := 43
def f_celluloidref07_in : Nat := 44
def f_field_within : Nat := 45
def f_celluloidref07_numbers : Nat := 46
def f_celluloidref07_flag : Nat := 47
def f_field_begin : Nat := 48
def f___celluloid_field_reader__plain : Nat := 49
def f___celluloid_field_reader__signed : Nat := 50
def f___celluloid_field_reader__done : Nat := 51
def f_bits_Bytes : Nat := 52
def f_celluloidref07_several : Nat := 53
def f_celluloidref07_Begin : Nat := 54
def f_celluloidref07_Done : Nat := 55
def f_celluloidref07_Plain : Nat := 56
def f_celluloidref02_Bytes : Nat := 57
def f___celluloid_field_writer__plain : Nat := 58
def f_bits_PutSigned : Nat := 59
def f_math_bits_Len32 : Nat := 60
def f_math_bits_Len64 : Nat := 61
def f_celluloidref07_width : Nat := 62
def f_celluloidref02_PutPlain : Nat := 63
def f_celluloidref02_PutSigned : Nat := 64
def f_bits_Plain : Nat := 65
def f_bits_Align : Nat := 66
def f_bits_Signed : Nat := 67
def f_bits_right : Nat := 68
def f_celluloidref07_Signed : Nat := 69
def f_celluloidref02_Right : Nat := 70
def f_celluloidref02_Align : Nat := 71
def f_celluloidref02_Plain : Nat := 72
def f_bits_PutPlain : Nat := 73
def f_celluloidref02_Width : Nat := 74
def f_celluloidref02_Power : Nat := 75
def f_celluloidref02_put : Nat := 76
def f_celluloidref02_Signed : Nat := 77
def f_celluloidref02_Bit : Nat := 78
def t_field_writer : Nat := 80
def t_field_reader : Nat := 124
/- celluloid/celluloidlaw07.FieldSizes -/
theorem u_celluloidlaw07_FieldSizes (k : Nat) (a1 : Int) (a2 : Int) (a3 : Int) (a4 : Int) (a5 : Int) (a6 : Int) : call (k + 1) f_celluloidlaw07_FieldSizes [.i a1, .i a2, .i a3, .i a4, .i a5, .i a6] [] =
  (call k f_field_PutRect [(PV.s []), (PV.i (0 : Int)), (PV.i a1), (PV.i a2), (PV.i a3), (PV.i a4)] []).bind fun r1 =>
  (call k f_field_PutMatrix [(PV.s []), (PV.i (0 : Int)), (PV.i (65536 : Int)), (PV.i (0 : Int)), (PV.i (0 : Int)), (PV.i (65536 : Int)), (PV.i a5), (PV.i a6)] []).bind fun r2 =>
  ((bif ((((r1).1.getD 2 PV.u)).toI == (0 : Int)) then (call k f_bits_Width [(PV.l (List.set (List.set (List.set (List.set [[(PV.i (0 : Int))], [(PV.i (0 : Int))], [(PV.i (0 : Int))], [(PV.i (0 : Int))]] 0 [(PV.i a1)]) 1 [(PV.i a2)]) 2 [(PV.i a3)]) 3 [(PV.i a4)]))] []).bind fun r3 =>
   some [(PV.b ((((List.length (((r1).1.getD 0 PV.u)).toS) : Nat) : Int) != (Go.IntKind.wrap .i64 (Int.tdiv (Go.IntKind.wrap .i64 ((Go.IntKind.wrap .i64 ((5 : Int) + (Go.IntKind.wrap .i64 ((4 : Int) * (((r3).1.getD 0 PV.u)).toI)))) + (7 : Int))) (8 : Int)))))]
   else some [(PV.b false)])).bind fun r4 =>
  (bif ((r4.getD 0 PV.u)).toB then some ([(PV.b false)], [])
  else ((bif ((((r2).1.getD 2 PV.u)).toI != (0 : Int)) then (call k f_celluloidlaw07_awake [] []).bind fun r7 =>
   some [(PV.b (((r7).1.getD 0 PV.u)).toB)]
   else (call k f_bits_Width [(PV.l (List.set (List.set [[(PV.i (0 : Int))], [(PV.i (0 : Int))]] 0 [(PV.i a5)]) 1 [(PV.i a6)]))] []).bind fun r5 =>
   (bif ((((List.length (((r2).1.getD 0 PV.u)).toS) : Nat) : Int) == (Go.IntKind.wrap .i64 (Int.tdiv (Go.IntKind.wrap .i64 ((Go.IntKind.wrap .i64 ((7 : Int) + (Go.IntKind.wrap .i64 ((2 : Int) * (((r5).1.getD 0 PV.u)).toI)))) + (7 : Int))) (8 : Int)))) then (call k f_celluloidlaw07_awake [] []).bind fun r6 =>
   some [(PV.b (((r6).1.getD 0 PV.u)).toB)]
   else some [(PV.b false)]))).bind fun r8 =>
  some ([(PV.b ((r8.getD 0 PV.u)).toB)], [])) := by kernel_rfl
/- celluloid/celluloidlaw07.FieldPuts -/
theorem u_celluloidlaw07_FieldPuts (k : Nat) (a1 : List UInt8) (a2 : Int) (a3 : Int) (a4 : Int) (a5 : Int) (a6 : Int) (a7 : Int) (a8 : Int) (a9 : Int) (a10 : Int) (a11 : Int) (a12 : Int) (a13 : Int) (a14 : Int) (a15 : Int) (a16 : Int) (a17 : Int) (a18 : Int) (a19 : Int) (a20 : Int) (a21 : Int) (a22 : Int) (a23 : Int) (a24 : Int) : call (k + 1) f_celluloidlaw07_FieldPuts [.s a1, .i a2, .i a3, .i a4, .i a5, .i a6, .i a7, .i a8, .i a9, .i a10, .i a11, .i a12, .i a13, .i a14, .i a15, .i a16, .i a17, .i a18, .i a19, .i a20, .i a21, .i a22, .i a23, .i a24] [] =
  (bif (decide ((((List.length a1) : Nat) : Int) > (1024 : Int))) then (call k f_celluloidlaw07_awake [] []).bind fun r1 =>
  some ([(PV.b (((r1).1.getD 0 PV.u)).toB)], [])
  else (call k f_field_PutRect [(PV.s a1), (PV.i a2), (PV.i a3), (PV.i a4), (PV.i a5), (PV.i a6)] []).bind fun r2 =>
  (call k f_field_PutMatrix [(PV.s a1), (PV.i a2), (PV.i a7), (PV.i a8), (PV.i a9), (PV.i a10), (PV.i a11), (PV.i a12)] []).bind fun r3 =>
  (call k f_field_PutCx [(PV.s a1), (PV.i a2), (PV.i a13), (PV.i a14), (PV.i a15), (PV.i a16), (PV.i a17), (PV.i a18), (PV.i a19), (PV.i a20)] []).bind fun r4 =>
  (call k f_field_PutRGBA [(PV.s a1), (PV.i a2), (PV.i a21), (PV.i a22), (PV.i a23), (PV.i a24)] []).bind fun r5 =>
  (call k f_celluloidref07_Rect [(PV.i a3), (PV.i a4), (PV.i a5), (PV.i a6)] []).bind fun r6 =>
  (call k f_celluloidref07_Matrix [(PV.i a7), (PV.i a8), (PV.i a9), (PV.i a10), (PV.i a11), (PV.i a12)] []).bind fun r7 =>
  (call k f_celluloidref07_Cx [(PV.i a13), (PV.i a14), (PV.i a15), (PV.i a16), (PV.i a17), (PV.i a18), (PV.i a19), (PV.i a20)] []).bind fun r8 =>
  (call k f_celluloidref07_RGBA [(PV.i a21), (PV.i a22), (PV.i a23), (PV.i a24)] []).bind fun r9 =>
  ((call k f_field_RightRect [(PV.i a3), (PV.i a4), (PV.i a5), (PV.i a6)] []).bind fun r10 =>
   (bif (!((((r10).1.getD 0 PV.u)).toB == (((r6).1.getD 0 PV.u)).toB)) then some [(PV.b true)]
   else (call k f_field_RightMatrix [(PV.i a7), (PV.i a8), (PV.i a9), (PV.i a10), (PV.i a11), (PV.i a12)] []).bind fun r11 =>
   (bif (!((((r11).1.getD 0 PV.u)).toB == (((r7).1.getD 0 PV.u)).toB)) then some [(PV.b true)]
   else (call k f_field_RightCx [(PV.i a13), (PV.i a14), (PV.i a15), (PV.i a16), (PV.i a17), (PV.i a18), (PV.i a19), (PV.i a20)] []).bind fun r12 =>
   (bif (!((((r12).1.getD 0 PV.u)).toB == (((r8).1.getD 0 PV.u)).toB)) then some [(PV.b true)]
   else (call k f_field_RightRGBA [(PV.i a21), (PV.i a22), (PV.i a23), (PV.i a24)] []).bind fun r13 =>
   some [(PV.b (!((((r13).1.getD 0 PV.u)).toB == (((r9).1.getD 0 PV.u)).toB)))])))).bind fun r14 =>
  (bif ((r14.getD 0 PV.u)).toB then some ([(PV.b false)], [])
  else ((bif (((r6).1.getD 0 PV.u)).toB then (call k f_celluloidref07_PutRect [(PV.s a1), (PV.i a3), (PV.i a4), (PV.i a5), (PV.i a6)] []).bind fun r29 =>
   (call k f_celluloidlaw07_put [(PV.s (((r2).1.getD 0 PV.u)).toS), (PV.i (((r2).1.getD 1 PV.u)).toI), (PV.i (((r2).1.getD 2 PV.u)).toI), (PV.b true), (PV.s (((r29).1.getD 0 PV.u)).toS)] []).bind fun r30 =>
   (bif (!(((r30).1.getD 0 PV.u)).toB) then some [(PV.b true)]
   else (bif (((r7).1.getD 0 PV.u)).toB then (call k f_celluloidref07_PutMatrix [(PV.s a1), (PV.i a7), (PV.i a8), (PV.i a9), (PV.i a10), (PV.i a11), (PV.i a12)] []).bind fun r37 =>
   (call k f_celluloidlaw07_put [(PV.s (((r3).1.getD 0 PV.u)).toS), (PV.i (((r3).1.getD 1 PV.u)).toI), (PV.i (((r3).1.getD 2 PV.u)).toI), (PV.b true), (PV.s (((r37).1.getD 0 PV.u)).toS)] []).bind fun r38 =>
   (bif (!(((r38).1.getD 0 PV.u)).toB) then some [(PV.b true)]
   else (bif (((r8).1.getD 0 PV.u)).toB then (call k f_celluloidref07_PutCx [(PV.s a1), (PV.i a13), (PV.i a14), (PV.i a15), (PV.i a16), (PV.i a17), (PV.i a18), (PV.i a19), (PV.i a20)] []).bind fun r41 =>
   (call k f_celluloidlaw07_put [(PV.s (((r4).1.getD 0 PV.u)).toS), (PV.i (((r4).1.getD 1 PV.u)).toI), (PV.i (((r4).1.getD 2 PV.u)).toI), (PV.b true), (PV.s (((r41).1.getD 0 PV.u)).toS)] []).bind fun r42 =>
   (bif (!(((r42).1.getD 0 PV.u)).toB) then some [(PV.b true)]
   else (bif (((r9).1.getD 0 PV.u)).toB then (call k f_celluloidref07_PutRGBA [(PV.s a1), (PV.i a21), (PV.i a22), (PV.i a23), (PV.i a24)] []).bind fun r43 =>
   (call k f_celluloidlaw07_put [(PV.s (((r5).1.getD 0 PV.u)).toS), (PV.i (((r5).1.getD 1 PV.u)).toI), (PV.i (((r5).1.getD 2 PV.u)).toI), (PV.b true), (PV.s (((r43).1.getD 0 PV.u)).toS)] []).bind fun r44 =>
   some [(PV.b (!(((r44).1.getD 0 PV.u)).toB))]
   else some [(PV.b false)]))
   else (bif (((r9).1.getD 0 PV.u)).toB then (call k f_celluloidref07_PutRGBA [(PV.s a1), (PV.i a21), (PV.i a22), (PV.i a23), (PV.i a24)] []).bind fun r39 =>
   (call k f_celluloidlaw07_put [(PV.s (((r5).1.getD 0 PV.u)).toS), (PV.i (((r5).1.getD 1 PV.u)).toI), (PV.i (((r5).1.getD 2 PV.u)).toI), (PV.b true), (PV.s (((r39).1.getD 0 PV.u)).toS)] []).bind fun r40 =>
   some [(PV.b (!(((r40).1.getD 0 PV.u)).toB))]
   else some [(PV.b false)])))
   else (bif (((r8).1.getD 0 PV.u)).toB then (call k f_celluloidref07_PutCx [(PV.s a1), (PV.i a13), (PV.i a14), (PV.i a15), (PV.i a16), (PV.i a17), (PV.i a18), (PV.i a19), (PV.i a20)] []).bind fun r33 =>
   (call k f_celluloidlaw07_put [(PV.s (((r4).1.getD 0 PV.u)).toS), (PV.i (((r4).1.getD 1 PV.u)).toI), (PV.i (((r4).1.getD 2 PV.u)).toI), (PV.b true), (PV.s (((r33).1.getD 0 PV.u)).toS)] []).bind fun r34 =>
   (bif (!(((r34).1.getD 0 PV.u)).toB) then some [(PV.b true)]
   else (bif (((r9).1.getD 0 PV.u)).toB then (call k f_celluloidref07_PutRGBA [(PV.s a1), (PV.i a21), (PV.i a22), (PV.i a23), (PV.i a24)] []).bind fun r35 =>
   (call k f_celluloidlaw07_put [(PV.s (((r5).1.getD 0 PV.u)).toS), (PV.i (((r5).1.getD 1 PV.u)).toI), (PV.i (((r5).1.getD 2 PV.u)).toI), (PV.b true), (PV.s (((r35).1.getD 0 PV.u)).toS)] []).bind fun r36 =>
   some [(PV.b (!(((r36).1.getD 0 PV.u)).toB))]
   else some [(PV.b false)]))
   else (bif (((r9).1.getD 0 PV.u)).toB then (call k f_celluloidref07_PutRGBA [(PV.s a1), (PV.i a21), (PV.i a22), (PV.i a23), (PV.i a24)] []).bind fun r31 =>
   (call k f_celluloidlaw07_put [(PV.s (((r5).1.getD 0 PV.u)).toS), (PV.i (((r5).1.getD 1 PV.u)).toI), (PV.i (((r5).1.getD 2 PV.u)).toI), (PV.b true), (PV.s (((r31).1.getD 0 PV.u)).toS)] []).bind fun r32 =>
   some [(PV.b (!(((r32).1.getD 0 PV.u)).toB))]
   else some [(PV.b false)]))))
   else (bif (((r7).1.getD 0 PV.u)).toB then (call k f_celluloidref07_PutMatrix [(PV.s a1), (PV.i a7), (PV.i a8), (PV.i a9), (PV.i a10), (PV.i a11), (PV.i a12)] []).bind fun r21 =>
   (call k f_celluloidlaw07_put [(PV.s (((r3).1.getD 0 PV.u)).toS), (PV.i (((r3).1.getD 1 PV.u)).toI), (PV.i (((r3).1.getD 2 PV.u)).toI), (PV.b true), (PV.s (((r21).1.getD 0 PV.u)).toS)] []).bind fun r22 =>
   (bif (!(((r22).1.getD 0 PV.u)).toB) then some [(PV.b true)]
   else (bif (((r8).1.getD 0 PV.u)).toB then (call k f_celluloidref07_PutCx [(PV.s a1), (PV.i a13), (PV.i a14), (PV.i a15), (PV.i a16), (PV.i a17), (PV.i a18), (PV.i a19), (PV.i a20)] []).bind fun r25 =>
   (call k f_celluloidlaw07_put [(PV.s (((r4).1.getD 0 PV.u)).toS), (PV.i (((r4).1.getD 1 PV.u)).toI), (PV.i (((r4).1.getD 2 PV.u)).toI), (PV.b true), (PV.s (((r25).1.getD 0 PV.u)).toS)] []).bind fun r26 =>
   (bif (!(((r26).1.getD 0 PV.u)).toB) then some [(PV.b true)]
   else (bif (((r9).1.getD 0 PV.u)).toB then (call k f_celluloidref07_PutRGBA [(PV.s a1), (PV.i a21), (PV.i a22), (PV.i a23), (PV.i a24)] []).bind fun r27 =>
   (call k f_celluloidlaw07_put [(PV.s (((r5).1.getD 0 PV.u)).toS), (PV.i (((r5).1.getD 1 PV.u)).toI), (PV.i (((r5).1.getD 2 PV.u)).toI), (PV.b true), (PV.s (((r27).1.getD 0 PV.u)).toS)] []).bind fun r28 =>
   some [(PV.b (!(((r28).1.getD 0 PV.u)).toB))]
   else some [(PV.b false)]))
   else (bif (((r9).1.getD 0 PV.u)).toB then (call k f_celluloidref07_PutRGBA [(PV.s a1), (PV.i a21), (PV.i a22), (PV.i a23), (PV.i a24)] []).bind fun r23 =>
   (call k f_celluloidlaw07_put [(PV.s (((r5).1.getD 0 PV.u)).toS), (PV.i (((r5).1.getD 1 PV.u)).toI), (PV.i (((r5).1.getD 2 PV.u)).toI), (PV.b true), (PV.s (((r23).1.getD 0 PV.u)).toS)] []).bind fun r24 =>
   some [(PV.b (!(((r24).1.getD 0 PV.u)).toB))]
   else some [(PV.b false)])))
   else (bif (((r8).1.getD 0 PV.u)).toB then (call k f_celluloidref07_PutCx [(PV.s a1), (PV.i a13), (PV.i a14), (PV.i a15), (PV.i a16), (PV.i a17), (PV.i a18), (PV.i a19), (PV.i a20)] []).bind fun r17 =>
   (call k f_celluloidlaw07_put [(PV.s (((r4).1.getD 0 PV.u)).toS), (PV.i (((r4).1.getD 1 PV.u)).toI), (PV.i (((r4).1.getD 2 PV.u)).toI), (PV.b true), (PV.s (((r17).1.getD 0 PV.u)).toS)] []).bind fun r18 =>
   (bif (!(((r18).1.getD 0 PV.u)).toB) then some [(PV.b true)]
   else (bif (((r9).1.getD 0 PV.u)).toB then (call k f_celluloidref07_PutRGBA [(PV.s a1), (PV.i a21), (PV.i a22), (PV.i a23), (PV.i a24)] []).bind fun r19 =>
   (call k f_celluloidlaw07_put [(PV.s (((r5).1.getD 0 PV.u)).toS), (PV.i (((r5).1.getD 1 PV.u)).toI), (PV.i (((r5).1.getD 2 PV.u)).toI), (PV.b true), (PV.s (((r19).1.getD 0 PV.u)).toS)] []).bind fun r20 =>
   some [(PV.b (!(((r20).1.getD 0 PV.u)).toB))]
   else some [(PV.b false)]))
   else (bif (((r9).1.getD 0 PV.u)).toB then (call k f_celluloidref07_PutRGBA [(PV.s a1), (PV.i a21), (PV.i a22), (PV.i a23), (PV.i a24)] []).bind fun r15 =>
   (call k f_celluloidlaw07_put [(PV.s (((r5).1.getD 0 PV.u)).toS), (PV.i (((r5).1.getD 1 PV.u)).toI), (PV.i (((r5).1.getD 2 PV.u)).toI), (PV.b true), (PV.s (((r15).1.getD 0 PV.u)).toS)] []).bind fun r16 =>
   some [(PV.b (!(((r16).1.getD 0 PV.u)).toB))]
   else some [(PV.b false)]))))).bind fun r45 =>
  (bif ((r45.getD 0 PV.u)).toB then some ([(PV.b false)], [])
  else ((bif (((r6).1.getD 0 PV.u)).toB then (bif (((r7).1.getD 0 PV.u)).toB then (bif (((r8).1.getD 0 PV.u)).toB then (bif (((r9).1.getD 0 PV.u)).toB then (call k f_celluloidlaw07_awake [] []).bind fun r76 =>
   some [(PV.b (((r76).1.getD 0 PV.u)).toB)]
   else (call k f_celluloidlaw07_put [(PV.s (((r5).1.getD 0 PV.u)).toS), (PV.i (((r5).1.getD 1 PV.u)).toI), (PV.i (((r5).1.getD 2 PV.u)).toI), (PV.b false), (PV.s [])] []).bind fun r74 =>
   (bif (((r74).1.getD 0 PV.u)).toB then (call k f_celluloidlaw07_awake [] []).bind fun r75 =>
   some [(PV.b (((r75).1.getD 0 PV.u)).toB)]
   else some [(PV.b false)]))
   else (call k f_celluloidlaw07_put [(PV.s (((r4).1.getD 0 PV.u)).toS), (PV.i (((r4).1.getD 1 PV.u)).toI), (PV.i (((r4).1.getD 2 PV.u)).toI), (PV.b false), (PV.s [])] []).bind fun r70 =>
   (bif (((r70).1.getD 0 PV.u)).toB then (bif (((r9).1.getD 0 PV.u)).toB then (call k f_celluloidlaw07_awake [] []).bind fun r73 =>
   some [(PV.b (((r73).1.getD 0 PV.u)).toB)]
   else (call k f_celluloidlaw07_put [(PV.s (((r5).1.getD 0 PV.u)).toS), (PV.i (((r5).1.getD 1 PV.u)).toI), (PV.i (((r5).1.getD 2 PV.u)).toI), (PV.b false), (PV.s [])] []).bind fun r71 =>
   (bif (((r71).1.getD 0 PV.u)).toB then (call k f_celluloidlaw07_awake [] []).bind fun r72 =>
   some [(PV.b (((r72).1.getD 0 PV.u)).toB)]
   else some [(PV.b false)]))
   else some [(PV.b false)]))
   else (call k f_celluloidlaw07_put [(PV.s (((r3).1.getD 0 PV.u)).toS), (PV.i (((r3).1.getD 1 PV.u)).toI), (PV.i (((r3).1.getD 2 PV.u)).toI), (PV.b false), (PV.s [])] []).bind fun r62 =>
   (bif (((r62).1.getD 0 PV.u)).toB then (bif (((r8).1.getD 0 PV.u)).toB then (bif (((r9).1.getD 0 PV.u)).toB then (call k f_celluloidlaw07_awake [] []).bind fun r69 =>
   some [(PV.b (((r69).1.getD 0 PV.u)).toB)]
   else (call k f_celluloidlaw07_put [(PV.s (((r5).1.getD 0 PV.u)).toS), (PV.i (((r5).1.getD 1 PV.u)).toI), (PV.i (((r5).1.getD 2 PV.u)).toI), (PV.b false), (PV.s [])] []).bind fun r67 =>
   (bif (((r67).1.getD 0 PV.u)).toB then (call k f_celluloidlaw07_awake [] []).bind fun r68 =>
   some [(PV.b (((r68).1.getD 0 PV.u)).toB)]
   else some [(PV.b false)]))
   else (call k f_celluloidlaw07_put [(PV.s (((r4).1.getD 0 PV.u)).toS), (PV.i (((r4).1.getD 1 PV.u)).toI), (PV.i (((r4).1.getD 2 PV.u)).toI), (PV.b false), (PV.s [])] []).bind fun r63 =>
   (bif (((r63).1.getD 0 PV.u)).toB then (bif (((r9).1.getD 0 PV.u)).toB then (call k f_celluloidlaw07_awake [] []).bind fun r66 =>
   some [(PV.b (((r66).1.getD 0 PV.u)).toB)]
   else (call k f_celluloidlaw07_put [(PV.s (((r5).1.getD 0 PV.u)).toS), (PV.i (((r5).1.getD 1 PV.u)).toI), (PV.i (((r5).1.getD 2 PV.u)).toI), (PV.b false), (PV.s [])] []).bind fun r64 =>
   (bif (((r64).1.getD 0 PV.u)).toB then (call k f_celluloidlaw07_awake [] []).bind fun r65 =>
   some [(PV.b (((r65).1.getD 0 PV.u)).toB)]
   else some [(PV.b false)]))
   else some [(PV.b false)]))
   else some [(PV.b false)]))
   else (call k f_celluloidlaw07_put [(PV.s (((r2).1.getD 0 PV.u)).toS), (PV.i (((r2).1.getD 1 PV.u)).toI), (PV.i (((r2).1.getD 2 PV.u)).toI), (PV.b false), (PV.s [])] []).bind fun r46 =>
   (bif (((r46).1.getD 0 PV.u)).toB then (bif (((r7).1.getD 0 PV.u)).toB then (bif (((r8).1.getD 0 PV.u)).toB then (bif (((r9).1.getD 0 PV.u)).toB then (call k f_celluloidlaw07_awake [] []).bind fun r61 =>
   some [(PV.b (((r61).1.getD 0 PV.u)).toB)]
   else (call k f_celluloidlaw07_put [(PV.s (((r5).1.getD 0 PV.u)).toS), (PV.i (((r5).1.getD 1 PV.u)).toI), (PV.i (((r5).1.getD 2 PV.u)).toI), (PV.b false), (PV.s [])] []).bind fun r59 =>
   (bif (((r59).1.getD 0 PV.u)).toB then (call k f_celluloidlaw07_awake [] []).bind fun r60 =>
   some [(PV.b (((r60).1.getD 0 PV.u)).toB)]
   else some [(PV.b false)]))
   else (call k f_celluloidlaw07_put [(PV.s (((r4).1.getD 0 PV.u)).toS), (PV.i (((r4).1.getD 1 PV.u)).toI), (PV.i (((r4).1.getD 2 PV.u)).toI), (PV.b false), (PV.s [])] []).bind fun r55 =>
   (bif (((r55).1.getD 0 PV.u)).toB then (bif (((r9).1.getD 0 PV.u)).toB then (call k f_celluloidlaw07_awake [] []).bind fun r58 =>
   some [(PV.b (((r58).1.getD 0 PV.u)).toB)]
   else (call k f_celluloidlaw07_put [(PV.s (((r5).1.getD 0 PV.u)).toS), (PV.i (((r5).1.getD 1 PV.u)).toI), (PV.i (((r5).1.getD 2 PV.u)).toI), (PV.b false), (PV.s [])] []).bind fun r56 =>
   (bif (((r56).1.getD 0 PV.u)).toB then (call k f_celluloidlaw07_awake [] []).bind fun r57 =>
   some [(PV.b (((r57).1.getD 0 PV.u)).toB)]
   else some [(PV.b false)]))
   else some [(PV.b false)]))
   else (call k f_celluloidlaw07_put [(PV.s (((r3).1.getD 0 PV.u)).toS), (PV.i (((r3).1.getD 1 PV.u)).toI), (PV.i (((r3).1.getD 2 PV.u)).toI), (PV.b false), (PV.s [])] []).bind fun r47 =>
   (bif (((r47).1.getD 0 PV.u)).toB then (bif (((r8).1.getD 0 PV.u)).toB then (bif (((r9).1.getD 0 PV.u)).toB then (call k f_celluloidlaw07_awake [] []).bind fun r54 =>
   some [(PV.b (((r54).1.getD 0 PV.u)).toB)]
   else (call k f_celluloidlaw07_put [(PV.s (((r5).1.getD 0 PV.u)).toS), (PV.i (((r5).1.getD 1 PV.u)).toI), (PV.i (((r5).1.getD 2 PV.u)).toI), (PV.b false), (PV.s [])] []).bind fun r52 =>
   (bif (((r52).1.getD 0 PV.u)).toB then (call k f_celluloidlaw07_awake [] []).bind fun r53 =>
   some [(PV.b (((r53).1.getD 0 PV.u)).toB)]
   else some [(PV.b false)]))
   else (call k f_celluloidlaw07_put [(PV.s (((r4).1.getD 0 PV.u)).toS), (PV.i (((r4).1.getD 1 PV.u)).toI), (PV.i (((r4).1.getD 2 PV.u)).toI), (PV.b false), (PV.s [])] []).bind fun r48 =>
   (bif (((r48).1.getD 0 PV.u)).toB then (bif (((r9).1.getD 0 PV.u)).toB then (call k f_celluloidlaw07_awake [] []).bind fun r51 =>
   some [(PV.b (((r51).1.getD 0 PV.u)).toB)]
   else (call k f_celluloidlaw07_put [(PV.s (((r5).1.getD 0 PV.u)).toS), (PV.i (((r5).1.getD 1 PV.u)).toI), (PV.i (((r5).1.getD 2 PV.u)).toI), (PV.b false), (PV.s [])] []).bind fun r49 =>
   (bif (((r49).1.getD 0 PV.u)).toB then (call k f_celluloidlaw07_awake [] []).bind fun r50 =>
   some [(PV.b (((r50).1.getD 0 PV.u)).toB)]
   else some [(PV.b false)]))
   else some [(PV.b false)]))
   else some [(PV.b false)]))
   else some [(PV.b false)]))).bind fun r77 =>
  some ([(PV.b ((r77.getD 0 PV.u)).toB)], [])))) := by kernel_rfl
/- celluloid/celluloidlaw07.FieldTakes -/
theorem u_celluloidlaw07_FieldTakes (k : Nat) (a1 : List UInt8) (a2 : Int) : call (k + 1) f_celluloidlaw07_FieldTakes [.s a1, .i a2] [] =
  (bif (decide ((((List.length a1) : Nat) : Int) > (1024 : Int))) then (call k f_celluloidlaw07_awake [] []).bind fun r1 =>
  some ([(PV.b (((r1).1.getD 0 PV.u)).toB)], [])
  else (call k f_field_TakeRect [(PV.s a1), (PV.i a2)] []).bind fun r2 =>
  (call k f_field_TakeMatrix [(PV.s a1), (PV.i a2)] []).bind fun r3 =>
  (call k f_field_TakeCx [(PV.s a1), (PV.i a2)] []).bind fun r4 =>
  (call k f_field_TakeRGBA [(PV.s a1), (PV.i a2)] []).bind fun r5 =>
  (call k f_celluloidlaw07_in [(PV.s a1), (PV.i a2)] []).bind fun r6 =>
  (call k f_celluloidref07_TakeRect [(PV.s (((r6).1.getD 0 PV.u)).toS), (PV.i (((r6).1.getD 1 PV.u)).toI)] []).bind fun r7 =>
  (call k f_celluloidlaw07_in [(PV.s a1), (PV.i a2)] []).bind fun r8 =>
  (call k f_celluloidref07_TakeMatrix [(PV.s (((r8).1.getD 0 PV.u)).toS), (PV.i (((r8).1.getD 1 PV.u)).toI)] []).bind fun r9 =>
  (call k f_celluloidlaw07_in [(PV.s a1), (PV.i a2)] []).bind fun r10 =>
  (call k f_celluloidref07_TakeCx [(PV.s (((r10).1.getD 0 PV.u)).toS), (PV.i (((r10).1.getD 1 PV.u)).toI)] []).bind fun r11 =>
  (call k f_celluloidlaw07_in [(PV.s a1), (PV.i a2)] []).bind fun r12 =>
  (call k f_celluloidref07_TakeRGBA [(PV.s (((r12).1.getD 0 PV.u)).toS), (PV.i (((r12).1.getD 1 PV.u)).toI)] []).bind fun r13 =>
  ((bif (!(((((r2).1.getD 0 PV.u)).toI == (((r7).1.getD 0 PV.u)).toI) && (((((r2).1.getD 1 PV.u)).toI == (((r7).1.getD 1 PV.u)).toI) && (((((r2).1.getD 2 PV.u)).toI == (((r7).1.getD 2 PV.u)).toI) && ((((r2).1.getD 3 PV.u)).toI == (((r7).1.getD 3 PV.u)).toI))))) then some [(PV.b true)]
   else (call k f_celluloidlaw07_in [(PV.s (((r2).1.getD 4 PV.u)).toS), (PV.i (((r2).1.getD 5 PV.u)).toI)] []).bind fun r14 =>
   (bif (!(((((r14).1.getD 0 PV.u)).toS == (((r7).1.getD 4 PV.u)).toS) && ((((r14).1.getD 1 PV.u)).toI == (((r7).1.getD 5 PV.u)).toI))) then some [(PV.b true)]
   else (bif ((((r2).1.getD 6 PV.u)).toI != (((r7).1.getD 6 PV.u)).toI) then some [(PV.b true)]
   else (bif (!(((((r3).1.getD 0 PV.u)).toI == (((r9).1.getD 0 PV.u)).toI) && (((((r3).1.getD 1 PV.u)).toI == (((r9).1.getD 1 PV.u)).toI) && (((((r3).1.getD 2 PV.u)).toI == (((r9).1.getD 2 PV.u)).toI) && (((((r3).1.getD 3 PV.u)).toI == (((r9).1.getD 3 PV.u)).toI) && (((((r3).1.getD 4 PV.u)).toI == (((r9).1.getD 4 PV.u)).toI) && ((((r3).1.getD 5 PV.u)).toI == (((r9).1.getD 5 PV.u)).toI))))))) then some [(PV.b true)]
   else (call k f_celluloidlaw07_in [(PV.s (((r3).1.getD 6 PV.u)).toS), (PV.i (((r3).1.getD 7 PV.u)).toI)] []).bind fun r15 =>
   (bif (!(((((r15).1.getD 0 PV.u)).toS == (((r9).1.getD 6 PV.u)).toS) && ((((r15).1.getD 1 PV.u)).toI == (((r9).1.getD 7 PV.u)).toI))) then some [(PV.b true)]
   else some [(PV.b ((((r3).1.getD 8 PV.u)).toI != (((r9).1.getD 8 PV.u)).toI))])))))).bind fun r16 =>
  (bif ((r16.getD 0 PV.u)).toB then some ([(PV.b false)], [])
  else ((bif (((((r4).1.getD 0 PV.u)).toI == (((r11).1.getD 0 PV.u)).toI) && (((((r4).1.getD 1 PV.u)).toI == (((r11).1.getD 1 PV.u)).toI) && (((((r4).1.getD 2 PV.u)).toI == (((r11).1.getD 2 PV.u)).toI) && (((((r4).1.getD 3 PV.u)).toI == (((r11).1.getD 3 PV.u)).toI) && (((((r4).1.getD 4 PV.u)).toI == (((r11).1.getD 4 PV.u)).toI) && (((((r4).1.getD 5 PV.u)).toI == (((r11).1.getD 5 PV.u)).toI) && (((((r4).1.getD 6 PV.u)).toI == (((r11).1.getD 6 PV.u)).toI) && ((((r4).1.getD 7 PV.u)).toI == (((r11).1.getD 7 PV.u)).toI)))))))) then (call k f_celluloidlaw07_in [(PV.s (((r4).1.getD 8 PV.u)).toS), (PV.i (((r4).1.getD 9 PV.u)).toI)] []).bind fun r17 =>
   (bif (((((r17).1.getD 0 PV.u)).toS == (((r11).1.getD 8 PV.u)).toS) && ((((r17).1.getD 1 PV.u)).toI == (((r11).1.getD 9 PV.u)).toI)) then (bif ((((r4).1.getD 10 PV.u)).toI == (((r11).1.getD 10 PV.u)).toI) then (bif (((((r5).1.getD 0 PV.u)).toI == (((r13).1.getD 0 PV.u)).toI) && (((((r5).1.getD 1 PV.u)).toI == (((r13).1.getD 1 PV.u)).toI) && (((((r5).1.getD 2 PV.u)).toI == (((r13).1.getD 2 PV.u)).toI) && ((((r5).1.getD 3 PV.u)).toI == (((r13).1.getD 3 PV.u)).toI)))) then (call k f_celluloidlaw07_in [(PV.s (((r5).1.getD 4 PV.u)).toS), (PV.i (((r5).1.getD 5 PV.u)).toI)] []).bind fun r18 =>
   (bif (((((r18).1.getD 0 PV.u)).toS == (((r13).1.getD 4 PV.u)).toS) && ((((r18).1.getD 1 PV.u)).toI == (((r13).1.getD 5 PV.u)).toI)) then (bif ((((r5).1.getD 6 PV.u)).toI == (((r13).1.getD 6 PV.u)).toI) then (call k f_celluloidlaw07_awake [] []).bind fun r19 =>
   some [(PV.b (((r19).1.getD 0 PV.u)).toB)]
   else some [(PV.b false)])
   else some [(PV.b false)])
   else some [(PV.b false)])
   else some [(PV.b false)])
   else some [(PV.b false)])
   else some [(PV.b false)])).bind fun r20 =>
  some ([(PV.b ((r20.getD 0 PV.u)).toB)], []))) := by kernel_rfl
/- celluloid/celluloidlaw07.FieldAgain -/
theorem u_celluloidlaw07_FieldAgain (k : Nat) (a1 : List UInt8) : call (k + 1) f_celluloidlaw07_FieldAgain [.s a1] [] =
  (bif (decide ((((List.length a1) : Nat) : Int) > (1024 : Int))) then (call k f_celluloidlaw07_awake [] []).bind fun r1 =>
  some ([(PV.b (((r1).1.getD 0 PV.u)).toB)], [])
  else (call k f_field_TakeRect [(PV.s a1), (PV.i (0 : Int))] []).bind fun r2 =>
  (call k f_field_TakeMatrix [(PV.s a1), (PV.i (0 : Int))] []).bind fun r3 =>
  (call k f_field_TakeCx [(PV.s a1), (PV.i (0 : Int))] []).bind fun r4 =>
  (bif ((((r2).1.getD 6 PV.u)).toI == (0 : Int)) then (call k f_field_PutRect [(PV.s []), (PV.i (0 : Int)), (PV.i (((r2).1.getD 0 PV.u)).toI), (PV.i (((r2).1.getD 1 PV.u)).toI), (PV.i (((r2).1.getD 2 PV.u)).toI), (PV.i (((r2).1.getD 3 PV.u)).toI)] []).bind fun r5 =>
  (call k f_field_TakeRect [(PV.s (((r5).1.getD 0 PV.u)).toS), (PV.i (0 : Int))] []).bind fun r6 =>
  ((bif ((((r5).1.getD 2 PV.u)).toI != (0 : Int)) then some [(PV.b true)]
   else (bif ((((r6).1.getD 6 PV.u)).toI != (0 : Int)) then some [(PV.b true)]
   else (bif (!(((((r6).1.getD 0 PV.u)).toI == (((r2).1.getD 0 PV.u)).toI) && (((((r6).1.getD 1 PV.u)).toI == (((r2).1.getD 1 PV.u)).toI) && (((((r6).1.getD 2 PV.u)).toI == (((r2).1.getD 2 PV.u)).toI) && ((((r6).1.getD 3 PV.u)).toI == (((r2).1.getD 3 PV.u)).toI))))) then some [(PV.b true)]
   else some [(PV.b (decide ((Go.IntKind.wrap .i64 ((8 : Int) * (((List.length (((r5).1.getD 0 PV.u)).toS) : Nat) : Int))) > (((r2).1.getD 5 PV.u)).toI)))])))).bind fun r7 =>
  (bif ((r7.getD 0 PV.u)).toB then some ([(PV.b false)], [])
  else (bif ((((r3).1.getD 8 PV.u)).toI == (0 : Int)) then (call k f_field_PutMatrix [(PV.s []), (PV.i (0 : Int)), (PV.i (((r3).1.getD 0 PV.u)).toI), (PV.i (((r3).1.getD 1 PV.u)).toI), (PV.i (((r3).1.getD 2 PV.u)).toI), (PV.i (((r3).1.getD 3 PV.u)).toI), (PV.i (((r3).1.getD 4 PV.u)).toI), (PV.i (((r3).1.getD 5 PV.u)).toI)] []).bind fun r8 =>
  (call k f_field_TakeMatrix [(PV.s (((r8).1.getD 0 PV.u)).toS), (PV.i (0 : Int))] []).bind fun r9 =>
  ((bif ((((r8).1.getD 2 PV.u)).toI != (0 : Int)) then some [(PV.b true)]
   else (bif ((((r9).1.getD 8 PV.u)).toI != (0 : Int)) then some [(PV.b true)]
   else (bif (!(((((r9).1.getD 0 PV.u)).toI == (((r3).1.getD 0 PV.u)).toI) && (((((r9).1.getD 1 PV.u)).toI == (((r3).1.getD 1 PV.u)).toI) && (((((r9).1.getD 2 PV.u)).toI == (((r3).1.getD 2 PV.u)).toI) && (((((r9).1.getD 3 PV.u)).toI == (((r3).1.getD 3 PV.u)).toI) && (((((r9).1.getD 4 PV.u)).toI == (((r3).1.getD 4 PV.u)).toI) && ((((r9).1.getD 5 PV.u)).toI == (((r3).1.getD 5 PV.u)).toI))))))) then some [(PV.b true)]
   else some [(PV.b (decide ((Go.IntKind.wrap .i64 ((8 : Int) * (((List.length (((r8).1.getD 0 PV.u)).toS) : Nat) : Int))) > (((r3).1.getD 7 PV.u)).toI)))])))).bind fun r10 =>
  (bif ((r10.getD 0 PV.u)).toB then some ([(PV.b false)], [])
  else (bif ((((r4).1.getD 10 PV.u)).toI == (0 : Int)) then (call k f_field_PutCx [(PV.s []), (PV.i (0 : Int)), (PV.i (((r4).1.getD 0 PV.u)).toI), (PV.i (((r4).1.getD 1 PV.u)).toI), (PV.i (((r4).1.getD 2 PV.u)).toI), (PV.i (((r4).1.getD 3 PV.u)).toI), (PV.i (((r4).1.getD 4 PV.u)).toI), (PV.i (((r4).1.getD 5 PV.u)).toI), (PV.i (((r4).1.getD 6 PV.u)).toI), (PV.i (((r4).1.getD 7 PV.u)).toI)] []).bind fun r11 =>
  (call k f_field_TakeCx [(PV.s (((r11).1.getD 0 PV.u)).toS), (PV.i (0 : Int))] []).bind fun r12 =>
  ((bif ((((r11).1.getD 2 PV.u)).toI != (0 : Int)) then some [(PV.b true)]
   else (bif ((((r12).1.getD 10 PV.u)).toI != (0 : Int)) then some [(PV.b true)]
   else (bif (!(((((r12).1.getD 0 PV.u)).toI == (((r4).1.getD 0 PV.u)).toI) && (((((r12).1.getD 1 PV.u)).toI == (((r4).1.getD 1 PV.u)).toI) && (((((r12).1.getD 2 PV.u)).toI == (((r4).1.getD 2 PV.u)).toI) && (((((r12).1.getD 3 PV.u)).toI == (((r4).1.getD 3 PV.u)).toI) && (((((r12).1.getD 4 PV.u)).toI == (((r4).1.getD 4 PV.u)).toI) && (((((r12).1.getD 5 PV.u)).toI == (((r4).1.getD 5 PV.u)).toI) && (((((r12).1.getD 6 PV.u)).toI == (((r4).1.getD 6 PV.u)).toI) && ((((r12).1.getD 7 PV.u)).toI == (((r4).1.getD 7 PV.u)).toI))))))))) then some [(PV.b true)]
   else some [(PV.b (decide ((Go.IntKind.wrap .i64 ((8 : Int) * (((List.length (((r11).1.getD 0 PV.u)).toS) : Nat) : Int))) > (((r4).1.getD 9 PV.u)).toI)))])))).bind fun r13 =>
  (bif ((r13.getD 0 PV.u)).toB then some ([(PV.b false)], [])
  else (call k f_celluloidlaw07_awake [] []).bind fun r14 =>
  some ([(PV.b (((r14).1.getD 0 PV.u)).toB)], []))
  else (call k f_celluloidlaw07_awake [] []).bind fun r15 =>
  some ([(PV.b (((r15).1.getD 0 PV.u)).toB)], [])))
  else (bif ((((r4).1.getD 10 PV.u)).toI == (0 : Int)) then (call k f_field_PutCx [(PV.s []), (PV.i (0 : Int)), (PV.i (((r4).1.getD 0 PV.u)).toI), (PV.i (((r4).1.getD 1 PV.u)).toI), (PV.i (((r4).1.getD 2 PV.u)).toI), (PV.i (((r4).1.getD 3 PV.u)).toI), (PV.i (((r4).1.getD 4 PV.u)).toI), (PV.i (((r4).1.getD 5 PV.u)).toI), (PV.i (((r4).1.getD 6 PV.u)).toI), (PV.i (((r4).1.getD 7 PV.u)).toI)] []).bind fun r16 =>
  (call k f_field_TakeCx [(PV.s (((r16).1.getD 0 PV.u)).toS), (PV.i (0 : Int))] []).bind fun r17 =>
  ((bif ((((r16).1.getD 2 PV.u)).toI != (0 : Int)) then some [(PV.b true)]
   else (bif ((((r17).1.getD 10 PV.u)).toI != (0 : Int)) then some [(PV.b true)]
   else (bif (!(((((r17).1.getD 0 PV.u)).toI == (((r4).1.getD 0 PV.u)).toI) && (((((r17).1.getD 1 PV.u)).toI == (((r4).1.getD 1 PV.u)).toI) && (((((r17).1.getD 2 PV.u)).toI == (((r4).1.getD 2 PV.u)).toI) && (((((r17).1.getD 3 PV.u)).toI == (((r4).1.getD 3 PV.u)).toI) && (((((r17).1.getD 4 PV.u)).toI == (((r4).1.getD 4 PV.u)).toI) && (((((r17).1.getD 5 PV.u)).toI == (((r4).1.getD 5 PV.u)).toI) && (((((r17).1.getD 6 PV.u)).toI == (((r4).1.getD 6 PV.u)).toI) && ((((r17).1.getD 7 PV.u)).toI == (((r4).1.getD 7 PV.u)).toI))))))))) then some [(PV.b true)]
   else some [(PV.b (decide ((Go.IntKind.wrap .i64 ((8 : Int) * (((List.length (((r16).1.getD 0 PV.u)).toS) : Nat) : Int))) > (((r4).1.getD 9 PV.u)).toI)))])))).bind fun r18 =>
  (bif ((r18.getD 0 PV.u)).toB then some ([(PV.b false)], [])
  else (call k f_celluloidlaw07_awake [] []).bind fun r19 =>
  some ([(PV.b (((r19).1.getD 0 PV.u)).toB)], []))
  else (call k f_celluloidlaw07_awake [] []).bind fun r20 =>
  some ([(PV.b (((r20).1.getD 0 PV.u)).toB)], []))))
  else (bif ((((r3).1.getD 8 PV.u)).toI == (0 : Int)) then (call k f_field_PutMatrix [(PV.s []), (PV.i (0 : Int)), (PV.i (((r3).1.getD 0 PV.u)).toI), (PV.i (((r3).1.getD 1 PV.u)).toI), (PV.i (((r3).1.getD 2 PV.u)).toI), (PV.i (((r3).1.getD 3 PV.u)).toI), (PV.i (((r3).1.getD 4 PV.u)).toI), (PV.i (((r3).1.getD 5 PV.u)).toI)] []).bind fun r21 =>
  (call k f_field_TakeMatrix [(PV.s (((r21).1.getD 0 PV.u)).toS), (PV.i (0 : Int))] []).bind fun r22 =>
  ((bif ((((r21).1.getD 2 PV.u)).toI != (0 : Int)) then some [(PV.b true)]
   else (bif ((((r22).1.getD 8 PV.u)).toI != (0 : Int)) then some [(PV.b true)]
   else (bif (!(((((r22).1.getD 0 PV.u)).toI == (((r3).1.getD 0 PV.u)).toI) && (((((r22).1.getD 1 PV.u)).toI == (((r3).1.getD 1 PV.u)).toI) && (((((r22).1.getD 2 PV.u)).toI == (((r3).1.getD 2 PV.u)).toI) && (((((r22).1.getD 3 PV.u)).toI == (((r3).1.getD 3 PV.u)).toI) && (((((r22).1.getD 4 PV.u)).toI == (((r3).1.getD 4 PV.u)).toI) && ((((r22).1.getD 5 PV.u)).toI == (((r3).1.getD 5 PV.u)).toI))))))) then some [(PV.b true)]
   else some [(PV.b (decide ((Go.IntKind.wrap .i64 ((8 : Int) * (((List.length (((r21).1.getD 0 PV.u)).toS) : Nat) : Int))) > (((r3).1.getD 7 PV.u)).toI)))])))).bind fun r23 =>
  (bif ((r23.getD 0 PV.u)).toB then some ([(PV.b false)], [])
  else (bif ((((r4).1.getD 10 PV.u)).toI == (0 : Int)) then (call k f_field_PutCx [(PV.s []), (PV.i (0 : Int)), (PV.i (((r4).1.getD 0 PV.u)).toI), (PV.i (((r4).1.getD 1 PV.u)).toI), (PV.i (((r4).1.getD 2 PV.u)).toI), (PV.i (((r4).1.getD 3 PV.u)).toI), (PV.i (((r4).1.getD 4 PV.u)).toI), (PV.i (((r4).1.getD 5 PV.u)).toI), (PV.i (((r4).1.getD 6 PV.u)).toI), (PV.i (((r4).1.getD 7 PV.u)).toI)] []).bind fun r24 =>
  (call k f_field_TakeCx [(PV.s (((r24).1.getD 0 PV.u)).toS), (PV.i (0 : Int))] []).bind fun r25 =>
  ((bif ((((r24).1.getD 2 PV.u)).toI != (0 : Int)) then some [(PV.b true)]
   else (bif ((((r25).1.getD 10 PV.u)).toI != (0 : Int)) then some [(PV.b true)]
   else (bif (!(((((r25).1.getD 0 PV.u)).toI == (((r4).1.getD 0 PV.u)).toI) && (((((r25).1.getD 1 PV.u)).toI == (((r4).1.getD 1 PV.u)).toI) && (((((r25).1.getD 2 PV.u)).toI == (((r4).1.getD 2 PV.u)).toI) && (((((r25).1.getD 3 PV.u)).toI == (((r4).1.getD 3 PV.u)).toI) && (((((r25).1.getD 4 PV.u)).toI == (((r4).1.getD 4 PV.u)).toI) && (((((r25).1.getD 5 PV.u)).toI == (((r4).1.getD 5 PV.u)).toI) && (((((r25).1.getD 6 PV.u)).toI == (((r4).1.getD 6 PV.u)).toI) && ((((r25).1.getD 7 PV.u)).toI == (((r4).1.getD 7 PV.u)).toI))))))))) then some [(PV.b true)]
   else some [(PV.b (decide ((Go.IntKind.wrap .i64 ((8 : Int) * (((List.length (((r24).1.getD 0 PV.u)).toS) : Nat) : Int))) > (((r4).1.getD 9 PV.u)).toI)))])))).bind fun r26 =>
  (bif ((r26.getD 0 PV.u)).toB then some ([(PV.b false)], [])
  else (call k f_celluloidlaw07_awake [] []).bind fun r27 =>
  some ([(PV.b (((r27).1.getD 0 PV.u)).toB)], []))
  else (call k f_celluloidlaw07_awake [] []).bind fun r28 =>
  some ([(PV.b (((r28).1.getD 0 PV.u)).toB)], [])))
  else (bif ((((r4).1.getD 10 PV.u)).toI == (0 : Int)) then (call k f_field_PutCx [(PV.s []), (PV.i (0 : Int)), (PV.i (((r4).1.getD 0 PV.u)).toI), (PV.i (((r4).1.getD 1 PV.u)).toI), (PV.i (((r4).1.getD 2 PV.u)).toI), (PV.i (((r4).1.getD 3 PV.u)).toI), (PV.i (((r4).1.getD 4 PV.u)).toI), (PV.i (((r4).1.getD 5 PV.u)).toI), (PV.i (((r4).1.getD 6 PV.u)).toI), (PV.i (((r4).1.getD 7 PV.u)).toI)] []).bind fun r29 =>
  (call k f_field_TakeCx [(PV.s (((r29).1.getD 0 PV.u)).toS), (PV.i (0 : Int))] []).bind fun r30 =>
  ((bif ((((r29).1.getD 2 PV.u)).toI != (0 : Int)) then some [(PV.b true)]
   else (bif ((((r30).1.getD 10 PV.u)).toI != (0 : Int)) then some [(PV.b true)]
   else (bif (!(((((r30).1.getD 0 PV.u)).toI == (((r4).1.getD 0 PV.u)).toI) && (((((r30).1.getD 1 PV.u)).toI == (((r4).1.getD 1 PV.u)).toI) && (((((r30).1.getD 2 PV.u)).toI == (((r4).1.getD 2 PV.u)).toI) && (((((r30).1.getD 3 PV.u)).toI == (((r4).1.getD 3 PV.u)).toI) && (((((r30).1.getD 4 PV.u)).toI == (((r4).1.getD 4 PV.u)).toI) && (((((r30).1.getD 5 PV.u)).toI == (((r4).1.getD 5 PV.u)).toI) && (((((r30).1.getD 6 PV.u)).toI == (((r4).1.getD 6 PV.u)).toI) && ((((r30).1.getD 7 PV.u)).toI == (((r4).1.getD 7 PV.u)).toI))))))))) then some [(PV.b true)]
   else some [(PV.b (decide ((Go.IntKind.wrap .i64 ((8 : Int) * (((List.length (((r29).1.getD 0 PV.u)).toS) : Nat) : Int))) > (((r4).1.getD 9 PV.u)).toI)))])))).bind fun r31 =>
  (bif ((r31.getD 0 PV.u)).toB then some ([(PV.b false)], [])
  else (call k f_celluloidlaw07_awake [] []).bind fun r32 =>
  some ([(PV.b (((r32).1.getD 0 PV.u)).toB)], []))
  else (call k f_celluloidlaw07_awake [] []).bind fun r33 =>
  some ([(PV.b (((r33).1.getD 0 PV.u)).toB)], []))))) := by kernel_rfl
/- celluloid/celluloidlaw07.FieldBack -/
theorem u_celluloidlaw07_FieldBack (k : Nat) (a1 : Int) (a2 : Int) (a3 : Int) (a4 : Int) (a5 : Int) (a6 : Int) (a7 : Int) (a8 : Int) (a9 : Int) (a10 : Int) (a11 : Int) (a12 : Int) (a13 : Int) (a14 : Int) (a15 : Int) (a16 : Int) (a17 : Int) (a18 : Int) (a19 : Int) (a20 : Int) (a21 : Int) (a22 : Int) : call (k + 1) f_celluloidlaw07_FieldBack [.i a1, .i a2, .i a3, .i a4, .i a5, .i a6, .i a7, .i a8, .i a9, .i a10, .i a11, .i a12, .i a13, .i a14, .i a15, .i a16, .i a17, .i a18, .i a19, .i a20, .i a21, .i a22] [] =
  (call k f_field_PutRect [(PV.s []), (PV.i (0 : Int)), (PV.i a1), (PV.i a2), (PV.i a3), (PV.i a4)] []).bind fun r1 =>
  (call k f_field_PutMatrix [(PV.s (((r1).1.getD 0 PV.u)).toS), (PV.i (((r1).1.getD 1 PV.u)).toI), (PV.i a5), (PV.i a6), (PV.i a7), (PV.i a8), (PV.i a9), (PV.i a10)] []).bind fun r2 =>
  (call k f_field_PutCx [(PV.s (((r2).1.getD 0 PV.u)).toS), (PV.i (((r2).1.getD 1 PV.u)).toI), (PV.i a11), (PV.i a12), (PV.i a13), (PV.i a14), (PV.i a15), (PV.i a16), (PV.i a17), (PV.i a18)] []).bind fun r3 =>
  (call k f_field_PutRGBA [(PV.s (((r3).1.getD 0 PV.u)).toS), (PV.i (((r3).1.getD 1 PV.u)).toI), (PV.i a19), (PV.i a20), (PV.i a21), (PV.i a22)] []).bind fun r4 =>
  ((bif ((((r1).1.getD 2 PV.u)).toI != (0 : Int)) then some [(PV.b true)]
   else (bif ((((r2).1.getD 2 PV.u)).toI != (0 : Int)) then some [(PV.b true)]
   else (bif ((((r3).1.getD 2 PV.u)).toI != (0 : Int)) then some [(PV.b true)]
   else some [(PV.b ((((r4).1.getD 2 PV.u)).toI != (0 : Int)))])))).bind fun r5 =>
  (bif ((r5.getD 0 PV.u)).toB then (call k f_celluloidlaw07_awake [] []).bind fun r6 =>
  some ([(PV.b (((r6).1.getD 0 PV.u)).toB)], [])
  else (call k f_field_TakeRect [(PV.s (((r4).1.getD 0 PV.u)).toS), (PV.i (0 : Int))] []).bind fun r7 =>
  (call k f_field_TakeMatrix [(PV.s (((r7).1.getD 4 PV.u)).toS), (PV.i (((r7).1.getD 5 PV.u)).toI)] []).bind fun r8 =>
  (call k f_field_TakeCx [(PV.s (((r8).1.getD 6 PV.u)).toS), (PV.i (((r8).1.getD 7 PV.u)).toI)] []).bind fun r9 =>
  (call k f_field_TakeRGBA [(PV.s (((r9).1.getD 8 PV.u)).toS), (PV.i (((r9).1.getD 9 PV.u)).toI)] []).bind fun r10 =>
  ((bif (((((r7).1.getD 0 PV.u)).toI == a1) && (((((r7).1.getD 1 PV.u)).toI == a2) && (((((r7).1.getD 2 PV.u)).toI == a3) && ((((r7).1.getD 3 PV.u)).toI == a4)))) then (bif ((((r7).1.getD 6 PV.u)).toI == (0 : Int)) then (bif (((((r8).1.getD 0 PV.u)).toI == a5) && (((((r8).1.getD 1 PV.u)).toI == a6) && (((((r8).1.getD 2 PV.u)).toI == a7) && (((((r8).1.getD 3 PV.u)).toI == a8) && (((((r8).1.getD 4 PV.u)).toI == a9) && ((((r8).1.getD 5 PV.u)).toI == a10)))))) then (bif ((((r8).1.getD 8 PV.u)).toI == (0 : Int)) then (bif (((((r9).1.getD 0 PV.u)).toI == a11) && (((((r9).1.getD 1 PV.u)).toI == a12) && (((((r9).1.getD 2 PV.u)).toI == a13) && (((((r9).1.getD 3 PV.u)).toI == a14) && (((((r9).1.getD 4 PV.u)).toI == a15) && (((((r9).1.getD 5 PV.u)).toI == a16) && (((((r9).1.getD 6 PV.u)).toI == a17) && ((((r9).1.getD 7 PV.u)).toI == a18)))))))) then (bif ((((r9).1.getD 10 PV.u)).toI == (0 : Int)) then (bif (((((r10).1.getD 0 PV.u)).toI == a19) && (((((r10).1.getD 1 PV.u)).toI == a20) && (((((r10).1.getD 2 PV.u)).toI == a21) && ((((r10).1.getD 3 PV.u)).toI == a22)))) then (bif ((((r10).1.getD 6 PV.u)).toI == (0 : Int)) then (bif ((((r10).1.getD 5 PV.u)).toI == (Go.IntKind.wrap .i64 ((8 : Int) * (((List.length (((r4).1.getD 0 PV.u)).toS) : Nat) : Int)))) then (call k f_celluloidlaw07_awake [] []).bind fun r11 =>
   some [(PV.b (((r11).1.getD 0 PV.u)).toB)]
   else some [(PV.b false)])
   else some [(PV.b false)])
   else some [(PV.b false)])
   else some [(PV.b false)])
   else some [(PV.b false)])
   else some [(PV.b false)])
   else some [(PV.b false)])
   else some [(PV.b false)])
   else some [(PV.b false)])).bind fun r12 =>
  some ([(PV.b ((r12.getD 0 PV.u)).toB)], [])) := by kernel_rfl
/- celluloid/field.PutRect -/
theorem u_field_PutRect (k : Nat) (a1 : List UInt8) (a2 : Int) (a3 : Int) (a4 : Int) (a5 : Int) (a6 : Int) : call (k + 1) f_field_PutRect [.s a1, .i a2, .i a3, .i a4, .i a5, .i a6] [] =
  (call k f_field_RightRect [(PV.i a3), (PV.i a4), (PV.i a5), (PV.i a6)] []).bind fun r1 =>
  (bif (!(((r1).1.getD 0 PV.u)).toB) then some ([(PV.s []), (PV.i (0 : Int)), (PV.i (1 : Int))], [])
  else (call k f_bits_PutAlign [(PV.s a1), (PV.i a2)] []).bind fun r2 =>
  (call k f___celluloid_field_writer__signed [PV.u, (PV.i (5 : Int)), (PV.l (List.set (List.set (List.set (List.set [[(PV.i (0 : Int))], [(PV.i (0 : Int))], [(PV.i (0 : Int))], [(PV.i (0 : Int))]] 0 [(PV.i a3)]) 1 [(PV.i a4)]) 2 [(PV.i a5)]) 3 [(PV.i a6)]))] [(t_field_writer, [(PV.s (((r2).1.getD 0 PV.u)).toS), (PV.i (((r2).1.getD 1 PV.u)).toI)])]).bind fun r3 =>
  (call k f___celluloid_field_writer__done [PV.u] [(t_field_writer, [(PV.s (((((r3).2.getD 0 (0, []))).2.getD 0 PV.u)).toS), (PV.i (((((r3).2.getD 0 (0, []))).2.getD 1 PV.u)).toI)])]).bind fun r4 =>
  some ([(PV.s (((r4).1.getD 0 PV.u)).toS), (PV.i (((r4).1.getD 1 PV.u)).toI), (PV.i (0 : Int))], [])) := by kernel_rfl
/- celluloid/field.PutMatrix -/
theorem u_field_PutMatrix (k : Nat) (a1 : List UInt8) (a2 : Int) (a3 : Int) (a4 : Int) (a5 : Int) (a6 : Int) (a7 : Int) (a8 : Int) : call (k + 1) f_field_PutMatrix [.s a1, .i a2, .i a3, .i a4, .i a5, .i a6, .i a7, .i a8] [] =
  (call k f_field_RightMatrix [(PV.i a3), (PV.i a4), (PV.i a5), (PV.i a6), (PV.i a7), (PV.i a8)] []).bind fun r1 =>
  (bif (!(((r1).1.getD 0 PV.u)).toB) then some ([(PV.s []), (PV.i (0 : Int)), (PV.i (1 : Int))], [])
  else (call k f_bits_PutAlign [(PV.s a1), (PV.i a2)] []).bind fun r2 =>
  ((bif (a3 != (65536 : Int)) then (bif (a4 != (0 : Int)) then some [(PV.b true), (PV.b true)]
   else some [(PV.b true), (PV.b (a5 != (0 : Int)))])
   else (bif (a4 != (0 : Int)) then some [(PV.b (a6 != (65536 : Int))), (PV.b true)]
   else some [(PV.b (a6 != (65536 : Int))), (PV.b (a5 != (0 : Int)))]))).bind fun r3 =>
  (call k f___celluloid_field_writer__flag [PV.u, (PV.b ((r3.getD 0 PV.u)).toB)] [(t_field_writer, [(PV.s (((r2).1.getD 0 PV.u)).toS), (PV.i (((r2).1.getD 1 PV.u)).toI)])]).bind fun r4 =>
  (bif ((r3.getD 0 PV.u)).toB then (call k f___celluloid_field_writer__signed [PV.u, (PV.i (5 : Int)), (PV.l (List.set (List.set [[(PV.i (0 : Int))], [(PV.i (0 : Int))]] 0 [(PV.i a3)]) 1 [(PV.i a6)]))] [(t_field_writer, [(PV.s (((((r4).2.getD 0 (0, []))).2.getD 0 PV.u)).toS), (PV.i (((((r4).2.getD 0 (0, []))).2.getD 1 PV.u)).toI)])]).bind fun r5 =>
  (call k f___celluloid_field_writer__flag [PV.u, (PV.b ((r3.getD 1 PV.u)).toB)] [(t_field_writer, [(PV.s (((((r5).2.getD 0 (0, []))).2.getD 0 PV.u)).toS), (PV.i (((((r5).2.getD 0 (0, []))).2.getD 1 PV.u)).toI)])]).bind fun r6 =>
  (bif ((r3.getD 1 PV.u)).toB then (call k f___celluloid_field_writer__signed [PV.u, (PV.i (5 : Int)), (PV.l (List.set (List.set [[(PV.i (0 : Int))], [(PV.i (0 : Int))]] 0 [(PV.i a4)]) 1 [(PV.i a5)]))] [(t_field_writer, [(PV.s (((((r6).2.getD 0 (0, []))).2.getD 0 PV.u)).toS), (PV.i (((((r6).2.getD 0 (0, []))).2.getD 1 PV.u)).toI)])]).bind fun r7 =>
  (call k f___celluloid_field_writer__signed [PV.u, (PV.i (5 : Int)), (PV.l (List.set (List.set [[(PV.i (0 : Int))], [(PV.i (0 : Int))]] 0 [(PV.i a7)]) 1 [(PV.i a8)]))] [(t_field_writer, [(PV.s (((((r7).2.getD 0 (0, []))).2.getD 0 PV.u)).toS), (PV.i (((((r7).2.getD 0 (0, []))).2.getD 1 PV.u)).toI)])]).bind fun r8 =>
  (call k f___celluloid_field_writer__done [PV.u] [(t_field_writer, [(PV.s (((((r8).2.getD 0 (0, []))).2.getD 0 PV.u)).toS), (PV.i (((((r8).2.getD 0 (0, []))).2.getD 1 PV.u)).toI)])]).bind fun r9 =>
  some ([(PV.s (((r9).1.getD 0 PV.u)).toS), (PV.i (((r9).1.getD 1 PV.u)).toI), (PV.i (0 : Int))], [])
  else (call k f___celluloid_field_writer__signed [PV.u, (PV.i (5 : Int)), (PV.l (List.set (List.set [[(PV.i (0 : Int))], [(PV.i (0 : Int))]] 0 [(PV.i a7)]) 1 [(PV.i a8)]))] [(t_field_writer, [(PV.s (((((r6).2.getD 0 (0, []))).2.getD 0 PV.u)).toS), (PV.i (((((r6).2.getD 0 (0, []))).2.getD 1 PV.u)).toI)])]).bind fun r10 =>
  (call k f___celluloid_field_writer__done [PV.u] [(t_field_writer, [(PV.s (((((r10).2.getD 0 (0, []))).2.getD 0 PV.u)).toS), (PV.i (((((r10).2.getD 0 (0, []))).2.getD 1 PV.u)).toI)])]).bind fun r11 =>
  some ([(PV.s (((r11).1.getD 0 PV.u)).toS), (PV.i (((r11).1.getD 1 PV.u)).toI), (PV.i (0 : Int))], []))
  else (call k f___celluloid_field_writer__flag [PV.u, (PV.b ((r3.getD 1 PV.u)).toB)] [(t_field_writer, [(PV.s (((((r4).2.getD 0 (0, []))).2.getD 0 PV.u)).toS), (PV.i (((((r4).2.getD 0 (0, []))).2.getD 1 PV.u)).toI)])]).bind fun r12 =>
  (bif ((r3.getD 1 PV.u)).toB then (call k f___celluloid_field_writer__signed [PV.u, (PV.i (5 : Int)), (PV.l (List.set (List.set [[(PV.i (0 : Int))], [(PV.i (0 : Int))]] 0 [(PV.i a4)]) 1 [(PV.i a5)]))] [(t_field_writer, [(PV.s (((((r12).2.getD 0 (0, []))).2.getD 0 PV.u)).toS), (PV.i (((((r12).2.getD 0 (0, []))).2.getD 1 PV.u)).toI)])]).bind fun r13 =>
  (call k f___celluloid_field_writer__signed [PV.u, (PV.i (5 : Int)), (PV.l (List.set (List.set [[(PV.i (0 : Int))], [(PV.i (0 : Int))]] 0 [(PV.i a7)]) 1 [(PV.i a8)]))] [(t_field_writer, [(PV.s (((((r13).2.getD 0 (0, []))).2.getD 0 PV.u)).toS), (PV.i (((((r13).2.getD 0 (0, []))).2.getD 1 PV.u)).toI)])]).bind fun r14 =>
  (call k f___celluloid_field_writer__done [PV.u] [(t_field_writer, [(PV.s (((((r14).2.getD 0 (0, []))).2.getD 0 PV.u)).toS), (PV.i (((((r14).2.getD 0 (0, []))).2.getD 1 PV.u)).toI)])]).bind fun r15 =>
  some ([(PV.s (((r15).1.getD 0 PV.u)).toS), (PV.i (((r15).1.getD 1 PV.u)).toI), (PV.i (0 : Int))], [])
  else (call k f___celluloid_field_writer__signed [PV.u, (PV.i (5 : Int)), (PV.l (List.set (List.set [[(PV.i (0 : Int))], [(PV.i (0 : Int))]] 0 [(PV.i a7)]) 1 [(PV.i a8)]))] [(t_field_writer, [(PV.s (((((r12).2.getD 0 (0, []))).2.getD 0 PV.u)).toS), (PV.i (((((r12).2.getD 0 (0, []))).2.getD 1 PV.u)).toI)])]).bind fun r16 =>
  (call k f___celluloid_field_writer__done [PV.u] [(t_field_writer, [(PV.s (((((r16).2.getD 0 (0, []))).2.getD 0 PV.u)).toS), (PV.i (((((r16).2.getD 0 (0, []))).2.getD 1 PV.u)).toI)])]).bind fun r17 =>
  some ([(PV.s (((r17).1.getD 0 PV.u)).toS), (PV.i (((r17).1.getD 1 PV.u)).toI), (PV.i (0 : Int))], [])))) := by kernel_rfl
/- celluloid/bits.Width -/
noncomputable def S_bits_Width_L0 (x1 : Int) (x2 : List (List PV)) (x3 : Int) (x4 : Int) : St := mkSt [(3, .v (.int .i64 x1)), (6, .v (.sl 3 x2)), (7, .v (.int .i64 x3)), (8, .v (.int .i64 x4))] [] 1000 26
noncomputable def at_bits_Width_L0 : List Item := (atLoop Try.f10 0)
theorem u_bits_Width (k : Nat) (a1 : List (List PV)) : call (k + 1) f_bits_Width [.l a1] [] =
  run k f_bits_Width [] at_bits_Width_L0 (S_bits_Width_L0 ((0 : Int)) (a1) ((((List.length a1) : Nat) : Int)) ((0 : Int))) := by kernel_rfl
theorem u_bits_Width_L0 (k : Nat) (x1 : Int) (x2 : List (List PV)) (x3 : Int) (x4 : Int) : run (k + 1) f_bits_Width [] at_bits_Width_L0 (S_bits_Width_L0 x1 x2 x3 x4) =
  (bif (decide (x4 < x3)) then (bif (Go.AI.inB x4 (List.length x2)) then (bif (decide ((((Go.AI.elemAt x2 x4).getD 0 PV.u)).toI < (0 : Int))) then (call k f_math_bits_Len [(PV.i (Go.IntKind.wrap .u64 (Go.AI.bitsOp Go.BinOp.xor .i64 (-1 : Int) (((Go.AI.elemAt x2 x4).getD 0 PV.u)).toI)))] []).bind fun r1 =>
  run k f_bits_Width [] at_bits_Width_L0 (S_bits_Width_L0 ((bif (decide ((Go.IntKind.wrap .i64 ((((r1).1.getD 0 PV.u)).toI + (1 : Int))) > x1)) then (Go.IntKind.wrap .i64 ((((r1).1.getD 0 PV.u)).toI + (1 : Int))) else x1)) (x2) (x3) ((Go.IntKind.wrap .i64 (x4 + (1 : Int)))))
  else (bif ((((Go.AI.elemAt x2 x4).getD 0 PV.u)).toI == (0 : Int)) then run k f_bits_Width [] at_bits_Width_L0 (S_bits_Width_L0 (x1) (x2) (x3) ((Go.IntKind.wrap .i64 (x4 + (1 : Int)))))
  else (call k f_math_bits_Len [(PV.i (Go.IntKind.wrap .u64 (((Go.AI.elemAt x2 x4).getD 0 PV.u)).toI))] []).bind fun r2 =>
  run k f_bits_Width [] at_bits_Width_L0 (S_bits_Width_L0 ((bif (decide ((Go.IntKind.wrap .i64 ((((r2).1.getD 0 PV.u)).toI + (1 : Int))) > x1)) then (Go.IntKind.wrap .i64 ((((r2).1.getD 0 PV.u)).toI + (1 : Int))) else x1)) (x2) (x3) ((Go.IntKind.wrap .i64 (x4 + (1 : Int)))))))
  else none)
  else some ([(PV.i x1)], [])) := by kernel_rfl
/- celluloid/celluloidlaw07.awake -/
theorem u_celluloidlaw07_awake (k : Nat)  : call (k + 1) f_celluloidlaw07_awake [] [] =
  (call k f_field_PutRect [(PV.s []), (PV.i (0 : Int)), (PV.i (0 : Int)), (PV.i (1 : Int)), (PV.i (0 : Int)), (PV.i (1 : Int))] []).bind fun r1 =>
  (call k f_field_Same [] []).bind fun r2 =>
  (call k f_field_PutMatrix [(PV.s []), (PV.i (0 : Int)), (PV.i (((r2).1.getD 0 PV.u)).toI), (PV.i (((r2).1.getD 1 PV.u)).toI), (PV.i (((r2).1.getD 2 PV.u)).toI), (PV.i (((r2).1.getD 3 PV.u)).toI), (PV.i (((r2).1.getD 4 PV.u)).toI), (PV.i (((r2).1.getD 5 PV.u)).toI)] []).bind fun r3 =>
  (call k f_field_TakeMatrix [(PV.s [0]), (PV.i (0 : Int))] []).bind fun r4 =>
  ((bif ((((r1).1.getD 0 PV.u)).toS == [16, 136]) then (bif ((((r1).1.getD 2 PV.u)).toI == (0 : Int)) then (bif ((((r3).1.getD 0 PV.u)).toS == [0]) then (bif ((((r3).1.getD 2 PV.u)).toI == (0 : Int)) then (call k f_field_Same [] []).bind fun r5 =>
   (bif (((((r4).1.getD 0 PV.u)).toI == (((r5).1.getD 0 PV.u)).toI) && (((((r4).1.getD 1 PV.u)).toI == (((r5).1.getD 1 PV.u)).toI) && (((((r4).1.getD 2 PV.u)).toI == (((r5).1.getD 2 PV.u)).toI) && (((((r4).1.getD 3 PV.u)).toI == (((r5).1.getD 3 PV.u)).toI) && (((((r4).1.getD 4 PV.u)).toI == (((r5).1.getD 4 PV.u)).toI) && ((((r4).1.getD 5 PV.u)).toI == (((r5).1.getD 5 PV.u)).toI)))))) then (bif ((((r4).1.getD 0 PV.u)).toI == (65536 : Int)) then (bif ((((r4).1.getD 8 PV.u)).toI == (0 : Int)) then (call k f_field_Plain [] []).bind fun r6 =>
   some [(PV.b ((((r6).1.getD 3 PV.u)).toI == (256 : Int)))]
   else some [(PV.b false)])
   else some [(PV.b false)])
   else some [(PV.b false)])
   else some [(PV.b false)])
   else some [(PV.b false)])
   else some [(PV.b false)])
   else some [(PV.b false)])).bind fun r7 =>
  some ([(PV.b ((r7.getD 0 PV.u)).toB)], []) := by kernel_rfl
/- celluloid/field.PutCx -/
theorem u_field_PutCx (k : Nat) (a1 : List UInt8) (a2 : Int) (a3 : Int) (a4 : Int) (a5 : Int) (a6 : Int) (a7 : Int) (a8 : Int) (a9 : Int) (a10 : Int) : call (k + 1) f_field_PutCx [.s a1, .i a2, .i a3, .i a4, .i a5, .i a6, .i a7, .i a8, .i a9, .i a10] [] =
  (call k f_field_RightCx [(PV.i a3), (PV.i a4), (PV.i a5), (PV.i a6), (PV.i a7), (PV.i a8), (PV.i a9), (PV.i a10)] []).bind fun r1 =>
  (bif (!(((r1).1.getD 0 PV.u)).toB) then some ([(PV.s []), (PV.i (0 : Int)), (PV.i (1 : Int))], [])
  else (call k f_bits_PutAlign [(PV.s a1), (PV.i a2)] []).bind fun r2 =>
  (call k f_field_Plain [] []).bind fun r3 =>
  (call k f_field_Plain [] []).bind fun r4 =>
  (bif (!((a3 == (((r4).1.getD 0 PV.u)).toI) && ((a4 == (((r4).1.getD 1 PV.u)).toI) && ((a5 == (((r4).1.getD 2 PV.u)).toI) && (a6 == (((r4).1.getD 3 PV.u)).toI))))) then (bif (!((a7 == (((r3).1.getD 4 PV.u)).toI) && ((a8 == (((r3).1.getD 5 PV.u)).toI) && ((a9 == (((r3).1.getD 6 PV.u)).toI) && (a10 == (((r3).1.getD 7 PV.u)).toI))))) then (call k f___celluloid_field_writer__flag [PV.u, (PV.b (!((a7 == (((r3).1.getD 4 PV.u)).toI) && ((a8 == (((r3).1.getD 5 PV.u)).toI) && ((a9 == (((r3).1.getD 6 PV.u)).toI) && (a10 == (((r3).1.getD 7 PV.u)).toI))))))] [(t_field_writer, [(PV.s (((r2).1.getD 0 PV.u)).toS), (PV.i (((r2).1.getD 1 PV.u)).toI)])]).bind fun r5 =>
  (call k f___celluloid_field_writer__flag [PV.u, (PV.b (!((a3 == (((r4).1.getD 0 PV.u)).toI) && ((a4 == (((r4).1.getD 1 PV.u)).toI) && ((a5 == (((r4).1.getD 2 PV.u)).toI) && (a6 == (((r4).1.getD 3 PV.u)).toI))))))] [(t_field_writer, [(PV.s (((((r5).2.getD 0 (0, []))).2.getD 0 PV.u)).toS), (PV.i (((((r5).2.getD 0 (0, []))).2.getD 1 PV.u)).toI)])]).bind fun r6 =>
  (call k f___celluloid_field_writer__signed [PV.u, (PV.i (4 : Int)), (PV.l [[(PV.i a3)], [(PV.i a4)], [(PV.i a5)], [(PV.i a6)], [(PV.i a7)], [(PV.i a8)], [(PV.i a9)], [(PV.i a10)]])] [(t_field_writer, [(PV.s (((((r6).2.getD 0 (0, []))).2.getD 0 PV.u)).toS), (PV.i (((((r6).2.getD 0 (0, []))).2.getD 1 PV.u)).toI)])]).bind fun r7 =>
  (call k f___celluloid_field_writer__done [PV.u] [(t_field_writer, [(PV.s (((((r7).2.getD 0 (0, []))).2.getD 0 PV.u)).toS), (PV.i (((((r7).2.getD 0 (0, []))).2.getD 1 PV.u)).toI)])]).bind fun r8 =>
  some ([(PV.s (((r8).1.getD 0 PV.u)).toS), (PV.i (((r8).1.getD 1 PV.u)).toI), (PV.i (0 : Int))], [])
  else (call k f___celluloid_field_writer__flag [PV.u, (PV.b (!((a7 == (((r3).1.getD 4 PV.u)).toI) && ((a8 == (((r3).1.getD 5 PV.u)).toI) && ((a9 == (((r3).1.getD 6 PV.u)).toI) && (a10 == (((r3).1.getD 7 PV.u)).toI))))))] [(t_field_writer, [(PV.s (((r2).1.getD 0 PV.u)).toS), (PV.i (((r2).1.getD 1 PV.u)).toI)])]).bind fun r9 =>
  (call k f___celluloid_field_writer__flag [PV.u, (PV.b (!((a3 == (((r4).1.getD 0 PV.u)).toI) && ((a4 == (((r4).1.getD 1 PV.u)).toI) && ((a5 == (((r4).1.getD 2 PV.u)).toI) && (a6 == (((r4).1.getD 3 PV.u)).toI))))))] [(t_field_writer, [(PV.s (((((r9).2.getD 0 (0, []))).2.getD 0 PV.u)).toS), (PV.i (((((r9).2.getD 0 (0, []))).2.getD 1 PV.u)).toI)])]).bind fun r10 =>
  (call k f___celluloid_field_writer__signed [PV.u, (PV.i (4 : Int)), (PV.l [[(PV.i a3)], [(PV.i a4)], [(PV.i a5)], [(PV.i a6)]])] [(t_field_writer, [(PV.s (((((r10).2.getD 0 (0, []))).2.getD 0 PV.u)).toS), (PV.i (((((r10).2.getD 0 (0, []))).2.getD 1 PV.u)).toI)])]).bind fun r11 =>
  (call k f___celluloid_field_writer__done [PV.u] [(t_field_writer, [(PV.s (((((r11).2.getD 0 (0, []))).2.getD 0 PV.u)).toS), (PV.i (((((r11).2.getD 0 (0, []))).2.getD 1 PV.u)).toI)])]).bind fun r12 =>
  some ([(PV.s (((r12).1.getD 0 PV.u)).toS), (PV.i (((r12).1.getD 1 PV.u)).toI), (PV.i (0 : Int))], []))
  else (bif (!((a7 == (((r3).1.getD 4 PV.u)).toI) && ((a8 == (((r3).1.getD 5 PV.u)).toI) && ((a9 == (((r3).1.getD 6 PV.u)).toI) && (a10 == (((r3).1.getD 7 PV.u)).toI))))) then (call k f___celluloid_field_writer__flag [PV.u, (PV.b (!((a7 == (((r3).1.getD 4 PV.u)).toI) && ((a8 == (((r3).1.getD 5 PV.u)).toI) && ((a9 == (((r3).1.getD 6 PV.u)).toI) && (a10 == (((r3).1.getD 7 PV.u)).toI))))))] [(t_field_writer, [(PV.s (((r2).1.getD 0 PV.u)).toS), (PV.i (((r2).1.getD 1 PV.u)).toI)])]).bind fun r13 =>
  (call k f___celluloid_field_writer__flag [PV.u, (PV.b (!((a3 == (((r4).1.getD 0 PV.u)).toI) && ((a4 == (((r4).1.getD 1 PV.u)).toI) && ((a5 == (((r4).1.getD 2 PV.u)).toI) && (a6 == (((r4).1.getD 3 PV.u)).toI))))))] [(t_field_writer, [(PV.s (((((r13).2.getD 0 (0, []))).2.getD 0 PV.u)).toS), (PV.i (((((r13).2.getD 0 (0, []))).2.getD 1 PV.u)).toI)])]).bind fun r14 =>
  (call k f___celluloid_field_writer__signed [PV.u, (PV.i (4 : Int)), (PV.l [[(PV.i a7)], [(PV.i a8)], [(PV.i a9)], [(PV.i a10)]])] [(t_field_writer, [(PV.s (((((r14).2.getD 0 (0, []))).2.getD 0 PV.u)).toS), (PV.i (((((r14).2.getD 0 (0, []))).2.getD 1 PV.u)).toI)])]).bind fun r15 =>
  (call k f___celluloid_field_writer__done [PV.u] [(t_field_writer, [(PV.s (((((r15).2.getD 0 (0, []))).2.getD 0 PV.u)).toS), (PV.i (((((r15).2.getD 0 (0, []))).2.getD 1 PV.u)).toI)])]).bind fun r16 =>
  some ([(PV.s (((r16).1.getD 0 PV.u)).toS), (PV.i (((r16).1.getD 1 PV.u)).toI), (PV.i (0 : Int))], [])
  else (call k f___celluloid_field_writer__flag [PV.u, (PV.b (!((a7 == (((r3).1.getD 4 PV.u)).toI) && ((a8 == (((r3).1.getD 5 PV.u)).toI) && ((a9 == (((r3).1.getD 6 PV.u)).toI) && (a10 == (((r3).1.getD 7 PV.u)).toI))))))] [(t_field_writer, [(PV.s (((r2).1.getD 0 PV.u)).toS), (PV.i (((r2).1.getD 1 PV.u)).toI)])]).bind fun r17 =>
  (call k f___celluloid_field_writer__flag [PV.u, (PV.b (!((a3 == (((r4).1.getD 0 PV.u)).toI) && ((a4 == (((r4).1.getD 1 PV.u)).toI) && ((a5 == (((r4).1.getD 2 PV.u)).toI) && (a6 == (((r4).1.getD 3 PV.u)).toI))))))] [(t_field_writer, [(PV.s (((((r17).2.getD 0 (0, []))).2.getD 0 PV.u)).toS), (PV.i (((((r17).2.getD 0 (0, []))).2.getD 1 PV.u)).toI)])]).bind fun r18 =>
  (call k f___celluloid_field_writer__signed [PV.u, (PV.i (4 : Int)), (PV.l [])] [(t_field_writer, [(PV.s (((((r18).2.getD 0 (0, []))).2.getD 0 PV.u)).toS), (PV.i (((((r18).2.getD 0 (0, []))).2.getD 1 PV.u)).toI)])]).bind fun r19 =>
  (call k f___celluloid_field_writer__done [PV.u] [(t_field_writer, [(PV.s (((((r19).2.getD 0 (0, []))).2.getD 0 PV.u)).toS), (PV.i (((((r19).2.getD 0 (0, []))).2.getD 1 PV.u)).toI)])]).bind fun r20 =>
  some ([(PV.s (((r20).1.getD 0 PV.u)).toS), (PV.i (((r20).1.getD 1 PV.u)).toI), (PV.i (0 : Int))], [])))) := by kernel_rfl
/- celluloid/field.PutRGBA -/
theorem u_field_PutRGBA (k : Nat) (a1 : List UInt8) (a2 : Int) (a3 : Int) (a4 : Int) (a5 : Int) (a6 : Int) : call (k + 1) f_field_PutRGBA [.s a1, .i a2, .i a3, .i a4, .i a5, .i a6] [] =
  (call k f_field_RightRGBA [(PV.i a3), (PV.i a4), (PV.i a5), (PV.i a6)] []).bind fun r1 =>
  (bif (!(((r1).1.getD 0 PV.u)).toB) then some ([(PV.s []), (PV.i (0 : Int)), (PV.i (1 : Int))], [])
  else (call k f_bits_PutBytes [(PV.s a1), (PV.i a2), (PV.s (Go.AI.toBytes (List.set (List.set (List.set (List.set [[(PV.i (0 : Int))], [(PV.i (0 : Int))], [(PV.i (0 : Int))], [(PV.i (0 : Int))]] 0 [(PV.i (Go.IntKind.wrap .u8 a3))]) 1 [(PV.i (Go.IntKind.wrap .u8 a4))]) 2 [(PV.i (Go.IntKind.wrap .u8 a5))]) 3 [(PV.i (Go.IntKind.wrap .u8 a6))])))] []).bind fun r2 =>
  some ([(PV.s (((r2).1.getD 0 PV.u)).toS), (PV.i (((r2).1.getD 1 PV.u)).toI), (PV.i (0 : Int))], [])) := by kernel_rfl
/- celluloid/celluloidref07.Rect -/
theorem u_celluloidref07_Rect (k : Nat) (a1 : Int) (a2 : Int) (a3 : Int) (a4 : Int) : call (k + 1) f_celluloidref07_Rect [.i a1, .i a2, .i a3, .i a4] [] =
  ((call k f_celluloidref07_in [(PV.i a1), (PV.i (1048576 : Int))] []).bind fun r1 =>
   (bif (((r1).1.getD 0 PV.u)).toB then (call k f_celluloidref07_in [(PV.i a2), (PV.i (1048576 : Int))] []).bind fun r2 =>
   (bif (((r2).1.getD 0 PV.u)).toB then (call k f_celluloidref07_in [(PV.i a3), (PV.i (1048576 : Int))] []).bind fun r3 =>
   (bif (((r3).1.getD 0 PV.u)).toB then (call k f_celluloidref07_in [(PV.i a4), (PV.i (1048576 : Int))] []).bind fun r4 =>
   (bif (((r4).1.getD 0 PV.u)).toB then (bif (decide (a1 ≤ a2)) then some [(PV.b (decide (a3 ≤ a4)))]
   else some [(PV.b false)])
   else some [(PV.b false)])
   else some [(PV.b false)])
   else some [(PV.b false)])
   else some [(PV.b false)])).bind fun r5 =>
  some ([(PV.b ((r5.getD 0 PV.u)).toB)], []) := by kernel_rfl
/- celluloid/celluloidref07.Matrix -/
theorem u_celluloidref07_Matrix (k : Nat) (a1 : Int) (a2 : Int) (a3 : Int) (a4 : Int) (a5 : Int) (a6 : Int) : call (k + 1) f_celluloidref07_Matrix [.i a1, .i a2, .i a3, .i a4, .i a5, .i a6] [] =
  ((call k f_celluloidref07_in [(PV.i a1), (PV.i (4194304 : Int))] []).bind fun r1 =>
   (bif (((r1).1.getD 0 PV.u)).toB then (call k f_celluloidref07_in [(PV.i a2), (PV.i (4194304 : Int))] []).bind fun r2 =>
   (bif (((r2).1.getD 0 PV.u)).toB then (call k f_celluloidref07_in [(PV.i a3), (PV.i (4194304 : Int))] []).bind fun r3 =>
   (bif (((r3).1.getD 0 PV.u)).toB then (call k f_celluloidref07_in [(PV.i a4), (PV.i (4194304 : Int))] []).bind fun r4 =>
   (bif (((r4).1.getD 0 PV.u)).toB then (call k f_celluloidref07_in [(PV.i a5), (PV.i (1048576 : Int))] []).bind fun r5 =>
   (bif (((r5).1.getD 0 PV.u)).toB then (call k f_celluloidref07_in [(PV.i a6), (PV.i (1048576 : Int))] []).bind fun r6 =>
   some [(PV.b (((r6).1.getD 0 PV.u)).toB)]
   else some [(PV.b false)])
   else some [(PV.b false)])
   else some [(PV.b false)])
   else some [(PV.b false)])
   else some [(PV.b false)])).bind fun r7 =>
  some ([(PV.b ((r7.getD 0 PV.u)).toB)], []) := by kernel_rfl
/- celluloid/celluloidref07.Cx -/
noncomputable def S_celluloidref07_Cx_L0 (x1 : Int) (x2 : Int) (x3 : Int) (x4 : Int) (x5 : Int) (x6 : Int) (x7 : Int) (x8 : Int) : St := mkSt [(1, .v (.ptr (.n 1 0 0) 0)), (3, .v (.int .i64 ((0 : Int)))), (15, .any), (16, .any), (17, .any), (18, .any), (19, .any), (20, .any)] [((.n 1 0 0), .cells 37 [.int .i64 x1, .int .i64 x2, .int .i64 x3, .int .i64 x4, .int .i64 x5, .int .i64 x6, .int .i64 x7, .int .i64 x8])] 1000 22
noncomputable def at_celluloidref07_Cx_L0 : List Item := (atLoop Try.f16 0)
noncomputable def S_celluloidref07_Cx_L0_1 (x1 : Int) (x2 : Int) (x3 : Int) (x4 : Int) (x5 : Int) (x6 : Int) (x7 : Int) (x8 : Int) : St := mkSt [(1, .v (.ptr (.n 1 0 0) 0)), (3, .v (.int .i64 ((1 : Int)))), (15, .any), (16, .any), (17, .any), (18, .any), (19, .any), (20, .any)] [((.n 1 0 0), .cells 37 [.int .i64 x1, .int .i64 x2, .int .i64 x3, .int .i64 x4, .int .i64 x5, .int .i64 x6, .int .i64 x7, .int .i64 x8])] 1000 22
noncomputable def S_celluloidref07_Cx_L0_2 (x1 : Int) (x2 : Int) (x3 : Int) (x4 : Int) (x5 : Int) (x6 : Int) (x7 : Int) (x8 : Int) : St := mkSt [(1, .v (.ptr (.n 1 0 0) 0)), (3, .v (.int .i64 ((2 : Int)))), (15, .any), (16, .any), (17, .any), (18, .any), (19, .any), (20, .any)] [((.n 1 0 0), .cells 37 [.int .i64 x1, .int .i64 x2, .int .i64 x3, .int .i64 x4, .int .i64 x5, .int .i64 x6, .int .i64 x7, .int .i64 x8])] 1000 22
noncomputable def S_celluloidref07_Cx_L0_3 (x1 : Int) (x2 : Int) (x3 : Int) (x4 : Int) (x5 : Int) (x6 : Int) (x7 : Int) (x8 : Int) : St := mkSt [(1, .v (.ptr (.n 1 0 0) 0)), (3, .v (.int .i64 ((3 : Int)))), (15, .any), (16, .any), (17, .any), (18, .any), (19, .any), (20, .any)] [((.n 1 0 0), .cells 37 [.int .i64 x1, .int .i64 x2, .int .i64 x3, .int .i64 x4, .int .i64 x5, .int .i64 x6, .int .i64 x7, .int .i64 x8])] 1000 22
noncomputable def S_celluloidref07_Cx_L0_4 (x1 : Int) (x2 : Int) (x3 : Int) (x4 : Int) (x5 : Int) (x6 : Int) (x7 : Int) (x8 : Int) : St := mkSt [(1, .v (.ptr (.n 1 0 0) 0)), (3, .v (.int .i64 ((4 : Int)))), (15, .any), (16, .any), (17, .any), (18, .any), (19, .any), (20, .any)] [((.n 1 0 0), .cells 37 [.int .i64 x1, .int .i64 x2, .int .i64 x3, .int .i64 x4, .int .i64 x5, .int .i64 x6, .int .i64 x7, .int .i64 x8])] 1000 22
theorem u_celluloidref07_Cx (k : Nat) (a1 : Int) (a2 : Int) (a3 : Int) (a4 : Int) (a5 : Int) (a6 : Int) (a7 : Int) (a8 : Int) : call (k + 1) f_celluloidref07_Cx [.i a1, .i a2, .i a3, .i a4, .i a5, .i a6, .i a7, .i a8] [] =
  run k f_celluloidref07_Cx [] at_celluloidref07_Cx_L0 (S_celluloidref07_Cx_L0 (a1) (a2) (a3) (a4) (a5) (a6) (a7) (a8)) := by kernel_rfl
theorem u_celluloidref07_Cx_L0 (k : Nat) (x1 : Int) (x2 : Int) (x3 : Int) (x4 : Int) (x5 : Int) (x6 : Int) (x7 : Int) (x8 : Int) : run (k + 1) f_celluloidref07_Cx [] at_celluloidref07_Cx_L0 (S_celluloidref07_Cx_L0 x1 x2 x3 x4 x5 x6 x7 x8) =
  ((call k f_celluloidref07_in [(PV.i x1), (PV.i (512 : Int))] []).bind fun r1 =>
   (bif (!(((r1).1.getD 0 PV.u)).toB) then some [(PV.b true)]
   else (call k f_celluloidref07_in [(PV.i x5), (PV.i (255 : Int))] []).bind fun r2 =>
   some [(PV.b (!(((r2).1.getD 0 PV.u)).toB))])).bind fun r3 =>
  (bif ((r3.getD 0 PV.u)).toB then some ([(PV.b false)], [])
  else run k f_celluloidref07_Cx [] at_celluloidref07_Cx_L0 (S_celluloidref07_Cx_L0_1 (x1) (x2) (x3) (x4) (x5) (x6) (x7) (x8))) := by kernel_rfl
theorem u_celluloidref07_Cx_L0_1 (k : Nat) (x1 : Int) (x2 : Int) (x3 : Int) (x4 : Int) (x5 : Int) (x6 : Int) (x7 : Int) (x8 : Int) : run (k + 1) f_celluloidref07_Cx [] at_celluloidref07_Cx_L0 (S_celluloidref07_Cx_L0_1 x1 x2 x3 x4 x5 x6 x7 x8) =
  ((call k f_celluloidref07_in [(PV.i x2), (PV.i (512 : Int))] []).bind fun r4 =>
   (bif (!(((r4).1.getD 0 PV.u)).toB) then some [(PV.b true)]
   else (call k f_celluloidref07_in [(PV.i x6), (PV.i (255 : Int))] []).bind fun r5 =>
   some [(PV.b (!(((r5).1.getD 0 PV.u)).toB))])).bind fun r6 =>
  (bif ((r6.getD 0 PV.u)).toB then some ([(PV.b false)], [])
  else run k f_celluloidref07_Cx [] at_celluloidref07_Cx_L0 (S_celluloidref07_Cx_L0_2 (x1) (x2) (x3) (x4) (x5) (x6) (x7) (x8))) := by kernel_rfl
theorem u_celluloidref07_Cx_L0_2 (k : Nat) (x1 : Int) (x2 : Int) (x3 : Int) (x4 : Int) (x5 : Int) (x6 : Int) (x7 : Int) (x8 : Int) : run (k + 1) f_celluloidref07_Cx [] at_celluloidref07_Cx_L0 (S_celluloidref07_Cx_L0_2 x1 x2 x3 x4 x5 x6 x7 x8) =
  ((call k f_celluloidref07_in [(PV.i x3), (PV.i (512 : Int))] []).bind fun r7 =>
   (bif (!(((r7).1.getD 0 PV.u)).toB) then some [(PV.b true)]
   else (call k f_celluloidref07_in [(PV.i x7), (PV.i (255 : Int))] []).bind fun r8 =>
   some [(PV.b (!(((r8).1.getD 0 PV.u)).toB))])).bind fun r9 =>
  (bif ((r9.getD 0 PV.u)).toB then some ([(PV.b false)], [])
  else run k f_celluloidref07_Cx [] at_celluloidref07_Cx_L0 (S_celluloidref07_Cx_L0_3 (x1) (x2) (x3) (x4) (x5) (x6) (x7) (x8))) := by kernel_rfl
theorem u_celluloidref07_Cx_L0_3 (k : Nat) (x1 : Int) (x2 : Int) (x3 : Int) (x4 : Int) (x5 : Int) (x6 : Int) (x7 : Int) (x8 : Int) : run (k + 1) f_celluloidref07_Cx [] at_celluloidref07_Cx_L0 (S_celluloidref07_Cx_L0_3 x1 x2 x3 x4 x5 x6 x7 x8) =
  ((call k f_celluloidref07_in [(PV.i x4), (PV.i (512 : Int))] []).bind fun r10 =>
   (bif (!(((r10).1.getD 0 PV.u)).toB) then some [(PV.b true)]
   else (call k f_celluloidref07_in [(PV.i x8), (PV.i (255 : Int))] []).bind fun r11 =>
   some [(PV.b (!(((r11).1.getD 0 PV.u)).toB))])).bind fun r12 =>
  (bif ((r12.getD 0 PV.u)).toB then some ([(PV.b false)], [])
  else run k f_celluloidref07_Cx [] at_celluloidref07_Cx_L0 (S_celluloidref07_Cx_L0_4 (x1) (x2) (x3) (x4) (x5) (x6) (x7) (x8))) := by kernel_rfl
theorem u_celluloidref07_Cx_L0_4 (k : Nat) (x1 : Int) (x2 : Int) (x3 : Int) (x4 : Int) (x5 : Int) (x6 : Int) (x7 : Int) (x8 : Int) : run (k + 1) f_celluloidref07_Cx [] at_celluloidref07_Cx_L0 (S_celluloidref07_Cx_L0_4 x1 x2 x3 x4 x5 x6 x7 x8) =
  some ([(PV.b true)], []) := by kernel_rfl
/- celluloid/celluloidref07.RGBA -/
noncomputable def S_celluloidref07_RGBA_L0 (x1 : List (List PV)) (x2 : Int) (x3 : Int) : St := mkSt [(13, .v (.sl 3 x1)), (14, .v (.int .i64 x2)), (15, .v (.int .i64 x3)), (22, .any), (23, .any)] [] 1000 26
noncomputable def at_celluloidref07_RGBA_L0 : List Item := (atLoop Try.f17 0)
theorem u_celluloidref07_RGBA (k : Nat) (a1 : Int) (a2 : Int) (a3 : Int) (a4 : Int) : call (k + 1) f_celluloidref07_RGBA [.i a1, .i a2, .i a3, .i a4] [] =
  run k f_celluloidref07_RGBA [] at_celluloidref07_RGBA_L0 (S_celluloidref07_RGBA_L0 ((List.set (List.set (List.set (List.set [[(PV.i (0 : Int))], [(PV.i (0 : Int))], [(PV.i (0 : Int))], [(PV.i (0 : Int))]] 0 [(PV.i a1)]) 1 [(PV.i a2)]) 2 [(PV.i a3)]) 3 [(PV.i a4)])) ((((List.length (List.set (List.set (List.set (List.set [[(PV.i (0 : Int))], [(PV.i (0 : Int))], [(PV.i (0 : Int))], [(PV.i (0 : Int))]] 0 [(PV.i a1)]) 1 [(PV.i a2)]) 2 [(PV.i a3)]) 3 [(PV.i a4)])) : Nat) : Int)) ((0 : Int))) := by kernel_rfl
theorem u_celluloidref07_RGBA_L0 (k : Nat) (x1 : List (List PV)) (x2 : Int) (x3 : Int) : run (k + 1) f_celluloidref07_RGBA [] at_celluloidref07_RGBA_L0 (S_celluloidref07_RGBA_L0 x1 x2 x3) =
  (bif (decide (x3 < x2)) then (bif (Go.AI.inB x3 (List.length x1)) then ((bif (decide ((((Go.AI.elemAt x1 x3).getD 0 PV.u)).toI < (0 : Int))) then some [(PV.b true)]
   else some [(PV.b (decide ((((Go.AI.elemAt x1 x3).getD 0 PV.u)).toI > (255 : Int))))])).bind fun r1 =>
  (bif ((r1.getD 0 PV.u)).toB then some ([(PV.b false)], [])
  else run k f_celluloidref07_RGBA [] at_celluloidref07_RGBA_L0 (S_celluloidref07_RGBA_L0 (x1) (x2) ((Go.IntKind.wrap .i64 (x3 + (1 : Int))))))
  else none)
  else some ([(PV.b true)], [])) := by kernel_rfl
/- celluloid/field.RightRect -/
theorem u_field_RightRect (k : Nat) (a1 : Int) (a2 : Int) (a3 : Int) (a4 : Int) : call (k + 1) f_field_RightRect [.i a1, .i a2, .i a3, .i a4] [] =
  ((call k f_field_within [(PV.i (-1048576 : Int)), (PV.i (1048576 : Int)), (PV.l (List.set (List.set (List.set (List.set [[(PV.i (0 : Int))], [(PV.i (0 : Int))], [(PV.i (0 : Int))], [(PV.i (0 : Int))]] 0 [(PV.i a1)]) 1 [(PV.i a2)]) 2 [(PV.i a3)]) 3 [(PV.i a4)]))] []).bind fun r1 =>
   (bif (((r1).1.getD 0 PV.u)).toB then (bif (decide (a1 ≤ a2)) then some [(PV.b (decide (a3 ≤ a4)))]
   else some [(PV.b false)])
   else some [(PV.b false)])).bind fun r2 =>
  some ([(PV.b ((r2.getD 0 PV.u)).toB)], []) := by kernel_rfl
/- celluloid/field.RightMatrix -/
theorem u_field_RightMatrix (k : Nat) (a1 : Int) (a2 : Int) (a3 : Int) (a4 : Int) (a5 : Int) (a6 : Int) : call (k + 1) f_field_RightMatrix [.i a1, .i a2, .i a3, .i a4, .i a5, .i a6] [] =
  ((call k f_field_within [(PV.i (-4194304 : Int)), (PV.i (4194304 : Int)), (PV.l (List.set (List.set (List.set (List.set [[(PV.i (0 : Int))], [(PV.i (0 : Int))], [(PV.i (0 : Int))], [(PV.i (0 : Int))]] 0 [(PV.i a1)]) 1 [(PV.i a2)]) 2 [(PV.i a3)]) 3 [(PV.i a4)]))] []).bind fun r1 =>
   (bif (((r1).1.getD 0 PV.u)).toB then (call k f_field_within [(PV.i (-1048576 : Int)), (PV.i (1048576 : Int)), (PV.l (List.set (List.set [[(PV.i (0 : Int))], [(PV.i (0 : Int))]] 0 [(PV.i a5)]) 1 [(PV.i a6)]))] []).bind fun r2 =>
   some [(PV.b (((r2).1.getD 0 PV.u)).toB)]
   else some [(PV.b false)])).bind fun r3 =>
  some ([(PV.b ((r3.getD 0 PV.u)).toB)], []) := by kernel_rfl
/- celluloid/field.RightCx -/
theorem u_field_RightCx (k : Nat) (a1 : Int) (a2 : Int) (a3 : Int) (a4 : Int) (a5 : Int) (a6 : Int) (a7 : Int) (a8 : Int) : call (k + 1) f_field_RightCx [.i a1, .i a2, .i a3, .i a4, .i a5, .i a6, .i a7, .i a8] [] =
  (call k f_field_within [(PV.i (-512 : Int)), (PV.i (512 : Int)), (PV.l [[(PV.i a1)], [(PV.i a2)], [(PV.i a3)], [(PV.i a4)]])] []).bind fun r1 =>
  (bif (((r1).1.getD 0 PV.u)).toB then (call k f_field_within [(PV.i (-255 : Int)), (PV.i (255 : Int)), (PV.l [[(PV.i a5)], [(PV.i a6)], [(PV.i a7)], [(PV.i a8)]])] []).bind fun r2 =>
  some ([(PV.b (((r2).1.getD 0 PV.u)).toB)], [])
  else some ([(PV.b false)], [])) := by kernel_rfl
/- celluloid/field.RightRGBA -/
theorem u_field_RightRGBA (k : Nat) (a1 : Int) (a2 : Int) (a3 : Int) (a4 : Int) : call (k + 1) f_field_RightRGBA [.i a1, .i a2, .i a3, .i a4] [] =
  (call k f_field_within [(PV.i (0 : Int)), (PV.i (255 : Int)), (PV.l (List.set (List.set (List.set (List.set [[(PV.i (0 : Int))], [(PV.i (0 : Int))], [(PV.i (0 : Int))], [(PV.i (0 : Int))]] 0 [(PV.i a1)]) 1 [(PV.i a2)]) 2 [(PV.i a3)]) 3 [(PV.i a4)]))] []).bind fun r1 =>
  some ([(PV.b (((r1).1.getD 0 PV.u)).toB)], []) := by kernel_rfl
/- celluloid/celluloidlaw07.put -/
theorem u_celluloidlaw07_put (k : Nat) (a1 : List UInt8) (a2 : Int) (a3 : Int) (a4 : Bool) (a5 : List UInt8) : call (k + 1) f_celluloidlaw07_put [.s a1, .i a2, .i a3, .b a4, .s a5] [] =
  (bif (!a4) then ((bif (a1 == []) then some [(PV.b (a3 == (1 : Int)))]
   else some [(PV.b false)])).bind fun r1 =>
  some ([(PV.b ((r1.getD 0 PV.u)).toB)], [])
  else ((bif (a1 == a5) then (bif (a2 == (0 : Int)) then some [(PV.b (a3 == (0 : Int)))]
   else some [(PV.b false)])
   else some [(PV.b false)])).bind fun r2 =>
  some ([(PV.b ((r2.getD 0 PV.u)).toB)], [])) := by kernel_rfl
/- celluloid/celluloidref07.PutRect -/
theorem u_celluloidref07_PutRect (k : Nat) (a1 : List UInt8) (a2 : Int) (a3 : Int) (a4 : Int) (a5 : Int) : call (k + 1) f_celluloidref07_PutRect [.s a1, .i a2, .i a3, .i a4, .i a5] [] =
  (call k f_celluloidref07_numbers [(PV.s []), (PV.i (0 : Int)), (PV.i (5 : Int)), (PV.l (List.set (List.set (List.set (List.set [[(PV.i (0 : Int))], [(PV.i (0 : Int))], [(PV.i (0 : Int))], [(PV.i (0 : Int))]] 0 [(PV.i a2)]) 1 [(PV.i a3)]) 2 [(PV.i a4)]) 3 [(PV.i a5)]))] []).bind fun r1 =>
  (bif (decide (((List.length a1) + (List.length (((r1).1.getD 0 PV.u)).toS)) ≤ 1099511627776)) then some ([(PV.s (a1 ++ (((r1).1.getD 0 PV.u)).toS))], [])
  else none) := by kernel_rfl
/- celluloid/celluloidref07.PutMatrix -/
theorem u_celluloidref07_PutMatrix (k : Nat) (a1 : List UInt8) (a2 : Int) (a3 : Int) (a4 : Int) (a5 : Int) (a6 : Int) (a7 : Int) : call (k + 1) f_celluloidref07_PutMatrix [.s a1, .i a2, .i a3, .i a4, .i a5, .i a6, .i a7] [] =
  (bif (a2 != (65536 : Int)) then (call k f_celluloidref07_flag [(PV.s []), (PV.i (0 : Int)), (PV.b true)] []).bind fun r24 =>
  ((bif (a2 != (65536 : Int)) then some [(PV.b true)]
   else some [(PV.b (a5 != (65536 : Int)))])).bind fun r25 =>
  (bif ((r25.getD 0 PV.u)).toB then (call k f_celluloidref07_numbers [(PV.s (((r24).1.getD 0 PV.u)).toS), (PV.i (((r24).1.getD 1 PV.u)).toI), (PV.i (5 : Int)), (PV.l (List.set (List.set [[(PV.i (0 : Int))], [(PV.i (0 : Int))]] 0 [(PV.i a2)]) 1 [(PV.i a5)]))] []).bind fun r26 =>
  (bif (a3 != (0 : Int)) then (call k f_celluloidref07_flag [(PV.s (((r26).1.getD 0 PV.u)).toS), (PV.i (((r26).1.getD 1 PV.u)).toI), (PV.b true)] []).bind fun r32 =>
  ((bif (a3 != (0 : Int)) then some [(PV.b true)]
   else some [(PV.b (a4 != (0 : Int)))])).bind fun r33 =>
  (bif ((r33.getD 0 PV.u)).toB then (call k f_celluloidref07_numbers [(PV.s (((r32).1.getD 0 PV.u)).toS), (PV.i (((r32).1.getD 1 PV.u)).toI), (PV.i (5 : Int)), (PV.l (List.set (List.set [[(PV.i (0 : Int))], [(PV.i (0 : Int))]] 0 [(PV.i a3)]) 1 [(PV.i a4)]))] []).bind fun r34 =>
  (call k f_celluloidref07_numbers [(PV.s (((r34).1.getD 0 PV.u)).toS), (PV.i (((r34).1.getD 1 PV.u)).toI), (PV.i (5 : Int)), (PV.l (List.set (List.set [[(PV.i (0 : Int))], [(PV.i (0 : Int))]] 0 [(PV.i a6)]) 1 [(PV.i a7)]))] []).bind fun r35 =>
  (bif (decide (((List.length a1) + (List.length (((r35).1.getD 0 PV.u)).toS)) ≤ 1099511627776)) then some ([(PV.s (a1 ++ (((r35).1.getD 0 PV.u)).toS))], [])
  else none)
  else (call k f_celluloidref07_numbers [(PV.s (((r32).1.getD 0 PV.u)).toS), (PV.i (((r32).1.getD 1 PV.u)).toI), (PV.i (5 : Int)), (PV.l (List.set (List.set [[(PV.i (0 : Int))], [(PV.i (0 : Int))]] 0 [(PV.i a6)]) 1 [(PV.i a7)]))] []).bind fun r36 =>
  (bif (decide (((List.length a1) + (List.length (((r36).1.getD 0 PV.u)).toS)) ≤ 1099511627776)) then some ([(PV.s (a1 ++ (((r36).1.getD 0 PV.u)).toS))], [])
  else none))
  else (call k f_celluloidref07_flag [(PV.s (((r26).1.getD 0 PV.u)).toS), (PV.i (((r26).1.getD 1 PV.u)).toI), (PV.b (a4 != (0 : Int)))] []).bind fun r27 =>
  ((bif (a3 != (0 : Int)) then some [(PV.b true)]
   else some [(PV.b (a4 != (0 : Int)))])).bind fun r28 =>
  (bif ((r28.getD 0 PV.u)).toB then (call k f_celluloidref07_numbers [(PV.s (((r27).1.getD 0 PV.u)).toS), (PV.i (((r27).1.getD 1 PV.u)).toI), (PV.i (5 : Int)), (PV.l (List.set (List.set [[(PV.i (0 : Int))], [(PV.i (0 : Int))]] 0 [(PV.i a3)]) 1 [(PV.i a4)]))] []).bind fun r29 =>
  (call k f_celluloidref07_numbers [(PV.s (((r29).1.getD 0 PV.u)).toS), (PV.i (((r29).1.getD 1 PV.u)).toI), (PV.i (5 : Int)), (PV.l (List.set (List.set [[(PV.i (0 : Int))], [(PV.i (0 : Int))]] 0 [(PV.i a6)]) 1 [(PV.i a7)]))] []).bind fun r30 =>
  (bif (decide (((List.length a1) + (List.length (((r30).1.getD 0 PV.u)).toS)) ≤ 1099511627776)) then some ([(PV.s (a1 ++ (((r30).1.getD 0 PV.u)).toS))], [])
  else none)
  else (call k f_celluloidref07_numbers [(PV.s (((r27).1.getD 0 PV.u)).toS), (PV.i (((r27).1.getD 1 PV.u)).toI), (PV.i (5 : Int)), (PV.l (List.set (List.set [[(PV.i (0 : Int))], [(PV.i (0 : Int))]] 0 [(PV.i a6)]) 1 [(PV.i a7)]))] []).bind fun r31 =>
  (bif (decide (((List.length a1) + (List.length (((r31).1.getD 0 PV.u)).toS)) ≤ 1099511627776)) then some ([(PV.s (a1 ++ (((r31).1.getD 0 PV.u)).toS))], [])
  else none)))
  else (bif (a3 != (0 : Int)) then (call k f_celluloidref07_flag [(PV.s (((r24).1.getD 0 PV.u)).toS), (PV.i (((r24).1.getD 1 PV.u)).toI), (PV.b true)] []).bind fun r42 =>
  ((bif (a3 != (0 : Int)) then some [(PV.b true)]
   else some [(PV.b (a4 != (0 : Int)))])).bind fun r43 =>
  (bif ((r43.getD 0 PV.u)).toB then (call k f_celluloidref07_numbers [(PV.s (((r42).1.getD 0 PV.u)).toS), (PV.i (((r42).1.getD 1 PV.u)).toI), (PV.i (5 : Int)), (PV.l (List.set (List.set [[(PV.i (0 : Int))], [(PV.i (0 : Int))]] 0 [(PV.i a3)]) 1 [(PV.i a4)]))] []).bind fun r44 =>
  (call k f_celluloidref07_numbers [(PV.s (((r44).1.getD 0 PV.u)).toS), (PV.i (((r44).1.getD 1 PV.u)).toI), (PV.i (5 : Int)), (PV.l (List.set (List.set [[(PV.i (0 : Int))], [(PV.i (0 : Int))]] 0 [(PV.i a6)]) 1 [(PV.i a7)]))] []).bind fun r45 =>
  (bif (decide (((List.length a1) + (List.length (((r45).1.getD 0 PV.u)).toS)) ≤ 1099511627776)) then some ([(PV.s (a1 ++ (((r45).1.getD 0 PV.u)).toS))], [])
  else none)
  else (call k f_celluloidref07_numbers [(PV.s (((r42).1.getD 0 PV.u)).toS), (PV.i (((r42).1.getD 1 PV.u)).toI), (PV.i (5 : Int)), (PV.l (List.set (List.set [[(PV.i (0 : Int))], [(PV.i (0 : Int))]] 0 [(PV.i a6)]) 1 [(PV.i a7)]))] []).bind fun r46 =>
  (bif (decide (((List.length a1) + (List.length (((r46).1.getD 0 PV.u)).toS)) ≤ 1099511627776)) then some ([(PV.s (a1 ++ (((r46).1.getD 0 PV.u)).toS))], [])
  else none))
  else (call k f_celluloidref07_flag [(PV.s (((r24).1.getD 0 PV.u)).toS), (PV.i (((r24).1.getD 1 PV.u)).toI), (PV.b (a4 != (0 : Int)))] []).bind fun r37 =>
  ((bif (a3 != (0 : Int)) then some [(PV.b true)]
   else some [(PV.b (a4 != (0 : Int)))])).bind fun r38 =>
  (bif ((r38.getD 0 PV.u)).toB then (call k f_celluloidref07_numbers [(PV.s (((r37).1.getD 0 PV.u)).toS), (PV.i (((r37).1.getD 1 PV.u)).toI), (PV.i (5 : Int)), (PV.l (List.set (List.set [[(PV.i (0 : Int))], [(PV.i (0 : Int))]] 0 [(PV.i a3)]) 1 [(PV.i a4)]))] []).bind fun r39 =>
  (call k f_celluloidref07_numbers [(PV.s (((r39).1.getD 0 PV.u)).toS), (PV.i (((r39).1.getD 1 PV.u)).toI), (PV.i (5 : Int)), (PV.l (List.set (List.set [[(PV.i (0 : Int))], [(PV.i (0 : Int))]] 0 [(PV.i a6)]) 1 [(PV.i a7)]))] []).bind fun r40 =>
  (bif (decide (((List.length a1) + (List.length (((r40).1.getD 0 PV.u)).toS)) ≤ 1099511627776)) then some ([(PV.s (a1 ++ (((r40).1.getD 0 PV.u)).toS))], [])
  else none)
  else (call k f_celluloidref07_numbers [(PV.s (((r37).1.getD 0 PV.u)).toS), (PV.i (((r37).1.getD 1 PV.u)).toI), (PV.i (5 : Int)), (PV.l (List.set (List.set [[(PV.i (0 : Int))], [(PV.i (0 : Int))]] 0 [(PV.i a6)]) 1 [(PV.i a7)]))] []).bind fun r41 =>
  (bif (decide (((List.length a1) + (List.length (((r41).1.getD 0 PV.u)).toS)) ≤ 1099511627776)) then some ([(PV.s (a1 ++ (((r41).1.getD 0 PV.u)).toS))], [])
  else none))))
  else (call k f_celluloidref07_flag [(PV.s []), (PV.i (0 : Int)), (PV.b (a5 != (65536 : Int)))] []).bind fun r1 =>
  ((bif (a2 != (65536 : Int)) then some [(PV.b true)]
   else some [(PV.b (a5 != (65536 : Int)))])).bind fun r2 =>
  (bif ((r2.getD 0 PV.u)).toB then (call k f_celluloidref07_numbers [(PV.s (((r1).1.getD 0 PV.u)).toS), (PV.i (((r1).1.getD 1 PV.u)).toI), (PV.i (5 : Int)), (PV.l (List.set (List.set [[(PV.i (0 : Int))], [(PV.i (0 : Int))]] 0 [(PV.i a2)]) 1 [(PV.i a5)]))] []).bind fun r3 =>
  (bif (a3 != (0 : Int)) then (call k f_celluloidref07_flag [(PV.s (((r3).1.getD 0 PV.u)).toS), (PV.i (((r3).1.getD 1 PV.u)).toI), (PV.b true)] []).bind fun r9 =>
  ((bif (a3 != (0 : Int)) then some [(PV.b true)]
   else some [(PV.b (a4 != (0 : Int)))])).bind fun r10 =>
  (bif ((r10.getD 0 PV.u)).toB then (call k f_celluloidref07_numbers [(PV.s (((r9).1.getD 0 PV.u)).toS), (PV.i (((r9).1.getD 1 PV.u)).toI), (PV.i (5 : Int)), (PV.l (List.set (List.set [[(PV.i (0 : Int))], [(PV.i (0 : Int))]] 0 [(PV.i a3)]) 1 [(PV.i a4)]))] []).bind fun r11 =>
  (call k f_celluloidref07_numbers [(PV.s (((r11).1.getD 0 PV.u)).toS), (PV.i (((r11).1.getD 1 PV.u)).toI), (PV.i (5 : Int)), (PV.l (List.set (List.set [[(PV.i (0 : Int))], [(PV.i (0 : Int))]] 0 [(PV.i a6)]) 1 [(PV.i a7)]))] []).bind fun r12 =>
  (bif (decide (((List.length a1) + (List.length (((r12).1.getD 0 PV.u)).toS)) ≤ 1099511627776)) then some ([(PV.s (a1 ++ (((r12).1.getD 0 PV.u)).toS))], [])
  else none)
  else (call k f_celluloidref07_numbers [(PV.s (((r9).1.getD 0 PV.u)).toS), (PV.i (((r9).1.getD 1 PV.u)).toI), (PV.i (5 : Int)), (PV.l (List.set (List.set [[(PV.i (0 : Int))], [(PV.i (0 : Int))]] 0 [(PV.i a6)]) 1 [(PV.i a7)]))] []).bind fun r13 =>
  (bif (decide (((List.length a1) + (List.length (((r13).1.getD 0 PV.u)).toS)) ≤ 1099511627776)) then some ([(PV.s (a1 ++ (((r13).1.getD 0 PV.u)).toS))], [])
  else none))
  else (call k f_celluloidref07_flag [(PV.s (((r3).1.getD 0 PV.u)).toS), (PV.i (((r3).1.getD 1 PV.u)).toI), (PV.b (a4 != (0 : Int)))] []).bind fun r4 =>
  ((bif (a3 != (0 : Int)) then some [(PV.b true)]
   else some [(PV.b (a4 != (0 : Int)))])).bind fun r5 =>
  (bif ((r5.getD 0 PV.u)).toB then (call k f_celluloidref07_numbers [(PV.s (((r4).1.getD 0 PV.u)).toS), (PV.i (((r4).1.getD 1 PV.u)).toI), (PV.i (5 : Int)), (PV.l (List.set (List.set [[(PV.i (0 : Int))], [(PV.i (0 : Int))]] 0 [(PV.i a3)]) 1 [(PV.i a4)]))] []).bind fun r6 =>
  (call k f_celluloidref07_numbers [(PV.s (((r6).1.getD 0 PV.u)).toS), (PV.i (((r6).1.getD 1 PV.u)).toI), (PV.i (5 : Int)), (PV.l (List.set (List.set [[(PV.i (0 : Int))], [(PV.i (0 : Int))]] 0 [(PV.i a6)]) 1 [(PV.i a7)]))] []).bind fun r7 =>
  (bif (decide (((List.length a1) + (List.length (((r7).1.getD 0 PV.u)).toS)) ≤ 1099511627776)) then some ([(PV.s (a1 ++ (((r7).1.getD 0 PV.u)).toS))], [])
  else none)
  else (call k f_celluloidref07_numbers [(PV.s (((r4).1.getD 0 PV.u)).toS), (PV.i (((r4).1.getD 1 PV.u)).toI), (PV.i (5 : Int)), (PV.l (List.set (List.set [[(PV.i (0 : Int))], [(PV.i (0 : Int))]] 0 [(PV.i a6)]) 1 [(PV.i a7)]))] []).bind fun r8 =>
  (bif (decide (((List.length a1) + (List.length (((r8).1.getD 0 PV.u)).toS)) ≤ 1099511627776)) then some ([(PV.s (a1 ++ (((r8).1.getD 0 PV.u)).toS))], [])
  else none)))
  else (bif (a3 != (0 : Int)) then (call k f_celluloidref07_flag [(PV.s (((r1).1.getD 0 PV.u)).toS), (PV.i (((r1).1.getD 1 PV.u)).toI), (PV.b true)] []).bind fun r19 =>
  ((bif (a3 != (0 : Int)) then some [(PV.b true)]
   else some [(PV.b (a4 != (0 : Int)))])).bind fun r20 =>
  (bif ((r20.getD 0 PV.u)).toB then (call k f_celluloidref07_numbers [(PV.s (((r19).1.getD 0 PV.u)).toS), (PV.i (((r19).1.getD 1 PV.u)).toI), (PV.i (5 : Int)), (PV.l (List.set (List.set [[(PV.i (0 : Int))], [(PV.i (0 : Int))]] 0 [(PV.i a3)]) 1 [(PV.i a4)]))] []).bind fun r21 =>
  (call k f_celluloidref07_numbers [(PV.s (((r21).1.getD 0 PV.u)).toS), (PV.i (((r21).1.getD 1 PV.u)).toI), (PV.i (5 : Int)), (PV.l (List.set (List.set [[(PV.i (0 : Int))], [(PV.i (0 : Int))]] 0 [(PV.i a6)]) 1 [(PV.i a7)]))] []).bind fun r22 =>
  (bif (decide (((List.length a1) + (List.length (((r22).1.getD 0 PV.u)).toS)) ≤ 1099511627776)) then some ([(PV.s (a1 ++ (((r22).1.getD 0 PV.u)).toS))], [])
  else none)
  else (call k f_celluloidref07_numbers [(PV.s (((r19).1.getD 0 PV.u)).toS), (PV.i (((r19).1.getD 1 PV.u)).toI), (PV.i (5 : Int)), (PV.l (List.set (List.set [[(PV.i (0 : Int))], [(PV.i (0 : Int))]] 0 [(PV.i a6)]) 1 [(PV.i a7)]))] []).bind fun r23 =>
  (bif (decide (((List.length a1) + (List.length (((r23).1.getD 0 PV.u)).toS)) ≤ 1099511627776)) then some ([(PV.s (a1 ++ (((r23).1.getD 0 PV.u)).toS))], [])
  else none))
  else (call k f_celluloidref07_flag [(PV.s (((r1).1.getD 0 PV.u)).toS), (PV.i (((r1).1.getD 1 PV.u)).toI), (PV.b (a4 != (0 : Int)))] []).bind fun r14 =>
  ((bif (a3 != (0 : Int)) then some [(PV.b true)]
   else some [(PV.b (a4 != (0 : Int)))])).bind fun r15 =>
  (bif ((r15.getD 0 PV.u)).toB then (call k f_celluloidref07_numbers [(PV.s (((r14).1.getD 0 PV.u)).toS), (PV.i (((r14).1.getD 1 PV.u)).toI), (PV.i (5 : Int)), (PV.l (List.set (List.set [[(PV.i (0 : Int))], [(PV.i (0 : Int))]] 0 [(PV.i a3)]) 1 [(PV.i a4)]))] []).bind fun r16 =>
  (call k f_celluloidref07_numbers [(PV.s (((r16).1.getD 0 PV.u)).toS), (PV.i (((r16).1.getD 1 PV.u)).toI), (PV.i (5 : Int)), (PV.l (List.set (List.set [[(PV.i (0 : Int))], [(PV.i (0 : Int))]] 0 [(PV.i a6)]) 1 [(PV.i a7)]))] []).bind fun r17 =>
  (bif (decide (((List.length a1) + (List.length (((r17).1.getD 0 PV.u)).toS)) ≤ 1099511627776)) then some ([(PV.s (a1 ++ (((r17).1.getD 0 PV.u)).toS))], [])
  else none)
  else (call k f_celluloidref07_numbers [(PV.s (((r14).1.getD 0 PV.u)).toS), (PV.i (((r14).1.getD 1 PV.u)).toI), (PV.i (5 : Int)), (PV.l (List.set (List.set [[(PV.i (0 : Int))], [(PV.i (0 : Int))]] 0 [(PV.i a6)]) 1 [(PV.i a7)]))] []).bind fun r18 =>
  (bif (decide (((List.length a1) + (List.length (((r18).1.getD 0 PV.u)).toS)) ≤ 1099511627776)) then some ([(PV.s (a1 ++ (((r18).1.getD 0 PV.u)).toS))], [])
  else none))))) := by kernel_rfl
/- celluloid/celluloidref07.PutCx -/
noncomputable def S_celluloidref07_PutCx_L0 (x1 : List UInt8) (x2 : Bool) (x3 : Bool) (x4 : Int) (x5 : Int) (x6 : Int) (x7 : Int) (x8 : Int) (x9 : Int) (x10 : Int) (x11 : Int) : St := mkSt [(0, .v (.str x1)), (3, .v (.ptr (.n 1 0 0) 0)), (5, .v (.bool x2)), (6, .v (.bool x3)), (7, .v (.int .i64 ((0 : Int)))), (18, .any), (19, .any), (20, .any), (21, .any), (22, .any), (26, .any), (27, .any), (28, .any), (29, .any), (30, .any), (35, .any), (49, .any)] [((.n 1 0 0), .cells 37 [.int .i64 x4, .int .i64 x5, .int .i64 x6, .int .i64 x7, .int .i64 x8, .int .i64 x9, .int .i64 x10, .int .i64 x11])] 1000 71
noncomputable def at_celluloidref07_PutCx_L0 : List Item := (atLoop Try.f25 0)
noncomputable def S_celluloidref07_PutCx_L0_1 (x1 : List UInt8) (x2 : Bool) (x3 : Bool) (x4 : Int) (x5 : Int) (x6 : Int) (x7 : Int) (x8 : Int) (x9 : Int) (x10 : Int) (x11 : Int) : St := mkSt [(0, .v (.str x1)), (3, .v (.ptr (.n 1 0 0) 0)), (5, .v (.bool x2)), (6, .v (.bool x3)), (7, .v (.int .i64 ((1 : Int)))), (18, .any), (19, .any), (20, .any), (21, .any), (22, .any), (26, .any), (27, .any), (28, .any), (29, .any), (30, .any), (35, .any), (49, .any)] [((.n 1 0 0), .cells 37 [.int .i64 x4, .int .i64 x5, .int .i64 x6, .int .i64 x7, .int .i64 x8, .int .i64 x9, .int .i64 x10, .int .i64 x11])] 1000 71
noncomputable def S_celluloidref07_PutCx_L0_2 (x1 : List UInt8) (x2 : Bool) (x3 : Bool) (x4 : Int) (x5 : Int) (x6 : Int) (x7 : Int) (x8 : Int) (x9 : Int) (x10 : Int) (x11 : Int) : St := mkSt [(0, .v (.str x1)), (3, .v (.ptr (.n 1 0 0) 0)), (5, .v (.bool x2)), (6, .v (.bool x3)), (7, .v (.int .i64 ((2 : Int)))), (18, .any), (19, .any), (20, .any), (21, .any), (22, .any), (26, .any), (27, .any), (28, .any), (29, .any), (30, .any), (35, .any), (49, .any)] [((.n 1 0 0), .cells 37 [.int .i64 x4, .int .i64 x5, .int .i64 x6, .int .i64 x7, .int .i64 x8, .int .i64 x9, .int .i64 x10, .int .i64 x11])] 1000 71
noncomputable def S_celluloidref07_PutCx_L0_3 (x1 : List UInt8) (x2 : Bool) (x3 : Bool) (x4 : Int) (x5 : Int) (x6 : Int) (x7 : Int) (x8 : Int) (x9 : Int) (x10 : Int) (x11 : Int) : St := mkSt [(0, .v (.str x1)), (3, .v (.ptr (.n 1 0 0) 0)), (5, .v (.bool x2)), (6, .v (.bool x3)), (7, .v (.int .i64 ((3 : Int)))), (18, .any), (19, .any), (20, .any), (21, .any), (22, .any), (26, .any), (27, .any), (28, .any), (29, .any), (30, .any), (35, .any), (49, .any)] [((.n 1 0 0), .cells 37 [.int .i64 x4, .int .i64 x5, .int .i64 x6, .int .i64 x7, .int .i64 x8, .int .i64 x9, .int .i64 x10, .int .i64 x11])] 1000 71
noncomputable def S_celluloidref07_PutCx_L0_4 (x1 : List UInt8) (x2 : Bool) (x3 : Bool) (x4 : Int) (x5 : Int) (x6 : Int) (x7 : Int) (x8 : Int) (x9 : Int) (x10 : Int) (x11 : Int) : St := mkSt [(0, .v (.str x1)), (3, .v (.ptr (.n 1 0 0) 0)), (5, .v (.bool x2)), (6, .v (.bool x3)), (7, .v (.int .i64 ((4 : Int)))), (18, .any), (19, .any), (20, .any), (21, .any), (22, .any), (26, .any), (27, .any), (28, .any), (29, .any), (30, .any), (35, .any), (49, .any)] [((.n 1 0 0), .cells 37 [.int .i64 x4, .int .i64 x5, .int .i64 x6, .int .i64 x7, .int .i64 x8, .int .i64 x9, .int .i64 x10, .int .i64 x11])] 1000 71
noncomputable def S_celluloidref07_PutCx_L2 (x1 : List UInt8) (x2 : Bool) (x3 : Bool) (x4 : List (List PV)) (x5 : Int) (x6 : Int) (x7 : Int) (x8 : Int) (x9 : Int) (x10 : Int) (x11 : Int) (x12 : Int) : St := mkSt [(0, .v (.str x1)), (3, .v (.ptr (.n 1 0 0) 0)), (5, .v (.bool x2)), (6, .v (.bool x3)), (8, .v (.wr (.w 8))), (9, .v (.int .i64 ((0 : Int)))), (35, .any), (49, .any)] [((.w 8), .row 3 x4), ((.n 1 0 0), .cells 37 [.int .i64 x5, .int .i64 x6, .int .i64 x7, .int .i64 x8, .int .i64 x9, .int .i64 x10, .int .i64 x11, .int .i64 x12])] 2000 71
noncomputable def at_celluloidref07_PutCx_L2 : List Item := (atLoop Try.f25 2)
noncomputable def S_celluloidref07_PutCx_L2_1 (x1 : List UInt8) (x2 : Bool) (x3 : Bool) (x4 : List (List PV)) (x5 : Int) (x6 : Int) (x7 : Int) (x8 : Int) (x9 : Int) (x10 : Int) (x11 : Int) (x12 : Int) : St := mkSt [(0, .v (.str x1)), (3, .v (.ptr (.n 1 0 0) 0)), (5, .v (.bool x2)), (6, .v (.bool x3)), (8, .v (.wr (.w 8))), (9, .v (.int .i64 ((1 : Int)))), (35, .any), (49, .any)] [((.w 8), .row 3 x4), ((.n 1 0 0), .cells 37 [.int .i64 x5, .int .i64 x6, .int .i64 x7, .int .i64 x8, .int .i64 x9, .int .i64 x10, .int .i64 x11, .int .i64 x12])] 2000 71
noncomputable def S_celluloidref07_PutCx_L4 (x1 : List UInt8) (x2 : Bool) (x3 : Bool) (x4 : List (List PV)) (x5 : Int) (x6 : Int) (x7 : Int) (x8 : Int) (x9 : Int) (x10 : Int) (x11 : Int) (x12 : Int) : St := mkSt [(0, .v (.str x1)), (3, .v (.ptr (.n 1 0 0) 0)), (5, .v (.bool x2)), (6, .v (.bool x3)), (8, .v (.wr (.w 8))), (10, .v (.int .i64 ((0 : Int)))), (49, .any)] [((.w 8), .row 3 x4), ((.n 1 0 0), .cells 37 [.int .i64 x5, .int .i64 x6, .int .i64 x7, .int .i64 x8, .int .i64 x9, .int .i64 x10, .int .i64 x11, .int .i64 x12])] 3000 71
noncomputable def at_celluloidref07_PutCx_L4 : List Item := (atLoop Try.f25 4)
noncomputable def S_celluloidref07_PutCx_L2_2 (x1 : List UInt8) (x2 : Bool) (x3 : Bool) (x4 : List (List PV)) (x5 : Int) (x6 : Int) (x7 : Int) (x8 : Int) (x9 : Int) (x10 : Int) (x11 : Int) (x12 : Int) : St := mkSt [(0, .v (.str x1)), (3, .v (.ptr (.n 1 0 0) 0)), (5, .v (.bool x2)), (6, .v (.bool x3)), (8, .v (.wr (.w 8))), (9, .v (.int .i64 ((2 : Int)))), (35, .any), (49, .any)] [((.w 8), .row 3 x4), ((.n 1 0 0), .cells 37 [.int .i64 x5, .int .i64 x6, .int .i64 x7, .int .i64 x8, .int .i64 x9, .int .i64 x10, .int .i64 x11, .int .i64 x12])] 2000 71
noncomputable def S_celluloidref07_PutCx_L4_1 (x1 : List UInt8) (x2 : Bool) (x3 : Bool) (x4 : List (List PV)) (x5 : Int) (x6 : Int) (x7 : Int) (x8 : Int) (x9 : Int) (x10 : Int) (x11 : Int) (x12 : Int) : St := mkSt [(0, .v (.str x1)), (3, .v (.ptr (.n 1 0 0) 0)), (5, .v (.bool x2)), (6, .v (.bool x3)), (8, .v (.wr (.w 8))), (10, .v (.int .i64 ((1 : Int)))), (49, .any)] [((.w 8), .row 3 x4), ((.n 1 0 0), .cells 37 [.int .i64 x5, .int .i64 x6, .int .i64 x7, .int .i64 x8, .int .i64 x9, .int .i64 x10, .int .i64 x11, .int .i64 x12])] 3000 71
noncomputable def S_celluloidref07_PutCx_L2_3 (x1 : List UInt8) (x2 : Bool) (x3 : Bool) (x4 : List (List PV)) (x5 : Int) (x6 : Int) (x7 : Int) (x8 : Int) (x9 : Int) (x10 : Int) (x11 : Int) (x12 : Int) : St := mkSt [(0, .v (.str x1)), (3, .v (.ptr (.n 1 0 0) 0)), (5, .v (.bool x2)), (6, .v (.bool x3)), (8, .v (.wr (.w 8))), (9, .v (.int .i64 ((3 : Int)))), (35, .any), (49, .any)] [((.w 8), .row 3 x4), ((.n 1 0 0), .cells 37 [.int .i64 x5, .int .i64 x6, .int .i64 x7, .int .i64 x8, .int .i64 x9, .int .i64 x10, .int .i64 x11, .int .i64 x12])] 2000 71
noncomputable def S_celluloidref07_PutCx_L4_2 (x1 : List UInt8) (x2 : Bool) (x3 : Bool) (x4 : List (List PV)) (x5 : Int) (x6 : Int) (x7 : Int) (x8 : Int) (x9 : Int) (x10 : Int) (x11 : Int) (x12 : Int) : St := mkSt [(0, .v (.str x1)), (3, .v (.ptr (.n 1 0 0) 0)), (5, .v (.bool x2)), (6, .v (.bool x3)), (8, .v (.wr (.w 8))), (10, .v (.int .i64 ((2 : Int)))), (49, .any)] [((.w 8), .row 3 x4), ((.n 1 0 0), .cells 37 [.int .i64 x5, .int .i64 x6, .int .i64 x7, .int .i64 x8, .int .i64 x9, .int .i64 x10, .int .i64 x11, .int .i64 x12])] 3000 71
noncomputable def S_celluloidref07_PutCx_L2_4 (x1 : List UInt8) (x2 : Bool) (x3 : Bool) (x4 : List (List PV)) (x5 : Int) (x6 : Int) (x7 : Int) (x8 : Int) (x9 : Int) (x10 : Int) (x11 : Int) (x12 : Int) : St := mkSt [(0, .v (.str x1)), (3, .v (.ptr (.n 1 0 0) 0)), (5, .v (.bool x2)), (6, .v (.bool x3)), (8, .v (.wr (.w 8))), (9, .v (.int .i64 ((4 : Int)))), (35, .any), (49, .any)] [((.w 8), .row 3 x4), ((.n 1 0 0), .cells 37 [.int .i64 x5, .int .i64 x6, .int .i64 x7, .int .i64 x8, .int .i64 x9, .int .i64 x10, .int .i64 x11, .int .i64 x12])] 2000 71
noncomputable def S_celluloidref07_PutCx_L4_3 (x1 : List UInt8) (x2 : Bool) (x3 : Bool) (x4 : List (List PV)) (x5 : Int) (x6 : Int) (x7 : Int) (x8 : Int) (x9 : Int) (x10 : Int) (x11 : Int) (x12 : Int) : St := mkSt [(0, .v (.str x1)), (3, .v (.ptr (.n 1 0 0) 0)), (5, .v (.bool x2)), (6, .v (.bool x3)), (8, .v (.wr (.w 8))), (10, .v (.int .i64 ((3 : Int)))), (49, .any)] [((.w 8), .row 3 x4), ((.n 1 0 0), .cells 37 [.int .i64 x5, .int .i64 x6, .int .i64 x7, .int .i64 x8, .int .i64 x9, .int .i64 x10, .int .i64 x11, .int .i64 x12])] 3000 71
noncomputable def S_celluloidref07_PutCx_L4_4 (x1 : List UInt8) (x2 : Bool) (x3 : Bool) (x4 : List (List PV)) (x5 : Int) (x6 : Int) (x7 : Int) (x8 : Int) (x9 : Int) (x10 : Int) (x11 : Int) (x12 : Int) : St := mkSt [(0, .v (.str x1)), (3, .v (.ptr (.n 1 0 0) 0)), (5, .v (.bool x2)), (6, .v (.bool x3)), (8, .v (.wr (.w 8))), (10, .v (.int .i64 ((4 : Int)))), (49, .any)] [((.w 8), .row 3 x4), ((.n 1 0 0), .cells 37 [.int .i64 x5, .int .i64 x6, .int .i64 x7, .int .i64 x8, .int .i64 x9, .int .i64 x10, .int .i64 x11, .int .i64 x12])] 3000 71
theorem u_celluloidref07_PutCx (k : Nat) (a1 : List UInt8) (a2 : Int) (a3 : Int) (a4 : Int) (a5 : Int) (a6 : Int) (a7 : Int) (a8 : Int) (a9 : Int) : call (k + 1) f_celluloidref07_PutCx [.s a1, .i a2, .i a3, .i a4, .i a5, .i a6, .i a7, .i a8, .i a9] [] =
  run k f_celluloidref07_PutCx [] at_celluloidref07_PutCx_L0 (S_celluloidref07_PutCx_L0 (a1) (false) (false) (a2) (a3) (a4) (a5) (a6) (a7) (a8) (a9)) := by kernel_rfl
theorem u_celluloidref07_PutCx_L0 (k : Nat) (x1 : List UInt8) (x2 : Bool) (x3 : Bool) (x4 : Int) (x5 : Int) (x6 : Int) (x7 : Int) (x8 : Int) (x9 : Int) (x10 : Int) (x11 : Int) : run (k + 1) f_celluloidref07_PutCx [] at_celluloidref07_PutCx_L0 (S_celluloidref07_PutCx_L0 x1 x2 x3 x4 x5 x6 x7 x8 x9 x10 x11) =
  ((bif x2 then some [(PV.b true)]
   else some [(PV.b (x8 != (0 : Int)))])).bind fun r1 =>
  ((bif x3 then some [(PV.b true)]
   else some [(PV.b (x4 != (256 : Int)))])).bind fun r2 =>
  run k f_celluloidref07_PutCx [] at_celluloidref07_PutCx_L0 (S_celluloidref07_PutCx_L0_1 (x1) (((r1.getD 0 PV.u)).toB) (((r2.getD 0 PV.u)).toB) (x4) (x5) (x6) (x7) (x8) (x9) (x10) (x11)) := by kernel_rfl
theorem u_celluloidref07_PutCx_L0_1 (k : Nat) (x1 : List UInt8) (x2 : Bool) (x3 : Bool) (x4 : Int) (x5 : Int) (x6 : Int) (x7 : Int) (x8 : Int) (x9 : Int) (x10 : Int) (x11 : Int) : run (k + 1) f_celluloidref07_PutCx [] at_celluloidref07_PutCx_L0 (S_celluloidref07_PutCx_L0_1 x1 x2 x3 x4 x5 x6 x7 x8 x9 x10 x11) =
  ((bif x2 then some [(PV.b true)]
   else some [(PV.b (x9 != (0 : Int)))])).bind fun r3 =>
  ((bif x3 then some [(PV.b true)]
   else some [(PV.b (x5 != (256 : Int)))])).bind fun r4 =>
  run k f_celluloidref07_PutCx [] at_celluloidref07_PutCx_L0 (S_celluloidref07_PutCx_L0_2 (x1) (((r3.getD 0 PV.u)).toB) (((r4.getD 0 PV.u)).toB) (x4) (x5) (x6) (x7) (x8) (x9) (x10) (x11)) := by kernel_rfl
theorem u_celluloidref07_PutCx_L0_2 (k : Nat) (x1 : List UInt8) (x2 : Bool) (x3 : Bool) (x4 : Int) (x5 : Int) (x6 : Int) (x7 : Int) (x8 : Int) (x9 : Int) (x10 : Int) (x11 : Int) : run (k + 1) f_celluloidref07_PutCx [] at_celluloidref07_PutCx_L0 (S_celluloidref07_PutCx_L0_2 x1 x2 x3 x4 x5 x6 x7 x8 x9 x10 x11) =
  ((bif x2 then some [(PV.b true)]
   else some [(PV.b (x10 != (0 : Int)))])).bind fun r5 =>
  ((bif x3 then some [(PV.b true)]
   else some [(PV.b (x6 != (256 : Int)))])).bind fun r6 =>
  run k f_celluloidref07_PutCx [] at_celluloidref07_PutCx_L0 (S_celluloidref07_PutCx_L0_3 (x1) (((r5.getD 0 PV.u)).toB) (((r6.getD 0 PV.u)).toB) (x4) (x5) (x6) (x7) (x8) (x9) (x10) (x11)) := by kernel_rfl
theorem u_celluloidref07_PutCx_L0_3 (k : Nat) (x1 : List UInt8) (x2 : Bool) (x3 : Bool) (x4 : Int) (x5 : Int) (x6 : Int) (x7 : Int) (x8 : Int) (x9 : Int) (x10 : Int) (x11 : Int) : run (k + 1) f_celluloidref07_PutCx [] at_celluloidref07_PutCx_L0 (S_celluloidref07_PutCx_L0_3 x1 x2 x3 x4 x5 x6 x7 x8 x9 x10 x11) =
  ((bif x2 then some [(PV.b true)]
   else some [(PV.b (x11 != (0 : Int)))])).bind fun r7 =>
  ((bif x3 then some [(PV.b true)]
   else some [(PV.b (x7 != (256 : Int)))])).bind fun r8 =>
  run k f_celluloidref07_PutCx [] at_celluloidref07_PutCx_L0 (S_celluloidref07_PutCx_L0_4 (x1) (((r7.getD 0 PV.u)).toB) (((r8.getD 0 PV.u)).toB) (x4) (x5) (x6) (x7) (x8) (x9) (x10) (x11)) := by kernel_rfl
theorem u_celluloidref07_PutCx_L0_4 (k : Nat) (x1 : List UInt8) (x2 : Bool) (x3 : Bool) (x4 : Int) (x5 : Int) (x6 : Int) (x7 : Int) (x8 : Int) (x9 : Int) (x10 : Int) (x11 : Int) : run (k + 1) f_celluloidref07_PutCx [] at_celluloidref07_PutCx_L0 (S_celluloidref07_PutCx_L0_4 x1 x2 x3 x4 x5 x6 x7 x8 x9 x10 x11) =
  run k f_celluloidref07_PutCx [] at_celluloidref07_PutCx_L2 (S_celluloidref07_PutCx_L2 (x1) (x2) (x3) ([]) (x4) (x5) (x6) (x7) (x8) (x9) (x10) (x11)) := by kernel_rfl
theorem u_celluloidref07_PutCx_L2 (k : Nat) (x1 : List UInt8) (x2 : Bool) (x3 : Bool) (x4 : List (List PV)) (x5 : Int) (x6 : Int) (x7 : Int) (x8 : Int) (x9 : Int) (x10 : Int) (x11 : Int) (x12 : Int) : run (k + 1) f_celluloidref07_PutCx [] at_celluloidref07_PutCx_L2 (S_celluloidref07_PutCx_L2 x1 x2 x3 x4 x5 x6 x7 x8 x9 x10 x11 x12) =
  (bif x3 then (bif (decide (((((List.length x4) + (List.length (List.set [[(PV.i (0 : Int))]] 0 [(PV.i x5)]))) + 1000) * 9) ≤ 1099511627776)) then run k f_celluloidref07_PutCx [] at_celluloidref07_PutCx_L2 (S_celluloidref07_PutCx_L2_1 (x1) (x2) (x3) ((x4 ++ (List.set [[(PV.i (0 : Int))]] 0 [(PV.i x5)]))) (x5) (x6) (x7) (x8) (x9) (x10) (x11) (x12))
  else none)
  else run k f_celluloidref07_PutCx [] at_celluloidref07_PutCx_L4 (S_celluloidref07_PutCx_L4 (x1) (x2) (x3) (x4) (x5) (x6) (x7) (x8) (x9) (x10) (x11) (x12))) := by kernel_rfl
theorem u_celluloidref07_PutCx_L2_1 (k : Nat) (x1 : List UInt8) (x2 : Bool) (x3 : Bool) (x4 : List (List PV)) (x5 : Int) (x6 : Int) (x7 : Int) (x8 : Int) (x9 : Int) (x10 : Int) (x11 : Int) (x12 : Int) : run (k + 1) f_celluloidref07_PutCx [] at_celluloidref07_PutCx_L2 (S_celluloidref07_PutCx_L2_1 x1 x2 x3 x4 x5 x6 x7 x8 x9 x10 x11 x12) =
  (bif x3 then (bif (decide (((((List.length x4) + (List.length (List.set [[(PV.i (0 : Int))]] 0 [(PV.i x6)]))) + 1000) * 9) ≤ 1099511627776)) then run k f_celluloidref07_PutCx [] at_celluloidref07_PutCx_L2 (S_celluloidref07_PutCx_L2_2 (x1) (x2) (x3) ((x4 ++ (List.set [[(PV.i (0 : Int))]] 0 [(PV.i x6)]))) (x5) (x6) (x7) (x8) (x9) (x10) (x11) (x12))
  else none)
  else run k f_celluloidref07_PutCx [] at_celluloidref07_PutCx_L4 (S_celluloidref07_PutCx_L4 (x1) (x2) (x3) (x4) (x5) (x6) (x7) (x8) (x9) (x10) (x11) (x12))) := by kernel_rfl
theorem u_celluloidref07_PutCx_L4 (k : Nat) (x1 : List UInt8) (x2 : Bool) (x3 : Bool) (x4 : List (List PV)) (x5 : Int) (x6 : Int) (x7 : Int) (x8 : Int) (x9 : Int) (x10 : Int) (x11 : Int) (x12 : Int) : run (k + 1) f_celluloidref07_PutCx [] at_celluloidref07_PutCx_L4 (S_celluloidref07_PutCx_L4 x1 x2 x3 x4 x5 x6 x7 x8 x9 x10 x11 x12) =
  (bif x2 then (bif (decide (((((List.length x4) + (List.length (List.set [[(PV.i (0 : Int))]] 0 [(PV.i x9)]))) + 1000) * 9) ≤ 1099511627776)) then run k f_celluloidref07_PutCx [] at_celluloidref07_PutCx_L4 (S_celluloidref07_PutCx_L4_1 (x1) (x2) (x3) ((x4 ++ (List.set [[(PV.i (0 : Int))]] 0 [(PV.i x9)]))) (x5) (x6) (x7) (x8) (x9) (x10) (x11) (x12))
  else none)
  else (call k f_celluloidref07_flag [(PV.s []), (PV.i (0 : Int)), (PV.b x2)] []).bind fun r9 =>
  (call k f_celluloidref07_flag [(PV.s (((r9).1.getD 0 PV.u)).toS), (PV.i (((r9).1.getD 1 PV.u)).toI), (PV.b x3)] []).bind fun r10 =>
  (call k f_celluloidref07_numbers [(PV.s (((r10).1.getD 0 PV.u)).toS), (PV.i (((r10).1.getD 1 PV.u)).toI), (PV.i (4 : Int)), (PV.l x4)] []).bind fun r11 =>
  (bif (decide (((List.length x1) + (List.length (((r11).1.getD 0 PV.u)).toS)) ≤ 1099511627776)) then some ([(PV.s (x1 ++ (((r11).1.getD 0 PV.u)).toS))], [])
  else none)) := by kernel_rfl
theorem u_celluloidref07_PutCx_L2_2 (k : Nat) (x1 : List UInt8) (x2 : Bool) (x3 : Bool) (x4 : List (List PV)) (x5 : Int) (x6 : Int) (x7 : Int) (x8 : Int) (x9 : Int) (x10 : Int) (x11 : Int) (x12 : Int) : run (k + 1) f_celluloidref07_PutCx [] at_celluloidref07_PutCx_L2 (S_celluloidref07_PutCx_L2_2 x1 x2 x3 x4 x5 x6 x7 x8 x9 x10 x11 x12) =
  (bif x3 then (bif (decide (((((List.length x4) + (List.length (List.set [[(PV.i (0 : Int))]] 0 [(PV.i x7)]))) + 1000) * 9) ≤ 1099511627776)) then run k f_celluloidref07_PutCx [] at_celluloidref07_PutCx_L2 (S_celluloidref07_PutCx_L2_3 (x1) (x2) (x3) ((x4 ++ (List.set [[(PV.i (0 : Int))]] 0 [(PV.i x7)]))) (x5) (x6) (x7) (x8) (x9) (x10) (x11) (x12))
  else none)
  else run k f_celluloidref07_PutCx [] at_celluloidref07_PutCx_L4 (S_celluloidref07_PutCx_L4 (x1) (x2) (x3) (x4) (x5) (x6) (x7) (x8) (x9) (x10) (x11) (x12))) := by kernel_rfl
theorem u_celluloidref07_PutCx_L4_1 (k : Nat) (x1 : List UInt8) (x2 : Bool) (x3 : Bool) (x4 : List (List PV)) (x5 : Int) (x6 : Int) (x7 : Int) (x8 : Int) (x9 : Int) (x10 : Int) (x11 : Int) (x12 : Int) : run (k + 1) f_celluloidref07_PutCx [] at_celluloidref07_PutCx_L4 (S_celluloidref07_PutCx_L4_1 x1 x2 x3 x4 x5 x6 x7 x8 x9 x10 x11 x12) =
  (bif x2 then (bif (decide (((((List.length x4) + (List.length (List.set [[(PV.i (0 : Int))]] 0 [(PV.i x10)]))) + 1000) * 9) ≤ 1099511627776)) then run k f_celluloidref07_PutCx [] at_celluloidref07_PutCx_L4 (S_celluloidref07_PutCx_L4_2 (x1) (x2) (x3) ((x4 ++ (List.set [[(PV.i (0 : Int))]] 0 [(PV.i x10)]))) (x5) (x6) (x7) (x8) (x9) (x10) (x11) (x12))
  else none)
  else (call k f_celluloidref07_flag [(PV.s []), (PV.i (0 : Int)), (PV.b x2)] []).bind fun r12 =>
  (call k f_celluloidref07_flag [(PV.s (((r12).1.getD 0 PV.u)).toS), (PV.i (((r12).1.getD 1 PV.u)).toI), (PV.b x3)] []).bind fun r13 =>
  (call k f_celluloidref07_numbers [(PV.s (((r13).1.getD 0 PV.u)).toS), (PV.i (((r13).1.getD 1 PV.u)).toI), (PV.i (4 : Int)), (PV.l x4)] []).bind fun r14 =>
  (bif (decide (((List.length x1) + (List.length (((r14).1.getD 0 PV.u)).toS)) ≤ 1099511627776)) then some ([(PV.s (x1 ++ (((r14).1.getD 0 PV.u)).toS))], [])
  else none)) := by kernel_rfl
theorem u_celluloidref07_PutCx_L2_3 (k : Nat) (x1 : List UInt8) (x2 : Bool) (x3 : Bool) (x4 : List (List PV)) (x5 : Int) (x6 : Int) (x7 : Int) (x8 : Int) (x9 : Int) (x10 : Int) (x11 : Int) (x12 : Int) : run (k + 1) f_celluloidref07_PutCx [] at_celluloidref07_PutCx_L2 (S_celluloidref07_PutCx_L2_3 x1 x2 x3 x4 x5 x6 x7 x8 x9 x10 x11 x12) =
  (bif x3 then (bif (decide (((((List.length x4) + (List.length (List.set [[(PV.i (0 : Int))]] 0 [(PV.i x8)]))) + 1000) * 9) ≤ 1099511627776)) then run k f_celluloidref07_PutCx [] at_celluloidref07_PutCx_L2 (S_celluloidref07_PutCx_L2_4 (x1) (x2) (x3) ((x4 ++ (List.set [[(PV.i (0 : Int))]] 0 [(PV.i x8)]))) (x5) (x6) (x7) (x8) (x9) (x10) (x11) (x12))
  else none)
  else run k f_celluloidref07_PutCx [] at_celluloidref07_PutCx_L4 (S_celluloidref07_PutCx_L4 (x1) (x2) (x3) (x4) (x5) (x6) (x7) (x8) (x9) (x10) (x11) (x12))) := by kernel_rfl
theorem u_celluloidref07_PutCx_L4_2 (k : Nat) (x1 : List UInt8) (x2 : Bool) (x3 : Bool) (x4 : List (List PV)) (x5 : Int) (x6 : Int) (x7 : Int) (x8 : Int) (x9 : Int) (x10 : Int) (x11 : Int) (x12 : Int) : run (k + 1) f_celluloidref07_PutCx [] at_celluloidref07_PutCx_L4 (S_celluloidref07_PutCx_L4_2 x1 x2 x3 x4 x5 x6 x7 x8 x9 x10 x11 x12) =
  (bif x2 then (bif (decide (((((List.length x4) + (List.length (List.set [[(PV.i (0 : Int))]] 0 [(PV.i x11)]))) + 1000) * 9) ≤ 1099511627776)) then run k f_celluloidref07_PutCx [] at_celluloidref07_PutCx_L4 (S_celluloidref07_PutCx_L4_3 (x1) (x2) (x3) ((x4 ++ (List.set [[(PV.i (0 : Int))]] 0 [(PV.i x11)]))) (x5) (x6) (x7) (x8) (x9) (x10) (x11) (x12))
  else none)
  else (call k f_celluloidref07_flag [(PV.s []), (PV.i (0 : Int)), (PV.b x2)] []).bind fun r15 =>
  (call k f_celluloidref07_flag [(PV.s (((r15).1.getD 0 PV.u)).toS), (PV.i (((r15).1.getD 1 PV.u)).toI), (PV.b x3)] []).bind fun r16 =>
  (call k f_celluloidref07_numbers [(PV.s (((r16).1.getD 0 PV.u)).toS), (PV.i (((r16).1.getD 1 PV.u)).toI), (PV.i (4 : Int)), (PV.l x4)] []).bind fun r17 =>
  (bif (decide (((List.length x1) + (List.length (((r17).1.getD 0 PV.u)).toS)) ≤ 1099511627776)) then some ([(PV.s (x1 ++ (((r17).1.getD 0 PV.u)).toS))], [])
  else none)) := by kernel_rfl
theorem u_celluloidref07_PutCx_L2_4 (k : Nat) (x1 : List UInt8) (x2 : Bool) (x3 : Bool) (x4 : List (List PV)) (x5 : Int) (x6 : Int) (x7 : Int) (x8 : Int) (x9 : Int) (x10 : Int) (x11 : Int) (x12 : Int) : run (k + 1) f_celluloidref07_PutCx [] at_celluloidref07_PutCx_L2 (S_celluloidref07_PutCx_L2_4 x1 x2 x3 x4 x5 x6 x7 x8 x9 x10 x11 x12) =
  run k f_celluloidref07_PutCx [] at_celluloidref07_PutCx_L4 (S_celluloidref07_PutCx_L4 (x1) (x2) (x3) (x4) (x5) (x6) (x7) (x8) (x9) (x10) (x11) (x12)) := by kernel_rfl
theorem u_celluloidref07_PutCx_L4_3 (k : Nat) (x1 : List UInt8) (x2 : Bool) (x3 : Bool) (x4 : List (List PV)) (x5 : Int) (x6 : Int) (x7 : Int) (x8 : Int) (x9 : Int) (x10 : Int) (x11 : Int) (x12 : Int) : run (k + 1) f_celluloidref07_PutCx [] at_celluloidref07_PutCx_L4 (S_celluloidref07_PutCx_L4_3 x1 x2 x3 x4 x5 x6 x7 x8 x9 x10 x11 x12) =
  (bif x2 then (bif (decide (((((List.length x4) + (List.length (List.set [[(PV.i (0 : Int))]] 0 [(PV.i x12)]))) + 1000) * 9) ≤ 1099511627776)) then run k f_celluloidref07_PutCx [] at_celluloidref07_PutCx_L4 (S_celluloidref07_PutCx_L4_4 (x1) (x2) (x3) ((x4 ++ (List.set [[(PV.i (0 : Int))]] 0 [(PV.i x12)]))) (x5) (x6) (x7) (x8) (x9) (x10) (x11) (x12))
  else none)
  else (call k f_celluloidref07_flag [(PV.s []), (PV.i (0 : Int)), (PV.b x2)] []).bind fun r18 =>
  (call k f_celluloidref07_flag [(PV.s (((r18).1.getD 0 PV.u)).toS), (PV.i (((r18).1.getD 1 PV.u)).toI), (PV.b x3)] []).bind fun r19 =>
  (call k f_celluloidref07_numbers [(PV.s (((r19).1.getD 0 PV.u)).toS), (PV.i (((r19).1.getD 1 PV.u)).toI), (PV.i (4 : Int)), (PV.l x4)] []).bind fun r20 =>
  (bif (decide (((List.length x1) + (List.length (((r20).1.getD 0 PV.u)).toS)) ≤ 1099511627776)) then some ([(PV.s (x1 ++ (((r20).1.getD 0 PV.u)).toS))], [])
  else none)) := by kernel_rfl
theorem u_celluloidref07_PutCx_L4_4 (k : Nat) (x1 : List UInt8) (x2 : Bool) (x3 : Bool) (x4 : List (List PV)) (x5 : Int) (x6 : Int) (x7 : Int) (x8 : Int) (x9 : Int) (x10 : Int) (x11 : Int) (x12 : Int) : run (k + 1) f_celluloidref07_PutCx [] at_celluloidref07_PutCx_L4 (S_celluloidref07_PutCx_L4_4 x1 x2 x3 x4 x5 x6 x7 x8 x9 x10 x11 x12) =
  (call k f_celluloidref07_flag [(PV.s []), (PV.i (0 : Int)), (PV.b x2)] []).bind fun r21 =>
  (call k f_celluloidref07_flag [(PV.s (((r21).1.getD 0 PV.u)).toS), (PV.i (((r21).1.getD 1 PV.u)).toI), (PV.b x3)] []).bind fun r22 =>
  (call k f_celluloidref07_numbers [(PV.s (((r22).1.getD 0 PV.u)).toS), (PV.i (((r22).1.getD 1 PV.u)).toI), (PV.i (4 : Int)), (PV.l x4)] []).bind fun r23 =>
  (bif (decide (((List.length x1) + (List.length (((r23).1.getD 0 PV.u)).toS)) ≤ 1099511627776)) then some ([(PV.s (x1 ++ (((r23).1.getD 0 PV.u)).toS))], [])
  else none) := by kernel_rfl
/- celluloid/celluloidref07.PutRGBA -/
theorem u_celluloidref07_PutRGBA (k : Nat) (a1 : List UInt8) (a2 : Int) (a3 : Int) (a4 : Int) (a5 : Int) : call (k + 1) f_celluloidref07_PutRGBA [.s a1, .i a2, .i a3, .i a4, .i a5] [] =
  (bif (decide (((List.length a1) + (List.length (Go.AI.toBytes (List.set (List.set (List.set (List.set [[(PV.i (0 : Int))], [(PV.i (0 : Int))], [(PV.i (0 : Int))], [(PV.i (0 : Int))]] 0 [(PV.i (Go.IntKind.wrap .u8 a2))]) 1 [(PV.i (Go.IntKind.wrap .u8 a3))]) 2 [(PV.i (Go.IntKind.wrap .u8 a4))]) 3 [(PV.i (Go.IntKind.wrap .u8 a5))])))) ≤ 1099511627776)) then some ([(PV.s (a1 ++ (Go.AI.toBytes (List.set (List.set (List.set (List.set [[(PV.i (0 : Int))], [(PV.i (0 : Int))], [(PV.i (0 : Int))], [(PV.i (0 : Int))]] 0 [(PV.i (Go.IntKind.wrap .u8 a2))]) 1 [(PV.i (Go.IntKind.wrap .u8 a3))]) 2 [(PV.i (Go.IntKind.wrap .u8 a4))]) 3 [(PV.i (Go.IntKind.wrap .u8 a5))]))))], [])
  else none) := by kernel_rfl
/- celluloid/field.TakeRect -/
theorem u_field_TakeRect (k : Nat) (a1 : List UInt8) (a2 : Int) : call (k + 1) f_field_TakeRect [.s a1, .i a2] [] =
  (call k f_field_begin [(PV.s a1), (PV.i a2)] []).bind fun r1 =>
  (call k f___celluloid_field_reader__plain [PV.u, (PV.i (5 : Int))] [(t_field_reader, [(PV.s (((((r1).2.getD 0 (0, []))).2.getD 0 PV.u)).toS), (PV.i (((((r1).2.getD 0 (0, []))).2.getD 1 PV.u)).toI), (PV.i (((((r1).2.getD 0 (0, []))).2.getD 2 PV.u)).toI)])]).bind fun r2 =>
  (call k f___celluloid_field_reader__signed [PV.u, (PV.i (((r2).1.getD 0 PV.u)).toI)] [(t_field_reader, [(PV.s (((((r2).2.getD 0 (0, []))).2.getD 0 PV.u)).toS), (PV.i (((((r2).2.getD 0 (0, []))).2.getD 1 PV.u)).toI), (PV.i (((((r2).2.getD 0 (0, []))).2.getD 2 PV.u)).toI)])]).bind fun r3 =>
  (call k f___celluloid_field_reader__signed [PV.u, (PV.i (((r2).1.getD 0 PV.u)).toI)] [(t_field_reader, [(PV.s (((((r3).2.getD 0 (0, []))).2.getD 0 PV.u)).toS), (PV.i (((((r3).2.getD 0 (0, []))).2.getD 1 PV.u)).toI), (PV.i (((((r3).2.getD 0 (0, []))).2.getD 2 PV.u)).toI)])]).bind fun r4 =>
  (call k f___celluloid_field_reader__signed [PV.u, (PV.i (((r2).1.getD 0 PV.u)).toI)] [(t_field_reader, [(PV.s (((((r4).2.getD 0 (0, []))).2.getD 0 PV.u)).toS), (PV.i (((((r4).2.getD 0 (0, []))).2.getD 1 PV.u)).toI), (PV.i (((((r4).2.getD 0 (0, []))).2.getD 2 PV.u)).toI)])]).bind fun r5 =>
  (call k f___celluloid_field_reader__signed [PV.u, (PV.i (((r2).1.getD 0 PV.u)).toI)] [(t_field_reader, [(PV.s (((((r5).2.getD 0 (0, []))).2.getD 0 PV.u)).toS), (PV.i (((((r5).2.getD 0 (0, []))).2.getD 1 PV.u)).toI), (PV.i (((((r5).2.getD 0 (0, []))).2.getD 2 PV.u)).toI)])]).bind fun r6 =>
  (call k f_field_RightRect [(PV.i (((r3).1.getD 0 PV.u)).toI), (PV.i (((r4).1.getD 0 PV.u)).toI), (PV.i (((r5).1.getD 0 PV.u)).toI), (PV.i (((r6).1.getD 0 PV.u)).toI)] []).bind fun r7 =>
  (call k f___celluloid_field_reader__done [PV.u, (PV.b (((r7).1.getD 0 PV.u)).toB)] [(t_field_reader, [(PV.s (((((r6).2.getD 0 (0, []))).2.getD 0 PV.u)).toS), (PV.i (((((r6).2.getD 0 (0, []))).2.getD 1 PV.u)).toI), (PV.i (((((r6).2.getD 0 (0, []))).2.getD 2 PV.u)).toI)])]).bind fun r8 =>
  (bif ((((r8).1.getD 2 PV.u)).toI != (0 : Int)) then some ([(PV.i (0 : Int)), (PV.i (0 : Int)), (PV.i (0 : Int)), (PV.i (0 : Int)), (PV.s (((r8).1.getD 0 PV.u)).toS), (PV.i (((r8).1.getD 1 PV.u)).toI), (PV.i (((r8).1.getD 2 PV.u)).toI)], [])
  else some ([(PV.i (((r3).1.getD 0 PV.u)).toI), (PV.i (((r4).1.getD 0 PV.u)).toI), (PV.i (((r5).1.getD 0 PV.u)).toI), (PV.i (((r6).1.getD 0 PV.u)).toI), (PV.s (((r8).1.getD 0 PV.u)).toS), (PV.i (((r8).1.getD 1 PV.u)).toI), (PV.i (0 : Int))], [])) := by kernel_rfl
/- celluloid/field.TakeMatrix -/
theorem u_field_TakeMatrix (k : Nat) (a1 : List UInt8) (a2 : Int) : call (k + 1) f_field_TakeMatrix [.s a1, .i a2] [] =
  (call k f_field_begin [(PV.s a1), (PV.i a2)] []).bind fun r1 =>
  (call k f_field_Same [] []).bind fun r2 =>
  (call k f___celluloid_field_reader__plain [PV.u, (PV.i (1 : Int))] [(t_field_reader, [(PV.s (((((r1).2.getD 0 (0, []))).2.getD 0 PV.u)).toS), (PV.i (((((r1).2.getD 0 (0, []))).2.getD 1 PV.u)).toI), (PV.i (((((r1).2.getD 0 (0, []))).2.getD 2 PV.u)).toI)])]).bind fun r3 =>
  (bif ((((r3).1.getD 0 PV.u)).toI == (1 : Int)) then (call k f___celluloid_field_reader__plain [PV.u, (PV.i (5 : Int))] [(t_field_reader, [(PV.s (((((r3).2.getD 0 (0, []))).2.getD 0 PV.u)).toS), (PV.i (((((r3).2.getD 0 (0, []))).2.getD 1 PV.u)).toI), (PV.i (((((r3).2.getD 0 (0, []))).2.getD 2 PV.u)).toI)])]).bind fun r4 =>
  (call k f___celluloid_field_reader__signed [PV.u, (PV.i (((r4).1.getD 0 PV.u)).toI)] [(t_field_reader, [(PV.s (((((r4).2.getD 0 (0, []))).2.getD 0 PV.u)).toS), (PV.i (((((r4).2.getD 0 (0, []))).2.getD 1 PV.u)).toI), (PV.i (((((r4).2.getD 0 (0, []))).2.getD 2 PV.u)).toI)])]).bind fun r5 =>
  (call k f___celluloid_field_reader__signed [PV.u, (PV.i (((r4).1.getD 0 PV.u)).toI)] [(t_field_reader, [(PV.s (((((r5).2.getD 0 (0, []))).2.getD 0 PV.u)).toS), (PV.i (((((r5).2.getD 0 (0, []))).2.getD 1 PV.u)).toI), (PV.i (((((r5).2.getD 0 (0, []))).2.getD 2 PV.u)).toI)])]).bind fun r6 =>
  (call k f___celluloid_field_reader__plain [PV.u, (PV.i (1 : Int))] [(t_field_reader, [(PV.s (((((r6).2.getD 0 (0, []))).2.getD 0 PV.u)).toS), (PV.i (((((r6).2.getD 0 (0, []))).2.getD 1 PV.u)).toI), (PV.i (((((r6).2.getD 0 (0, []))).2.getD 2 PV.u)).toI)])]).bind fun r7 =>
  (bif ((((r7).1.getD 0 PV.u)).toI == (1 : Int)) then (call k f___celluloid_field_reader__plain [PV.u, (PV.i (5 : Int))] [(t_field_reader, [(PV.s (((((r7).2.getD 0 (0, []))).2.getD 0 PV.u)).toS), (PV.i (((((r7).2.getD 0 (0, []))).2.getD 1 PV.u)).toI), (PV.i (((((r7).2.getD 0 (0, []))).2.getD 2 PV.u)).toI)])]).bind fun r8 =>
  (call k f___celluloid_field_reader__signed [PV.u, (PV.i (((r8).1.getD 0 PV.u)).toI)] [(t_field_reader, [(PV.s (((((r8).2.getD 0 (0, []))).2.getD 0 PV.u)).toS), (PV.i (((((r8).2.getD 0 (0, []))).2.getD 1 PV.u)).toI), (PV.i (((((r8).2.getD 0 (0, []))).2.getD 2 PV.u)).toI)])]).bind fun r9 =>
  (call k f___celluloid_field_reader__signed [PV.u, (PV.i (((r8).1.getD 0 PV.u)).toI)] [(t_field_reader, [(PV.s (((((r9).2.getD 0 (0, []))).2.getD 0 PV.u)).toS), (PV.i (((((r9).2.getD 0 (0, []))).2.getD 1 PV.u)).toI), (PV.i (((((r9).2.getD 0 (0, []))).2.getD 2 PV.u)).toI)])]).bind fun r10 =>
  (call k f___celluloid_field_reader__plain [PV.u, (PV.i (5 : Int))] [(t_field_reader, [(PV.s (((((r10).2.getD 0 (0, []))).2.getD 0 PV.u)).toS), (PV.i (((((r10).2.getD 0 (0, []))).2.getD 1 PV.u)).toI), (PV.i (((((r10).2.getD 0 (0, []))).2.getD 2 PV.u)).toI)])]).bind fun r11 =>
  (call k f___celluloid_field_reader__signed [PV.u, (PV.i (((r11).1.getD 0 PV.u)).toI)] [(t_field_reader, [(PV.s (((((r11).2.getD 0 (0, []))).2.getD 0 PV.u)).toS), (PV.i (((((r11).2.getD 0 (0, []))).2.getD 1 PV.u)).toI), (PV.i (((((r11).2.getD 0 (0, []))).2.getD 2 PV.u)).toI)])]).bind fun r12 =>
  (call k f___celluloid_field_reader__signed [PV.u, (PV.i (((r11).1.getD 0 PV.u)).toI)] [(t_field_reader, [(PV.s (((((r12).2.getD 0 (0, []))).2.getD 0 PV.u)).toS), (PV.i (((((r12).2.getD 0 (0, []))).2.getD 1 PV.u)).toI), (PV.i (((((r12).2.getD 0 (0, []))).2.getD 2 PV.u)).toI)])]).bind fun r13 =>
  (call k f_field_RightMatrix [(PV.i (((r5).1.getD 0 PV.u)).toI), (PV.i (((r9).1.getD 0 PV.u)).toI), (PV.i (((r10).1.getD 0 PV.u)).toI), (PV.i (((r6).1.getD 0 PV.u)).toI), (PV.i (((r12).1.getD 0 PV.u)).toI), (PV.i (((r13).1.getD 0 PV.u)).toI)] []).bind fun r14 =>
  (call k f___celluloid_field_reader__done [PV.u, (PV.b (((r14).1.getD 0 PV.u)).toB)] [(t_field_reader, [(PV.s (((((r13).2.getD 0 (0, []))).2.getD 0 PV.u)).toS), (PV.i (((((r13).2.getD 0 (0, []))).2.getD 1 PV.u)).toI), (PV.i (((((r13).2.getD 0 (0, []))).2.getD 2 PV.u)).toI)])]).bind fun r15 =>
  (bif ((((r15).1.getD 2 PV.u)).toI != (0 : Int)) then some ([(PV.i (0 : Int)), (PV.i (0 : Int)), (PV.i (0 : Int)), (PV.i (0 : Int)), (PV.i (0 : Int)), (PV.i (0 : Int)), (PV.s (((r15).1.getD 0 PV.u)).toS), (PV.i (((r15).1.getD 1 PV.u)).toI), (PV.i (((r15).1.getD 2 PV.u)).toI)], [])
  else some ([(PV.i (((r5).1.getD 0 PV.u)).toI), (PV.i (((r9).1.getD 0 PV.u)).toI), (PV.i (((r10).1.getD 0 PV.u)).toI), (PV.i (((r6).1.getD 0 PV.u)).toI), (PV.i (((r12).1.getD 0 PV.u)).toI), (PV.i (((r13).1.getD 0 PV.u)).toI), (PV.s (((r15).1.getD 0 PV.u)).toS), (PV.i (((r15).1.getD 1 PV.u)).toI), (PV.i (0 : Int))], []))
  else (call k f___celluloid_field_reader__plain [PV.u, (PV.i (5 : Int))] [(t_field_reader, [(PV.s (((((r7).2.getD 0 (0, []))).2.getD 0 PV.u)).toS), (PV.i (((((r7).2.getD 0 (0, []))).2.getD 1 PV.u)).toI), (PV.i (((((r7).2.getD 0 (0, []))).2.getD 2 PV.u)).toI)])]).bind fun r16 =>
  (call k f___celluloid_field_reader__signed [PV.u, (PV.i (((r16).1.getD 0 PV.u)).toI)] [(t_field_reader, [(PV.s (((((r16).2.getD 0 (0, []))).2.getD 0 PV.u)).toS), (PV.i (((((r16).2.getD 0 (0, []))).2.getD 1 PV.u)).toI), (PV.i (((((r16).2.getD 0 (0, []))).2.getD 2 PV.u)).toI)])]).bind fun r17 =>
  (call k f___celluloid_field_reader__signed [PV.u, (PV.i (((r16).1.getD 0 PV.u)).toI)] [(t_field_reader, [(PV.s (((((r17).2.getD 0 (0, []))).2.getD 0 PV.u)).toS), (PV.i (((((r17).2.getD 0 (0, []))).2.getD 1 PV.u)).toI), (PV.i (((((r17).2.getD 0 (0, []))).2.getD 2 PV.u)).toI)])]).bind fun r18 =>
  (call k f_field_RightMatrix [(PV.i (((r5).1.getD 0 PV.u)).toI), (PV.i (((r2).1.getD 1 PV.u)).toI), (PV.i (((r2).1.getD 2 PV.u)).toI), (PV.i (((r6).1.getD 0 PV.u)).toI), (PV.i (((r17).1.getD 0 PV.u)).toI), (PV.i (((r18).1.getD 0 PV.u)).toI)] []).bind fun r19 =>
  (call k f___celluloid_field_reader__done [PV.u, (PV.b (((r19).1.getD 0 PV.u)).toB)] [(t_field_reader, [(PV.s (((((r18).2.getD 0 (0, []))).2.getD 0 PV.u)).toS), (PV.i (((((r18).2.getD 0 (0, []))).2.getD 1 PV.u)).toI), (PV.i (((((r18).2.getD 0 (0, []))).2.getD 2 PV.u)).toI)])]).bind fun r20 =>
  (bif ((((r20).1.getD 2 PV.u)).toI != (0 : Int)) then some ([(PV.i (0 : Int)), (PV.i (0 : Int)), (PV.i (0 : Int)), (PV.i (0 : Int)), (PV.i (0 : Int)), (PV.i (0 : Int)), (PV.s (((r20).1.getD 0 PV.u)).toS), (PV.i (((r20).1.getD 1 PV.u)).toI), (PV.i (((r20).1.getD 2 PV.u)).toI)], [])
  else some ([(PV.i (((r5).1.getD 0 PV.u)).toI), (PV.i (((r2).1.getD 1 PV.u)).toI), (PV.i (((r2).1.getD 2 PV.u)).toI), (PV.i (((r6).1.getD 0 PV.u)).toI), (PV.i (((r17).1.getD 0 PV.u)).toI), (PV.i (((r18).1.getD 0 PV.u)).toI), (PV.s (((r20).1.getD 0 PV.u)).toS), (PV.i (((r20).1.getD 1 PV.u)).toI), (PV.i (0 : Int))], [])))
  else (call k f___celluloid_field_reader__plain [PV.u, (PV.i (1 : Int))] [(t_field_reader, [(PV.s (((((r3).2.getD 0 (0, []))).2.getD 0 PV.u)).toS), (PV.i (((((r3).2.getD 0 (0, []))).2.getD 1 PV.u)).toI), (PV.i (((((r3).2.getD 0 (0, []))).2.getD 2 PV.u)).toI)])]).bind fun r21 =>
  (bif ((((r21).1.getD 0 PV.u)).toI == (1 : Int)) then (call k f___celluloid_field_reader__plain [PV.u, (PV.i (5 : Int))] [(t_field_reader, [(PV.s (((((r21).2.getD 0 (0, []))).2.getD 0 PV.u)).toS), (PV.i (((((r21).2.getD 0 (0, []))).2.getD 1 PV.u)).toI), (PV.i (((((r21).2.getD 0 (0, []))).2.getD 2 PV.u)).toI)])]).bind fun r22 =>
  (call k f___celluloid_field_reader__signed [PV.u, (PV.i (((r22).1.getD 0 PV.u)).toI)] [(t_field_reader, [(PV.s (((((r22).2.getD 0 (0, []))).2.getD 0 PV.u)).toS), (PV.i (((((r22).2.getD 0 (0, []))).2.getD 1 PV.u)).toI), (PV.i (((((r22).2.getD 0 (0, []))).2.getD 2 PV.u)).toI)])]).bind fun r23 =>
  (call k f___celluloid_field_reader__signed [PV.u, (PV.i (((r22).1.getD 0 PV.u)).toI)] [(t_field_reader, [(PV.s (((((r23).2.getD 0 (0, []))).2.getD 0 PV.u)).toS), (PV.i (((((r23).2.getD 0 (0, []))).2.getD 1 PV.u)).toI), (PV.i (((((r23).2.getD 0 (0, []))).2.getD 2 PV.u)).toI)])]).bind fun r24 =>
  (call k f___celluloid_field_reader__plain [PV.u, (PV.i (5 : Int))] [(t_field_reader, [(PV.s (((((r24).2.getD 0 (0, []))).2.getD 0 PV.u)).toS), (PV.i (((((r24).2.getD 0 (0, []))).2.getD 1 PV.u)).toI), (PV.i (((((r24).2.getD 0 (0, []))).2.getD 2 PV.u)).toI)])]).bind fun r25 =>
  (call k f___celluloid_field_reader__signed [PV.u, (PV.i (((r25).1.getD 0 PV.u)).toI)] [(t_field_reader, [(PV.s (((((r25).2.getD 0 (0, []))).2.getD 0 PV.u)).toS), (PV.i (((((r25).2.getD 0 (0, []))).2.getD 1 PV.u)).toI), (PV.i (((((r25).2.getD 0 (0, []))).2.getD 2 PV.u)).toI)])]).bind fun r26 =>
  (call k f___celluloid_field_reader__signed [PV.u, (PV.i (((r25).1.getD 0 PV.u)).toI)] [(t_field_reader, [(PV.s (((((r26).2.getD 0 (0, []))).2.getD 0 PV.u)).toS), (PV.i (((((r26).2.getD 0 (0, []))).2.getD 1 PV.u)).toI), (PV.i (((((r26).2.getD 0 (0, []))).2.getD 2 PV.u)).toI)])]).bind fun r27 =>
  (call k f_field_RightMatrix [(PV.i (((r2).1.getD 0 PV.u)).toI), (PV.i (((r23).1.getD 0 PV.u)).toI), (PV.i (((r24).1.getD 0 PV.u)).toI), (PV.i (((r2).1.getD 3 PV.u)).toI), (PV.i (((r26).1.getD 0 PV.u)).toI), (PV.i (((r27).1.getD 0 PV.u)).toI)] []).bind fun r28 =>
  (call k f___celluloid_field_reader__done [PV.u, (PV.b (((r28).1.getD 0 PV.u)).toB)] [(t_field_reader, [(PV.s (((((r27).2.getD 0 (0, []))).2.getD 0 PV.u)).toS), (PV.i (((((r27).2.getD 0 (0, []))).2.getD 1 PV.u)).toI), (PV.i (((((r27).2.getD 0 (0, []))).2.getD 2 PV.u)).toI)])]).bind fun r29 =>
  (bif ((((r29).1.getD 2 PV.u)).toI != (0 : Int)) then some ([(PV.i (0 : Int)), (PV.i (0 : Int)), (PV.i (0 : Int)), (PV.i (0 : Int)), (PV.i (0 : Int)), (PV.i (0 : Int)), (PV.s (((r29).1.getD 0 PV.u)).toS), (PV.i (((r29).1.getD 1 PV.u)).toI), (PV.i (((r29).1.getD 2 PV.u)).toI)], [])
  else some ([(PV.i (((r2).1.getD 0 PV.u)).toI), (PV.i (((r23).1.getD 0 PV.u)).toI), (PV.i (((r24).1.getD 0 PV.u)).toI), (PV.i (((r2).1.getD 3 PV.u)).toI), (PV.i (((r26).1.getD 0 PV.u)).toI), (PV.i (((r27).1.getD 0 PV.u)).toI), (PV.s (((r29).1.getD 0 PV.u)).toS), (PV.i (((r29).1.getD 1 PV.u)).toI), (PV.i (0 : Int))], []))
  else (call k f___celluloid_field_reader__plain [PV.u, (PV.i (5 : Int))] [(t_field_reader, [(PV.s (((((r21).2.getD 0 (0, []))).2.getD 0 PV.u)).toS), (PV.i (((((r21).2.getD 0 (0, []))).2.getD 1 PV.u)).toI), (PV.i (((((r21).2.getD 0 (0, []))).2.getD 2 PV.u)).toI)])]).bind fun r30 =>
  (call k f___celluloid_field_reader__signed [PV.u, (PV.i (((r30).1.getD 0 PV.u)).toI)] [(t_field_reader, [(PV.s (((((r30).2.getD 0 (0, []))).2.getD 0 PV.u)).toS), (PV.i (((((r30).2.getD 0 (0, []))).2.getD 1 PV.u)).toI), (PV.i (((((r30).2.getD 0 (0, []))).2.getD 2 PV.u)).toI)])]).bind fun r31 =>
  (call k f___celluloid_field_reader__signed [PV.u, (PV.i (((r30).1.getD 0 PV.u)).toI)] [(t_field_reader, [(PV.s (((((r31).2.getD 0 (0, []))).2.getD 0 PV.u)).toS), (PV.i (((((r31).2.getD 0 (0, []))).2.getD 1 PV.u)).toI), (PV.i (((((r31).2.getD 0 (0, []))).2.getD 2 PV.u)).toI)])]).bind fun r32 =>
  (call k f_field_RightMatrix [(PV.i (((r2).1.getD 0 PV.u)).toI), (PV.i (((r2).1.getD 1 PV.u)).toI), (PV.i (((r2).1.getD 2 PV.u)).toI), (PV.i (((r2).1.getD 3 PV.u)).toI), (PV.i (((r31).1.getD 0 PV.u)).toI), (PV.i (((r32).1.getD 0 PV.u)).toI)] []).bind fun r33 =>
  (call k f___celluloid_field_reader__done [PV.u, (PV.b (((r33).1.getD 0 PV.u)).toB)] [(t_field_reader, [(PV.s (((((r32).2.getD 0 (0, []))).2.getD 0 PV.u)).toS), (PV.i (((((r32).2.getD 0 (0, []))).2.getD 1 PV.u)).toI), (PV.i (((((r32).2.getD 0 (0, []))).2.getD 2 PV.u)).toI)])]).bind fun r34 =>
  (bif ((((r34).1.getD 2 PV.u)).toI != (0 : Int)) then some ([(PV.i (0 : Int)), (PV.i (0 : Int)), (PV.i (0 : Int)), (PV.i (0 : Int)), (PV.i (0 : Int)), (PV.i (0 : Int)), (PV.s (((r34).1.getD 0 PV.u)).toS), (PV.i (((r34).1.getD 1 PV.u)).toI), (PV.i (((r34).1.getD 2 PV.u)).toI)], [])
  else some ([(PV.i (((r2).1.getD 0 PV.u)).toI), (PV.i (((r2).1.getD 1 PV.u)).toI), (PV.i (((r2).1.getD 2 PV.u)).toI), (PV.i (((r2).1.getD 3 PV.u)).toI), (PV.i (((r31).1.getD 0 PV.u)).toI), (PV.i (((r32).1.getD 0 PV.u)).toI), (PV.s (((r34).1.getD 0 PV.u)).toS), (PV.i (((r34).1.getD 1 PV.u)).toI), (PV.i (0 : Int))], [])))) := by kernel_rfl
/- celluloid/field.TakeCx -/
noncomputable def S_field_TakeCx_L0 (x1 : Bool) (x2 : Bool) (x3 : Int) (x4 : Int) (x5 : Int) (x6 : Int) (x7 : Int) (x8 : Int) (x9 : Int) (x10 : Int) (x11 : Int) (x12 : List UInt8) (x13 : Int) (x14 : List UInt8) (x15 : Int) (x16 : Int) (x17 : Int) (x18 : Int) (x19 : Int) (x20 : Int) (x21 : Int) (x22 : Int) (x23 : Int) (x24 : Int) : St := mkSt [(2, .v (.ptr (.n 1 1 0) 0)), (3, .v (.ptr (.n 1 2 0) 0)), (5, .v (.ptr (.n 2 1 0) 0)), (6, .v (.ptr (.n 3 1 0) 0)), (7, .v (.bool x1)), (8, .v (.bool x2)), (9, .v (.int .i64 x3)), (25, .v (.int .i64 ((0 : Int))))] [((.n 1 1 0), .cells 37 [.int .i64 x4, .int .i64 x5, .int .i64 x6, .int .i64 x7, .int .i64 x8, .int .i64 x9, .int .i64 x10, .int .i64 x11]), ((.n 1 2 0), .cells 53 [.str x12, .int .i64 x13]), ((.n 2 1 0), .cells 124 [.str x14, .int .i64 x15, .int .i64 x16]), ((.n 3 1 0), .cells 37 [.int .i64 x17, .int .i64 x18, .int .i64 x19, .int .i64 x20, .int .i64 x21, .int .i64 x22, .int .i64 x23, .int .i64 x24])] 1000 61
noncomputable def at_field_TakeCx_L0 : List Item := (atLoop Try.f29 0)
noncomputable def S_field_TakeCx_L0_1 (x1 : Bool) (x2 : Bool) (x3 : Int) (x4 : Int) (x5 : Int) (x6 : Int) (x7 : Int) (x8 : Int) (x9 : Int) (x10 : Int) (x11 : Int) (x12 : List UInt8) (x13 : Int) (x14 : List UInt8) (x15 : Int) (x16 : Int) (x17 : Int) (x18 : Int) (x19 : Int) (x20 : Int) (x21 : Int) (x22 : Int) (x23 : Int) (x24 : Int) : St := mkSt [(2, .v (.ptr (.n 1 1 0) 0)), (3, .v (.ptr (.n 1 2 0) 0)), (5, .v (.ptr (.n 2 1 0) 0)), (6, .v (.ptr (.n 3 1 0) 0)), (7, .v (.bool x1)), (8, .v (.bool x2)), (9, .v (.int .i64 x3)), (25, .v (.int .i64 ((1 : Int))))] [((.n 1 1 0), .cells 37 [.int .i64 x4, .int .i64 x5, .int .i64 x6, .int .i64 x7, .int .i64 x8, .int .i64 x9, .int .i64 x10, .int .i64 x11]), ((.n 1 2 0), .cells 53 [.str x12, .int .i64 x13]), ((.n 2 1 0), .cells 124 [.str x14, .int .i64 x15, .int .i64 x16]), ((.n 3 1 0), .cells 37 [.int .i64 x17, .int .i64 x18, .int .i64 x19, .int .i64 x20, .int .i64 x21, .int .i64 x22, .int .i64 x23, .int .i64 x24])] 1000 61
noncomputable def S_field_TakeCx_L0_2 (x1 : Bool) (x2 : Bool) (x3 : Int) (x4 : Int) (x5 : Int) (x6 : Int) (x7 : Int) (x8 : Int) (x9 : Int) (x10 : Int) (x11 : Int) (x12 : List UInt8) (x13 : Int) (x14 : List UInt8) (x15 : Int) (x16 : Int) (x17 : Int) (x18 : Int) (x19 : Int) (x20 : Int) (x21 : Int) (x22 : Int) (x23 : Int) (x24 : Int) : St := mkSt [(2, .v (.ptr (.n 1 1 0) 0)), (3, .v (.ptr (.n 1 2 0) 0)), (5, .v (.ptr (.n 2 1 0) 0)), (6, .v (.ptr (.n 3 1 0) 0)), (7, .v (.bool x1)), (8, .v (.bool x2)), (9, .v (.int .i64 x3)), (25, .v (.int .i64 ((2 : Int))))] [((.n 1 1 0), .cells 37 [.int .i64 x4, .int .i64 x5, .int .i64 x6, .int .i64 x7, .int .i64 x8, .int .i64 x9, .int .i64 x10, .int .i64 x11]), ((.n 1 2 0), .cells 53 [.str x12, .int .i64 x13]), ((.n 2 1 0), .cells 124 [.str x14, .int .i64 x15, .int .i64 x16]), ((.n 3 1 0), .cells 37 [.int .i64 x17, .int .i64 x18, .int .i64 x19, .int .i64 x20, .int .i64 x21, .int .i64 x22, .int .i64 x23, .int .i64 x24])] 1000 61
noncomputable def S_field_TakeCx_L0_3 (x1 : Bool) (x2 : Bool) (x3 : Int) (x4 : Int) (x5 : Int) (x6 : Int) (x7 : Int) (x8 : Int) (x9 : Int) (x10 : Int) (x11 : Int) (x12 : List UInt8) (x13 : Int) (x14 : List UInt8) (x15 : Int) (x16 : Int) (x17 : Int) (x18 : Int) (x19 : Int) (x20 : Int) (x21 : Int) (x22 : Int) (x23 : Int) (x24 : Int) : St := mkSt [(2, .v (.ptr (.n 1 1 0) 0)), (3, .v (.ptr (.n 1 2 0) 0)), (5, .v (.ptr (.n 2 1 0) 0)), (6, .v (.ptr (.n 3 1 0) 0)), (7, .v (.bool x1)), (8, .v (.bool x2)), (9, .v (.int .i64 x3)), (25, .v (.int .i64 ((3 : Int))))] [((.n 1 1 0), .cells 37 [.int .i64 x4, .int .i64 x5, .int .i64 x6, .int .i64 x7, .int .i64 x8, .int .i64 x9, .int .i64 x10, .int .i64 x11]), ((.n 1 2 0), .cells 53 [.str x12, .int .i64 x13]), ((.n 2 1 0), .cells 124 [.str x14, .int .i64 x15, .int .i64 x16]), ((.n 3 1 0), .cells 37 [.int .i64 x17, .int .i64 x18, .int .i64 x19, .int .i64 x20, .int .i64 x21, .int .i64 x22, .int .i64 x23, .int .i64 x24])] 1000 61
noncomputable def S_field_TakeCx_L0_4 (x1 : Bool) (x2 : Bool) (x3 : Int) (x4 : Int) (x5 : Int) (x6 : Int) (x7 : Int) (x8 : Int) (x9 : Int) (x10 : Int) (x11 : Int) (x12 : List UInt8) (x13 : Int) (x14 : List UInt8) (x15 : Int) (x16 : Int) (x17 : Int) (x18 : Int) (x19 : Int) (x20 : Int) (x21 : Int) (x22 : Int) (x23 : Int) (x24 : Int) : St := mkSt [(2, .v (.ptr (.n 1 1 0) 0)), (3, .v (.ptr (.n 1 2 0) 0)), (5, .v (.ptr (.n 2 1 0) 0)), (6, .v (.ptr (.n 3 1 0) 0)), (7, .v (.bool x1)), (8, .v (.bool x2)), (9, .v (.int .i64 x3)), (25, .v (.int .i64 ((4 : Int))))] [((.n 1 1 0), .cells 37 [.int .i64 x4, .int .i64 x5, .int .i64 x6, .int .i64 x7, .int .i64 x8, .int .i64 x9, .int .i64 x10, .int .i64 x11]), ((.n 1 2 0), .cells 53 [.str x12, .int .i64 x13]), ((.n 2 1 0), .cells 124 [.str x14, .int .i64 x15, .int .i64 x16]), ((.n 3 1 0), .cells 37 [.int .i64 x17, .int .i64 x18, .int .i64 x19, .int .i64 x20, .int .i64 x21, .int .i64 x22, .int .i64 x23, .int .i64 x24])] 1000 61
noncomputable def S_field_TakeCx_L2 (x1 : Bool) (x2 : Int) (x3 : Int) (x4 : Int) (x5 : Int) (x6 : Int) (x7 : Int) (x8 : Int) (x9 : Int) (x10 : Int) (x11 : List UInt8) (x12 : Int) (x13 : List UInt8) (x14 : Int) (x15 : Int) (x16 : Int) (x17 : Int) (x18 : Int) (x19 : Int) (x20 : Int) (x21 : Int) (x22 : Int) (x23 : Int) : St := mkSt [(2, .v (.ptr (.n 1 1 0) 0)), (3, .v (.ptr (.n 1 2 0) 0)), (5, .v (.ptr (.n 2 1 0) 0)), (6, .v (.ptr (.n 3 1 0) 0)), (7, .v (.bool x1)), (9, .v (.int .i64 x2)), (36, .v (.int .i64 ((0 : Int))))] [((.n 1 1 0), .cells 37 [.int .i64 x3, .int .i64 x4, .int .i64 x5, .int .i64 x6, .int .i64 x7, .int .i64 x8, .int .i64 x9, .int .i64 x10]), ((.n 1 2 0), .cells 53 [.str x11, .int .i64 x12]), ((.n 2 1 0), .cells 124 [.str x13, .int .i64 x14, .int .i64 x15]), ((.n 3 1 0), .cells 37 [.int .i64 x16, .int .i64 x17, .int .i64 x18, .int .i64 x19, .int .i64 x20, .int .i64 x21, .int .i64 x22, .int .i64 x23])] 2000 61
noncomputable def at_field_TakeCx_L2 : List Item := (atLoop Try.f29 2)
noncomputable def S_field_TakeCx_L2_1 (x1 : Bool) (x2 : Int) (x3 : Int) (x4 : Int) (x5 : Int) (x6 : Int) (x7 : Int) (x8 : Int) (x9 : Int) (x10 : Int) (x11 : List UInt8) (x12 : Int) (x13 : List UInt8) (x14 : Int) (x15 : Int) (x16 : Int) (x17 : Int) (x18 : Int) (x19 : Int) (x20 : Int) (x21 : Int) (x22 : Int) (x23 : Int) : St := mkSt [(2, .v (.ptr (.n 1 1 0) 0)), (3, .v (.ptr (.n 1 2 0) 0)), (5, .v (.ptr (.n 2 1 0) 0)), (6, .v (.ptr (.n 3 1 0) 0)), (7, .v (.bool x1)), (9, .v (.int .i64 x2)), (36, .v (.int .i64 ((1 : Int))))] [((.n 1 1 0), .cells 37 [.int .i64 x3, .int .i64 x4, .int .i64 x5, .int .i64 x6, .int .i64 x7, .int .i64 x8, .int .i64 x9, .int .i64 x10]), ((.n 1 2 0), .cells 53 [.str x11, .int .i64 x12]), ((.n 2 1 0), .cells 124 [.str x13, .int .i64 x14, .int .i64 x15]), ((.n 3 1 0), .cells 37 [.int .i64 x16, .int .i64 x17, .int .i64 x18, .int .i64 x19, .int .i64 x20, .int .i64 x21, .int .i64 x22, .int .i64 x23])] 2000 61
noncomputable def S_field_TakeCx_L2_2 (x1 : Bool) (x2 : Int) (x3 : Int) (x4 : Int) (x5 : Int) (x6 : Int) (x7 : Int) (x8 : Int) (x9 : Int) (x10 : Int) (x11 : List UInt8) (x12 : Int) (x13 : List UInt8) (x14 : Int) (x15 : Int) (x16 : Int) (x17 : Int) (x18 : Int) (x19 : Int) (x20 : Int) (x21 : Int) (x22 : Int) (x23 : Int) : St := mkSt [(2, .v (.ptr (.n 1 1 0) 0)), (3, .v (.ptr (.n 1 2 0) 0)), (5, .v (.ptr (.n 2 1 0) 0)), (6, .v (.ptr (.n 3 1 0) 0)), (7, .v (.bool x1)), (9, .v (.int .i64 x2)), (36, .v (.int .i64 ((2 : Int))))] [((.n 1 1 0), .cells 37 [.int .i64 x3, .int .i64 x4, .int .i64 x5, .int .i64 x6, .int .i64 x7, .int .i64 x8, .int .i64 x9, .int .i64 x10]), ((.n 1 2 0), .cells 53 [.str x11, .int .i64 x12]), ((.n 2 1 0), .cells 124 [.str x13, .int .i64 x14, .int .i64 x15]), ((.n 3 1 0), .cells 37 [.int .i64 x16, .int .i64 x17, .int .i64 x18, .int .i64 x19, .int .i64 x20, .int .i64 x21, .int .i64 x22, .int .i64 x23])] 2000 61
noncomputable def S_field_TakeCx_L2_3 (x1 : Bool) (x2 : Int) (x3 : Int) (x4 : Int) (x5 : Int) (x6 : Int) (x7 : Int) (x8 : Int) (x9 : Int) (x10 : Int) (x11 : List UInt8) (x12 : Int) (x13 : List UInt8) (x14 : Int) (x15 : Int) (x16 : Int) (x17 : Int) (x18 : Int) (x19 : Int) (x20 : Int) (x21 : Int) (x22 : Int) (x23 : Int) : St := mkSt [(2, .v (.ptr (.n 1 1 0) 0)), (3, .v (.ptr (.n 1 2 0) 0)), (5, .v (.ptr (.n 2 1 0) 0)), (6, .v (.ptr (.n 3 1 0) 0)), (7, .v (.bool x1)), (9, .v (.int .i64 x2)), (36, .v (.int .i64 ((3 : Int))))] [((.n 1 1 0), .cells 37 [.int .i64 x3, .int .i64 x4, .int .i64 x5, .int .i64 x6, .int .i64 x7, .int .i64 x8, .int .i64 x9, .int .i64 x10]), ((.n 1 2 0), .cells 53 [.str x11, .int .i64 x12]), ((.n 2 1 0), .cells 124 [.str x13, .int .i64 x14, .int .i64 x15]), ((.n 3 1 0), .cells 37 [.int .i64 x16, .int .i64 x17, .int .i64 x18, .int .i64 x19, .int .i64 x20, .int .i64 x21, .int .i64 x22, .int .i64 x23])] 2000 61
noncomputable def S_field_TakeCx_L2_4 (x1 : Bool) (x2 : Int) (x3 : Int) (x4 : Int) (x5 : Int) (x6 : Int) (x7 : Int) (x8 : Int) (x9 : Int) (x10 : Int) (x11 : List UInt8) (x12 : Int) (x13 : List UInt8) (x14 : Int) (x15 : Int) (x16 : Int) (x17 : Int) (x18 : Int) (x19 : Int) (x20 : Int) (x21 : Int) (x22 : Int) (x23 : Int) : St := mkSt [(2, .v (.ptr (.n 1 1 0) 0)), (3, .v (.ptr (.n 1 2 0) 0)), (5, .v (.ptr (.n 2 1 0) 0)), (6, .v (.ptr (.n 3 1 0) 0)), (7, .v (.bool x1)), (9, .v (.int .i64 x2)), (36, .v (.int .i64 ((4 : Int))))] [((.n 1 1 0), .cells 37 [.int .i64 x3, .int .i64 x4, .int .i64 x5, .int .i64 x6, .int .i64 x7, .int .i64 x8, .int .i64 x9, .int .i64 x10]), ((.n 1 2 0), .cells 53 [.str x11, .int .i64 x12]), ((.n 2 1 0), .cells 124 [.str x13, .int .i64 x14, .int .i64 x15]), ((.n 3 1 0), .cells 37 [.int .i64 x16, .int .i64 x17, .int .i64 x18, .int .i64 x19, .int .i64 x20, .int .i64 x21, .int .i64 x22, .int .i64 x23])] 2000 61
theorem u_field_TakeCx (k : Nat) (a1 : List UInt8) (a2 : Int) : call (k + 1) f_field_TakeCx [.s a1, .i a2] [] =
  (call k f_field_begin [(PV.s a1), (PV.i a2)] []).bind fun r1 =>
  (call k f_field_Plain [] []).bind fun r2 =>
  (call k f___celluloid_field_reader__plain [PV.u, (PV.i (1 : Int))] [(t_field_reader, [(PV.s (((((r1).2.getD 0 (0, []))).2.getD 0 PV.u)).toS), (PV.i (((((r1).2.getD 0 (0, []))).2.getD 1 PV.u)).toI), (PV.i (((((r1).2.getD 0 (0, []))).2.getD 2 PV.u)).toI)])]).bind fun r3 =>
  (call k f___celluloid_field_reader__plain [PV.u, (PV.i (1 : Int))] [(t_field_reader, [(PV.s (((((r3).2.getD 0 (0, []))).2.getD 0 PV.u)).toS), (PV.i (((((r3).2.getD 0 (0, []))).2.getD 1 PV.u)).toI), (PV.i (((((r3).2.getD 0 (0, []))).2.getD 2 PV.u)).toI)])]).bind fun r4 =>
  (call k f___celluloid_field_reader__plain [PV.u, (PV.i (4 : Int))] [(t_field_reader, [(PV.s (((((r4).2.getD 0 (0, []))).2.getD 0 PV.u)).toS), (PV.i (((((r4).2.getD 0 (0, []))).2.getD 1 PV.u)).toI), (PV.i (((((r4).2.getD 0 (0, []))).2.getD 2 PV.u)).toI)])]).bind fun r5 =>
  run k f_field_TakeCx [] at_field_TakeCx_L0 (S_field_TakeCx_L0 (((((r3).1.getD 0 PV.u)).toI == (1 : Int))) (((((r4).1.getD 0 PV.u)).toI == (1 : Int))) ((((r5).1.getD 0 PV.u)).toI) ((0 : Int)) ((0 : Int)) ((0 : Int)) ((0 : Int)) ((0 : Int)) ((0 : Int)) ((0 : Int)) ((0 : Int)) ([]) ((0 : Int)) ((((((r5).2.getD 0 (0, []))).2.getD 0 PV.u)).toS) ((((((r5).2.getD 0 (0, []))).2.getD 1 PV.u)).toI) ((((((r5).2.getD 0 (0, []))).2.getD 2 PV.u)).toI) ((((r2).1.getD 0 PV.u)).toI) ((((r2).1.getD 1 PV.u)).toI) ((((r2).1.getD 2 PV.u)).toI) ((((r2).1.getD 3 PV.u)).toI) ((((r2).1.getD 4 PV.u)).toI) ((((r2).1.getD 5 PV.u)).toI) ((((r2).1.getD 6 PV.u)).toI) ((((r2).1.getD 7 PV.u)).toI)) := by kernel_rfl
theorem u_field_TakeCx_L0 (k : Nat) (x1 : Bool) (x2 : Bool) (x3 : Int) (x4 : Int) (x5 : Int) (x6 : Int) (x7 : Int) (x8 : Int) (x9 : Int) (x10 : Int) (x11 : Int) (x12 : List UInt8) (x13 : Int) (x14 : List UInt8) (x15 : Int) (x16 : Int) (x17 : Int) (x18 : Int) (x19 : Int) (x20 : Int) (x21 : Int) (x22 : Int) (x23 : Int) (x24 : Int) : run (k + 1) f_field_TakeCx [] at_field_TakeCx_L0 (S_field_TakeCx_L0 x1 x2 x3 x4 x5 x6 x7 x8 x9 x10 x11 x12 x13 x14 x15 x16 x17 x18 x19 x20 x21 x22 x23 x24) =
  (bif x2 then (call k f___celluloid_field_reader__signed [PV.u, (PV.i x3)] [(t_field_reader, [(PV.s x14), (PV.i x15), (PV.i x16)])]).bind fun r6 =>
  run k f_field_TakeCx [] at_field_TakeCx_L0 (S_field_TakeCx_L0_1 (x1) (x2) (x3) (x4) (x5) (x6) (x7) (x8) (x9) (x10) (x11) (x12) (x13) ((((((r6).2.getD 0 (0, []))).2.getD 0 PV.u)).toS) ((((((r6).2.getD 0 (0, []))).2.getD 1 PV.u)).toI) ((((((r6).2.getD 0 (0, []))).2.getD 2 PV.u)).toI) ((((r6).1.getD 0 PV.u)).toI) (x18) (x19) (x20) (x21) (x22) (x23) (x24))
  else run k f_field_TakeCx [] at_field_TakeCx_L0 (S_field_TakeCx_L0_1 (x1) (x2) (x3) (x4) (x5) (x6) (x7) (x8) (x9) (x10) (x11) (x12) (x13) (x14) (x15) (x16) (x17) (x18) (x19) (x20) (x21) (x22) (x23) (x24))) := by kernel_rfl
theorem u_field_TakeCx_L0_1 (k : Nat) (x1 : Bool) (x2 : Bool) (x3 : Int) (x4 : Int) (x5 : Int) (x6 : Int) (x7 : Int) (x8 : Int) (x9 : Int) (x10 : Int) (x11 : Int) (x12 : List UInt8) (x13 : Int) (x14 : List UInt8) (x15 : Int) (x16 : Int) (x17 : Int) (x18 : Int) (x19 : Int) (x20 : Int) (x21 : Int) (x22 : Int) (x23 : Int) (x24 : Int) : run (k + 1) f_field_TakeCx [] at_field_TakeCx_L0 (S_field_TakeCx_L0_1 x1 x2 x3 x4 x5 x6 x7 x8 x9 x10 x11 x12 x13 x14 x15 x16 x17 x18 x19 x20 x21 x22 x23 x24) =
  (bif x2 then (call k f___celluloid_field_reader__signed [PV.u, (PV.i x3)] [(t_field_reader, [(PV.s x14), (PV.i x15), (PV.i x16)])]).bind fun r7 =>
  run k f_field_TakeCx [] at_field_TakeCx_L0 (S_field_TakeCx_L0_2 (x1) (x2) (x3) (x4) (x5) (x6) (x7) (x8) (x9) (x10) (x11) (x12) (x13) ((((((r7).2.getD 0 (0, []))).2.getD 0 PV.u)).toS) ((((((r7).2.getD 0 (0, []))).2.getD 1 PV.u)).toI) ((((((r7).2.getD 0 (0, []))).2.getD 2 PV.u)).toI) (x17) ((((r7).1.getD 0 PV.u)).toI) (x19) (x20) (x21) (x22) (x23) (x24))
  else run k f_field_TakeCx [] at_field_TakeCx_L0 (S_field_TakeCx_L0_2 (x1) (x2) (x3) (x4) (x5) (x6) (x7) (x8) (x9) (x10) (x11) (x12) (x13) (x14) (x15) (x16) (x17) (x18) (x19) (x20) (x21) (x22) (x23) (x24))) := by kernel_rfl
theorem u_field_TakeCx_L0_2 (k : Nat) (x1 : Bool) (x2 : Bool) (x3 : Int) (x4 : Int) (x5 : Int) (x6 : Int) (x7 : Int) (x8 : Int) (x9 : Int) (x10 : Int) (x11 : Int) (x12 : List UInt8) (x13 : Int) (x14 : List UInt8) (x15 : Int) (x16 : Int) (x17 : Int) (x18 : Int) (x19 : Int) (x20 : Int) (x21 : Int) (x22 : Int) (x23 : Int) (x24 : Int) : run (k + 1) f_field_TakeCx [] at_field_TakeCx_L0 (S_field_TakeCx_L0_2 x1 x2 x3 x4 x5 x6 x7 x8 x9 x10 x11 x12 x13 x14 x15 x16 x17 x18 x19 x20 x21 x22 x23 x24) =
  (bif x2 then (call k f___celluloid_field_reader__signed [PV.u, (PV.i x3)] [(t_field_reader, [(PV.s x14), (PV.i x15), (PV.i x16)])]).bind fun r8 =>
  run k f_field_TakeCx [] at_field_TakeCx_L0 (S_field_TakeCx_L0_3 (x1) (x2) (x3) (x4) (x5) (x6) (x7) (x8) (x9) (x10) (x11) (x12) (x13) ((((((r8).2.getD 0 (0, []))).2.getD 0 PV.u)).toS) ((((((r8).2.getD 0 (0, []))).2.getD 1 PV.u)).toI) ((((((r8).2.getD 0 (0, []))).2.getD 2 PV.u)).toI) (x17) (x18) ((((r8).1.getD 0 PV.u)).toI) (x20) (x21) (x22) (x23) (x24))
  else run k f_field_TakeCx [] at_field_TakeCx_L0 (S_field_TakeCx_L0_3 (x1) (x2) (x3) (x4) (x5) (x6) (x7) (x8) (x9) (x10) (x11) (x12) (x13) (x14) (x15) (x16) (x17) (x18) (x19) (x20) (x21) (x22) (x23) (x24))) := by kernel_rfl
theorem u_field_TakeCx_L0_3 (k : Nat) (x1 : Bool) (x2 : Bool) (x3 : Int) (x4 : Int) (x5 : Int) (x6 : Int) (x7 : Int) (x8 : Int) (x9 : Int) (x10 : Int) (x11 : Int) (x12 : List UInt8) (x13 : Int) (x14 : List UInt8) (x15 : Int) (x16 : Int) (x17 : Int) (x18 : Int) (x19 : Int) (x20 : Int) (x21 : Int) (x22 : Int) (x23 : Int) (x24 : Int) : run (k + 1) f_field_TakeCx [] at_field_TakeCx_L0 (S_field_TakeCx_L0_3 x1 x2 x3 x4 x5 x6 x7 x8 x9 x10 x11 x12 x13 x14 x15 x16 x17 x18 x19 x20 x21 x22 x23 x24) =
  (bif x2 then (call k f___celluloid_field_reader__signed [PV.u, (PV.i x3)] [(t_field_reader, [(PV.s x14), (PV.i x15), (PV.i x16)])]).bind fun r9 =>
  run k f_field_TakeCx [] at_field_TakeCx_L0 (S_field_TakeCx_L0_4 (x1) (x2) (x3) (x4) (x5) (x6) (x7) (x8) (x9) (x10) (x11) (x12) (x13) ((((((r9).2.getD 0 (0, []))).2.getD 0 PV.u)).toS) ((((((r9).2.getD 0 (0, []))).2.getD 1 PV.u)).toI) ((((((r9).2.getD 0 (0, []))).2.getD 2 PV.u)).toI) (x17) (x18) (x19) ((((r9).1.getD 0 PV.u)).toI) (x21) (x22) (x23) (x24))
  else run k f_field_TakeCx [] at_field_TakeCx_L0 (S_field_TakeCx_L0_4 (x1) (x2) (x3) (x4) (x5) (x6) (x7) (x8) (x9) (x10) (x11) (x12) (x13) (x14) (x15) (x16) (x17) (x18) (x19) (x20) (x21) (x22) (x23) (x24))) := by kernel_rfl
theorem u_field_TakeCx_L0_4 (k : Nat) (x1 : Bool) (x2 : Bool) (x3 : Int) (x4 : Int) (x5 : Int) (x6 : Int) (x7 : Int) (x8 : Int) (x9 : Int) (x10 : Int) (x11 : Int) (x12 : List UInt8) (x13 : Int) (x14 : List UInt8) (x15 : Int) (x16 : Int) (x17 : Int) (x18 : Int) (x19 : Int) (x20 : Int) (x21 : Int) (x22 : Int) (x23 : Int) (x24 : Int) : run (k + 1) f_field_TakeCx [] at_field_TakeCx_L0 (S_field_TakeCx_L0_4 x1 x2 x3 x4 x5 x6 x7 x8 x9 x10 x11 x12 x13 x14 x15 x16 x17 x18 x19 x20 x21 x22 x23 x24) =
  run k f_field_TakeCx [] at_field_TakeCx_L2 (S_field_TakeCx_L2 (x1) (x3) (x4) (x5) (x6) (x7) (x8) (x9) (x10) (x11) (x12) (x13) (x14) (x15) (x16) (x17) (x18) (x19) (x20) (x21) (x22) (x23) (x24)) := by kernel_rfl
theorem u_field_TakeCx_L2 (k : Nat) (x1 : Bool) (x2 : Int) (x3 : Int) (x4 : Int) (x5 : Int) (x6 : Int) (x7 : Int) (x8 : Int) (x9 : Int) (x10 : Int) (x11 : List UInt8) (x12 : Int) (x13 : List UInt8) (x14 : Int) (x15 : Int) (x16 : Int) (x17 : Int) (x18 : Int) (x19 : Int) (x20 : Int) (x21 : Int) (x22 : Int) (x23 : Int) : run (k + 1) f_field_TakeCx [] at_field_TakeCx_L2 (S_field_TakeCx_L2 x1 x2 x3 x4 x5 x6 x7 x8 x9 x10 x11 x12 x13 x14 x15 x16 x17 x18 x19 x20 x21 x22 x23) =
  (bif x1 then (call k f___celluloid_field_reader__signed [PV.u, (PV.i x2)] [(t_field_reader, [(PV.s x13), (PV.i x14), (PV.i x15)])]).bind fun r10 =>
  run k f_field_TakeCx [] at_field_TakeCx_L2 (S_field_TakeCx_L2_1 (x1) (x2) (x3) (x4) (x5) (x6) (x7) (x8) (x9) (x10) (x11) (x12) ((((((r10).2.getD 0 (0, []))).2.getD 0 PV.u)).toS) ((((((r10).2.getD 0 (0, []))).2.getD 1 PV.u)).toI) ((((((r10).2.getD 0 (0, []))).2.getD 2 PV.u)).toI) (x16) (x17) (x18) (x19) ((((r10).1.getD 0 PV.u)).toI) (x21) (x22) (x23))
  else run k f_field_TakeCx [] at_field_TakeCx_L2 (S_field_TakeCx_L2_1 (x1) (x2) (x3) (x4) (x5) (x6) (x7) (x8) (x9) (x10) (x11) (x12) (x13) (x14) (x15) (x16) (x17) (x18) (x19) (x20) (x21) (x22) (x23))) := by kernel_rfl
theorem u_field_TakeCx_L2_1 (k : Nat) (x1 : Bool) (x2 : Int) (x3 : Int) (x4 : Int) (x5 : Int) (x6 : Int) (x7 : Int) (x8 : Int) (x9 : Int) (x10 : Int) (x11 : List UInt8) (x12 : Int) (x13 : List UInt8) (x14 : Int) (x15 : Int) (x16 : Int) (x17 : Int) (x18 : Int) (x19 : Int) (x20 : Int) (x21 : Int) (x22 : Int) (x23 : Int) : run (k + 1) f_field_TakeCx [] at_field_TakeCx_L2 (S_field_TakeCx_L2_1 x1 x2 x3 x4 x5 x6 x7 x8 x9 x10 x11 x12 x13 x14 x15 x16 x17 x18 x19 x20 x21 x22 x23) =
  (bif x1 then (call k f___celluloid_field_reader__signed [PV.u, (PV.i x2)] [(t_field_reader, [(PV.s x13), (PV.i x14), (PV.i x15)])]).bind fun r11 =>
  run k f_field_TakeCx [] at_field_TakeCx_L2 (S_field_TakeCx_L2_2 (x1) (x2) (x3) (x4) (x5) (x6) (x7) (x8) (x9) (x10) (x11) (x12) ((((((r11).2.getD 0 (0, []))).2.getD 0 PV.u)).toS) ((((((r11).2.getD 0 (0, []))).2.getD 1 PV.u)).toI) ((((((r11).2.getD 0 (0, []))).2.getD 2 PV.u)).toI) (x16) (x17) (x18) (x19) (x20) ((((r11).1.getD 0 PV.u)).toI) (x22) (x23))
  else run k f_field_TakeCx [] at_field_TakeCx_L2 (S_field_TakeCx_L2_2 (x1) (x2) (x3) (x4) (x5) (x6) (x7) (x8) (x9) (x10) (x11) (x12) (x13) (x14) (x15) (x16) (x17) (x18) (x19) (x20) (x21) (x22) (x23))) := by kernel_rfl
theorem u_field_TakeCx_L2_2 (k : Nat) (x1 : Bool) (x2 : Int) (x3 : Int) (x4 : Int) (x5 : Int) (x6 : Int) (x7 : Int) (x8 : Int) (x9 : Int) (x10 : Int) (x11 : List UInt8) (x12 : Int) (x13 : List UInt8) (x14 : Int) (x15 : Int) (x16 : Int) (x17 : Int) (x18 : Int) (x19 : Int) (x20 : Int) (x21 : Int) (x22 : Int) (x23 : Int) : run (k + 1) f_field_TakeCx [] at_field_TakeCx_L2 (S_field_TakeCx_L2_2 x1 x2 x3 x4 x5 x6 x7 x8 x9 x10 x11 x12 x13 x14 x15 x16 x17 x18 x19 x20 x21 x22 x23) =
  (bif x1 then (call k f___celluloid_field_reader__signed [PV.u, (PV.i x2)] [(t_field_reader, [(PV.s x13), (PV.i x14), (PV.i x15)])]).bind fun r12 =>
  run k f_field_TakeCx [] at_field_TakeCx_L2 (S_field_TakeCx_L2_3 (x1) (x2) (x3) (x4) (x5) (x6) (x7) (x8) (x9) (x10) (x11) (x12) ((((((r12).2.getD 0 (0, []))).2.getD 0 PV.u)).toS) ((((((r12).2.getD 0 (0, []))).2.getD 1 PV.u)).toI) ((((((r12).2.getD 0 (0, []))).2.getD 2 PV.u)).toI) (x16) (x17) (x18) (x19) (x20) (x21) ((((r12).1.getD 0 PV.u)).toI) (x23))
  else run k f_field_TakeCx [] at_field_TakeCx_L2 (S_field_TakeCx_L2_3 (x1) (x2) (x3) (x4) (x5) (x6) (x7) (x8) (x9) (x10) (x11) (x12) (x13) (x14) (x15) (x16) (x17) (x18) (x19) (x20) (x21) (x22) (x23))) := by kernel_rfl
theorem u_field_TakeCx_L2_3 (k : Nat) (x1 : Bool) (x2 : Int) (x3 : Int) (x4 : Int) (x5 : Int) (x6 : Int) (x7 : Int) (x8 : Int) (x9 : Int) (x10 : Int) (x11 : List UInt8) (x12 : Int) (x13 : List UInt8) (x14 : Int) (x15 : Int) (x16 : Int) (x17 : Int) (x18 : Int) (x19 : Int) (x20 : Int) (x21 : Int) (x22 : Int) (x23 : Int) : run (k + 1) f_field_TakeCx [] at_field_TakeCx_L2 (S_field_TakeCx_L2_3 x1 x2 x3 x4 x5 x6 x7 x8 x9 x10 x11 x12 x13 x14 x15 x16 x17 x18 x19 x20 x21 x22 x23) =
  (bif x1 then (call k f___celluloid_field_reader__signed [PV.u, (PV.i x2)] [(t_field_reader, [(PV.s x13), (PV.i x14), (PV.i x15)])]).bind fun r13 =>
  run k f_field_TakeCx [] at_field_TakeCx_L2 (S_field_TakeCx_L2_4 (x1) (x2) (x3) (x4) (x5) (x6) (x7) (x8) (x9) (x10) (x11) (x12) ((((((r13).2.getD 0 (0, []))).2.getD 0 PV.u)).toS) ((((((r13).2.getD 0 (0, []))).2.getD 1 PV.u)).toI) ((((((r13).2.getD 0 (0, []))).2.getD 2 PV.u)).toI) (x16) (x17) (x18) (x19) (x20) (x21) (x22) ((((r13).1.getD 0 PV.u)).toI))
  else run k f_field_TakeCx [] at_field_TakeCx_L2 (S_field_TakeCx_L2_4 (x1) (x2) (x3) (x4) (x5) (x6) (x7) (x8) (x9) (x10) (x11) (x12) (x13) (x14) (x15) (x16) (x17) (x18) (x19) (x20) (x21) (x22) (x23))) := by kernel_rfl
theorem u_field_TakeCx_L2_4 (k : Nat) (x1 : Bool) (x2 : Int) (x3 : Int) (x4 : Int) (x5 : Int) (x6 : Int) (x7 : Int) (x8 : Int) (x9 : Int) (x10 : Int) (x11 : List UInt8) (x12 : Int) (x13 : List UInt8) (x14 : Int) (x15 : Int) (x16 : Int) (x17 : Int) (x18 : Int) (x19 : Int) (x20 : Int) (x21 : Int) (x22 : Int) (x23 : Int) : run (k + 1) f_field_TakeCx [] at_field_TakeCx_L2 (S_field_TakeCx_L2_4 x1 x2 x3 x4 x5 x6 x7 x8 x9 x10 x11 x12 x13 x14 x15 x16 x17 x18 x19 x20 x21 x22 x23) =
  (call k f_field_RightCx [(PV.i x16), (PV.i x17), (PV.i x18), (PV.i x19), (PV.i x20), (PV.i x21), (PV.i x22), (PV.i x23)] []).bind fun r14 =>
  (call k f___celluloid_field_reader__done [PV.u, (PV.b (((r14).1.getD 0 PV.u)).toB)] [(t_field_reader, [(PV.s x13), (PV.i x14), (PV.i x15)])]).bind fun r15 =>
  (bif ((((r15).1.getD 2 PV.u)).toI != (0 : Int)) then some ([(PV.i (0 : Int)), (PV.i (0 : Int)), (PV.i (0 : Int)), (PV.i (0 : Int)), (PV.i (0 : Int)), (PV.i (0 : Int)), (PV.i (0 : Int)), (PV.i (0 : Int)), (PV.s (((r15).1.getD 0 PV.u)).toS), (PV.i (((r15).1.getD 1 PV.u)).toI), (PV.i (((r15).1.getD 2 PV.u)).toI)], [])
  else some ([(PV.i x16), (PV.i x17), (PV.i x18), (PV.i x19), (PV.i x20), (PV.i x21), (PV.i x22), (PV.i x23), (PV.s (((r15).1.getD 0 PV.u)).toS), (PV.i (((r15).1.getD 1 PV.u)).toI), (PV.i (0 : Int))], [])) := by kernel_rfl
/- celluloid/field.TakeRGBA -/
theorem u_field_TakeRGBA (k : Nat) (a1 : List UInt8) (a2 : Int) : call (k + 1) f_field_TakeRGBA [.s a1, .i a2] [] =
  (call k f_bits_Bytes [(PV.s a1), (PV.i a2), (PV.i (4 : Int))] []).bind fun r1 =>
  (bif ((((r1).1.getD 3 PV.u)).toI != (0 : Int)) then some ([(PV.i (0 : Int)), (PV.i (0 : Int)), (PV.i (0 : Int)), (PV.i (0 : Int)), (PV.s []), (PV.i (0 : Int)), (PV.i (((r1).1.getD 3 PV.u)).toI)], [])
  else (bif (Go.AI.inB (0 : Int) (List.length (((r1).1.getD 0 PV.u)).toS)) then (bif (Go.AI.inB (1 : Int) (List.length (((r1).1.getD 0 PV.u)).toS)) then (bif (Go.AI.inB (2 : Int) (List.length (((r1).1.getD 0 PV.u)).toS)) then (bif (Go.AI.inB (3 : Int) (List.length (((r1).1.getD 0 PV.u)).toS)) then some ([(PV.i (Go.IntKind.wrap .i64 (Go.AI.bt (((r1).1.getD 0 PV.u)).toS (0 : Int)))), (PV.i (Go.IntKind.wrap .i64 (Go.AI.bt (((r1).1.getD 0 PV.u)).toS (1 : Int)))), (PV.i (Go.IntKind.wrap .i64 (Go.AI.bt (((r1).1.getD 0 PV.u)).toS (2 : Int)))), (PV.i (Go.IntKind.wrap .i64 (Go.AI.bt (((r1).1.getD 0 PV.u)).toS (3 : Int)))), (PV.s (((r1).1.getD 1 PV.u)).toS), (PV.i (((r1).1.getD 2 PV.u)).toI), (PV.i (0 : Int))], [])
  else none)
  else none)
  else none)
  else none)) := by kernel_rfl
/- celluloid/celluloidref07.TakeRect -/
theorem u_celluloidref07_TakeRect (k : Nat) (a1 : List UInt8) (a2 : Int) : call (k + 1) f_celluloidref07_TakeRect [.s a1, .i a2] [] =
  (call k f_celluloidref07_Begin [(PV.s a1), (PV.i a2)] []).bind fun r1 =>
  (call k f_celluloidref07_several [(PV.s (((r1).1.getD 0 PV.u)).toS), (PV.i (((r1).1.getD 1 PV.u)).toI), (PV.i (((r1).1.getD 2 PV.u)).toI), (PV.i (5 : Int)), (PV.i (4 : Int))] []).bind fun r2 =>
  (bif (Go.AI.inB (0 : Int) (List.length (((r2).1.getD 0 PV.u)).toL)) then (bif (Go.AI.inB (1 : Int) (List.length (((r2).1.getD 0 PV.u)).toL)) then (bif (Go.AI.inB (2 : Int) (List.length (((r2).1.getD 0 PV.u)).toL)) then (bif (Go.AI.inB (3 : Int) (List.length (((r2).1.getD 0 PV.u)).toL)) then (call k f_celluloidref07_Rect [(PV.i (((Go.AI.elemAt (((r2).1.getD 0 PV.u)).toL (0 : Int)).getD 0 PV.u)).toI), (PV.i (((Go.AI.elemAt (((r2).1.getD 0 PV.u)).toL (1 : Int)).getD 0 PV.u)).toI), (PV.i (((Go.AI.elemAt (((r2).1.getD 0 PV.u)).toL (2 : Int)).getD 0 PV.u)).toI), (PV.i (((Go.AI.elemAt (((r2).1.getD 0 PV.u)).toL (3 : Int)).getD 0 PV.u)).toI)] []).bind fun r3 =>
  (call k f_celluloidref07_Done [(PV.s (((r2).1.getD 1 PV.u)).toS), (PV.i (((r2).1.getD 2 PV.u)).toI), (PV.i (((r2).1.getD 3 PV.u)).toI), (PV.b (((r3).1.getD 0 PV.u)).toB)] []).bind fun r4 =>
  (bif ((((r4).1.getD 2 PV.u)).toI != (0 : Int)) then some ([(PV.i (0 : Int)), (PV.i (0 : Int)), (PV.i (0 : Int)), (PV.i (0 : Int)), (PV.s (((r4).1.getD 0 PV.u)).toS), (PV.i (((r4).1.getD 1 PV.u)).toI), (PV.i (((r4).1.getD 2 PV.u)).toI)], [])
  else some ([(PV.i (((Go.AI.elemAt (((r2).1.getD 0 PV.u)).toL (0 : Int)).getD 0 PV.u)).toI), (PV.i (((Go.AI.elemAt (((r2).1.getD 0 PV.u)).toL (1 : Int)).getD 0 PV.u)).toI), (PV.i (((Go.AI.elemAt (((r2).1.getD 0 PV.u)).toL (2 : Int)).getD 0 PV.u)).toI), (PV.i (((Go.AI.elemAt (((r2).1.getD 0 PV.u)).toL (3 : Int)).getD 0 PV.u)).toI), (PV.s (((r4).1.getD 0 PV.u)).toS), (PV.i (((r4).1.getD 1 PV.u)).toI), (PV.i (((r4).1.getD 2 PV.u)).toI)], []))
  else none)
  else none)
  else none)
  else none) := by kernel_rfl
/- celluloid/celluloidlaw07.in -/
theorem u_celluloidlaw07_in (k : Nat) (a1 : List UInt8) (a2 : Int) : call (k + 1) f_celluloidlaw07_in [.s a1, .i a2] [] =
  some ([(PV.s a1), (PV.i a2)], []) := by kernel_rfl
/- celluloid/celluloidref07.TakeMatrix -/
theorem u_celluloidref07_TakeMatrix (k : Nat) (a1 : List UInt8) (a2 : Int) : call (k + 1) f_celluloidref07_TakeMatrix [.s a1, .i a2] [] =
  (call k f_celluloidref07_Begin [(PV.s a1), (PV.i a2)] []).bind fun r1 =>
  (call k f_celluloidref07_Plain [(PV.s (((r1).1.getD 0 PV.u)).toS), (PV.i (((r1).1.getD 1 PV.u)).toI), (PV.i (((r1).1.getD 2 PV.u)).toI), (PV.i (1 : Int))] []).bind fun r2 =>
  (bif ((((r2).1.getD 0 PV.u)).toI == (1 : Int)) then (call k f_celluloidref07_several [(PV.s (((r2).1.getD 1 PV.u)).toS), (PV.i (((r2).1.getD 2 PV.u)).toI), (PV.i (((r2).1.getD 3 PV.u)).toI), (PV.i (5 : Int)), (PV.i (2 : Int))] []).bind fun r3 =>
  (bif (Go.AI.inB (0 : Int) (List.length (((r3).1.getD 0 PV.u)).toL)) then (bif (Go.AI.inB (1 : Int) (List.length (((r3).1.getD 0 PV.u)).toL)) then (call k f_celluloidref07_Plain [(PV.s (((r3).1.getD 1 PV.u)).toS), (PV.i (((r3).1.getD 2 PV.u)).toI), (PV.i (((r3).1.getD 3 PV.u)).toI), (PV.i (1 : Int))] []).bind fun r4 =>
  (bif ((((r4).1.getD 0 PV.u)).toI == (1 : Int)) then (call k f_celluloidref07_several [(PV.s (((r4).1.getD 1 PV.u)).toS), (PV.i (((r4).1.getD 2 PV.u)).toI), (PV.i (((r4).1.getD 3 PV.u)).toI), (PV.i (5 : Int)), (PV.i (2 : Int))] []).bind fun r5 =>
  (bif (Go.AI.inB (0 : Int) (List.length (((r5).1.getD 0 PV.u)).toL)) then (bif (Go.AI.inB (1 : Int) (List.length (((r5).1.getD 0 PV.u)).toL)) then (call k f_celluloidref07_several [(PV.s (((r5).1.getD 1 PV.u)).toS), (PV.i (((r5).1.getD 2 PV.u)).toI), (PV.i (((r5).1.getD 3 PV.u)).toI), (PV.i (5 : Int)), (PV.i (2 : Int))] []).bind fun r6 =>
  (bif (Go.AI.inB (0 : Int) (List.length (((r6).1.getD 0 PV.u)).toL)) then (bif (Go.AI.inB (1 : Int) (List.length (((r6).1.getD 0 PV.u)).toL)) then (call k f_celluloidref07_Matrix [(PV.i (((Go.AI.elemAt (((r3).1.getD 0 PV.u)).toL (0 : Int)).getD 0 PV.u)).toI), (PV.i (((Go.AI.elemAt (((r5).1.getD 0 PV.u)).toL (0 : Int)).getD 0 PV.u)).toI), (PV.i (((Go.AI.elemAt (((r5).1.getD 0 PV.u)).toL (1 : Int)).getD 0 PV.u)).toI), (PV.i (((Go.AI.elemAt (((r3).1.getD 0 PV.u)).toL (1 : Int)).getD 0 PV.u)).toI), (PV.i (((Go.AI.elemAt (((r6).1.getD 0 PV.u)).toL (0 : Int)).getD 0 PV.u)).toI), (PV.i (((Go.AI.elemAt (((r6).1.getD 0 PV.u)).toL (1 : Int)).getD 0 PV.u)).toI)] []).bind fun r7 =>
  (call k f_celluloidref07_Done [(PV.s (((r6).1.getD 1 PV.u)).toS), (PV.i (((r6).1.getD 2 PV.u)).toI), (PV.i (((r6).1.getD 3 PV.u)).toI), (PV.b (((r7).1.getD 0 PV.u)).toB)] []).bind fun r8 =>
  (bif ((((r8).1.getD 2 PV.u)).toI != (0 : Int)) then some ([(PV.i (0 : Int)), (PV.i (0 : Int)), (PV.i (0 : Int)), (PV.i (0 : Int)), (PV.i (0 : Int)), (PV.i (0 : Int)), (PV.s (((r8).1.getD 0 PV.u)).toS), (PV.i (((r8).1.getD 1 PV.u)).toI), (PV.i (((r8).1.getD 2 PV.u)).toI)], [])
  else some ([(PV.i (((Go.AI.elemAt (((r3).1.getD 0 PV.u)).toL (0 : Int)).getD 0 PV.u)).toI), (PV.i (((Go.AI.elemAt (((r5).1.getD 0 PV.u)).toL (0 : Int)).getD 0 PV.u)).toI), (PV.i (((Go.AI.elemAt (((r5).1.getD 0 PV.u)).toL (1 : Int)).getD 0 PV.u)).toI), (PV.i (((Go.AI.elemAt (((r3).1.getD 0 PV.u)).toL (1 : Int)).getD 0 PV.u)).toI), (PV.i (((Go.AI.elemAt (((r6).1.getD 0 PV.u)).toL (0 : Int)).getD 0 PV.u)).toI), (PV.i (((Go.AI.elemAt (((r6).1.getD 0 PV.u)).toL (1 : Int)).getD 0 PV.u)).toI), (PV.s (((r8).1.getD 0 PV.u)).toS), (PV.i (((r8).1.getD 1 PV.u)).toI), (PV.i (((r8).1.getD 2 PV.u)).toI)], []))
  else none)
  else none)
  else none)
  else none)
  else (call k f_celluloidref07_several [(PV.s (((r4).1.getD 1 PV.u)).toS), (PV.i (((r4).1.getD 2 PV.u)).toI), (PV.i (((r4).1.getD 3 PV.u)).toI), (PV.i (5 : Int)), (PV.i (2 : Int))] []).bind fun r9 =>
  (bif (Go.AI.inB (0 : Int) (List.length (((r9).1.getD 0 PV.u)).toL)) then (bif (Go.AI.inB (1 : Int) (List.length (((r9).1.getD 0 PV.u)).toL)) then (call k f_celluloidref07_Matrix [(PV.i (((Go.AI.elemAt (((r3).1.getD 0 PV.u)).toL (0 : Int)).getD 0 PV.u)).toI), (PV.i (0 : Int)), (PV.i (0 : Int)), (PV.i (((Go.AI.elemAt (((r3).1.getD 0 PV.u)).toL (1 : Int)).getD 0 PV.u)).toI), (PV.i (((Go.AI.elemAt (((r9).1.getD 0 PV.u)).toL (0 : Int)).getD 0 PV.u)).toI), (PV.i (((Go.AI.elemAt (((r9).1.getD 0 PV.u)).toL (1 : Int)).getD 0 PV.u)).toI)] []).bind fun r10 =>
  (call k f_celluloidref07_Done [(PV.s (((r9).1.getD 1 PV.u)).toS), (PV.i (((r9).1.getD 2 PV.u)).toI), (PV.i (((r9).1.getD 3 PV.u)).toI), (PV.b (((r10).1.getD 0 PV.u)).toB)] []).bind fun r11 =>
  (bif ((((r11).1.getD 2 PV.u)).toI != (0 : Int)) then some ([(PV.i (0 : Int)), (PV.i (0 : Int)), (PV.i (0 : Int)), (PV.i (0 : Int)), (PV.i (0 : Int)), (PV.i (0 : Int)), (PV.s (((r11).1.getD 0 PV.u)).toS), (PV.i (((r11).1.getD 1 PV.u)).toI), (PV.i (((r11).1.getD 2 PV.u)).toI)], [])
  else some ([(PV.i (((Go.AI.elemAt (((r3).1.getD 0 PV.u)).toL (0 : Int)).getD 0 PV.u)).toI), (PV.i (0 : Int)), (PV.i (0 : Int)), (PV.i (((Go.AI.elemAt (((r3).1.getD 0 PV.u)).toL (1 : Int)).getD 0 PV.u)).toI), (PV.i (((Go.AI.elemAt (((r9).1.getD 0 PV.u)).toL (0 : Int)).getD 0 PV.u)).toI), (PV.i (((Go.AI.elemAt (((r9).1.getD 0 PV.u)).toL (1 : Int)).getD 0 PV.u)).toI), (PV.s (((r11).1.getD 0 PV.u)).toS), (PV.i (((r11).1.getD 1 PV.u)).toI), (PV.i (((r11).1.getD 2 PV.u)).toI)], []))
  else none)
  else none))
  else none)
  else none)
  else (call k f_celluloidref07_Plain [(PV.s (((r2).1.getD 1 PV.u)).toS), (PV.i (((r2).1.getD 2 PV.u)).toI), (PV.i (((r2).1.getD 3 PV.u)).toI), (PV.i (1 : Int))] []).bind fun r12 =>
  (bif ((((r12).1.getD 0 PV.u)).toI == (1 : Int)) then (call k f_celluloidref07_several [(PV.s (((r12).1.getD 1 PV.u)).toS), (PV.i (((r12).1.getD 2 PV.u)).toI), (PV.i (((r12).1.getD 3 PV.u)).toI), (PV.i (5 : Int)), (PV.i (2 : Int))] []).bind fun r13 =>
  (bif (Go.AI.inB (0 : Int) (List.length (((r13).1.getD 0 PV.u)).toL)) then (bif (Go.AI.inB (1 : Int) (List.length (((r13).1.getD 0 PV.u)).toL)) then (call k f_celluloidref07_several [(PV.s (((r13).1.getD 1 PV.u)).toS), (PV.i (((r13).1.getD 2 PV.u)).toI), (PV.i (((r13).1.getD 3 PV.u)).toI), (PV.i (5 : Int)), (PV.i (2 : Int))] []).bind fun r14 =>
  (bif (Go.AI.inB (0 : Int) (List.length (((r14).1.getD 0 PV.u)).toL)) then (bif (Go.AI.inB (1 : Int) (List.length (((r14).1.getD 0 PV.u)).toL)) then (call k f_celluloidref07_Matrix [(PV.i (65536 : Int)), (PV.i (((Go.AI.elemAt (((r13).1.getD 0 PV.u)).toL (0 : Int)).getD 0 PV.u)).toI), (PV.i (((Go.AI.elemAt (((r13).1.getD 0 PV.u)).toL (1 : Int)).getD 0 PV.u)).toI), (PV.i (65536 : Int)), (PV.i (((Go.AI.elemAt (((r14).1.getD 0 PV.u)).toL (0 : Int)).getD 0 PV.u)).toI), (PV.i (((Go.AI.elemAt (((r14).1.getD 0 PV.u)).toL (1 : Int)).getD 0 PV.u)).toI)] []).bind fun r15 =>
  (call k f_celluloidref07_Done [(PV.s (((r14).1.getD 1 PV.u)).toS), (PV.i (((r14).1.getD 2 PV.u)).toI), (PV.i (((r14).1.getD 3 PV.u)).toI), (PV.b (((r15).1.getD 0 PV.u)).toB)] []).bind fun r16 =>
  (bif ((((r16).1.getD 2 PV.u)).toI != (0 : Int)) then some ([(PV.i (0 : Int)), (PV.i (0 : Int)), (PV.i (0 : Int)), (PV.i (0 : Int)), (PV.i (0 : Int)), (PV.i (0 : Int)), (PV.s (((r16).1.getD 0 PV.u)).toS), (PV.i (((r16).1.getD 1 PV.u)).toI), (PV.i (((r16).1.getD 2 PV.u)).toI)], [])
  else some ([(PV.i (65536 : Int)), (PV.i (((Go.AI.elemAt (((r13).1.getD 0 PV.u)).toL (0 : Int)).getD 0 PV.u)).toI), (PV.i (((Go.AI.elemAt (((r13).1.getD 0 PV.u)).toL (1 : Int)).getD 0 PV.u)).toI), (PV.i (65536 : Int)), (PV.i (((Go.AI.elemAt (((r14).1.getD 0 PV.u)).toL (0 : Int)).getD 0 PV.u)).toI), (PV.i (((Go.AI.elemAt (((r14).1.getD 0 PV.u)).toL (1 : Int)).getD 0 PV.u)).toI), (PV.s (((r16).1.getD 0 PV.u)).toS), (PV.i (((r16).1.getD 1 PV.u)).toI), (PV.i (((r16).1.getD 2 PV.u)).toI)], []))
  else none)
  else none)
  else none)
  else none)
  else (call k f_celluloidref07_several [(PV.s (((r12).1.getD 1 PV.u)).toS), (PV.i (((r12).1.getD 2 PV.u)).toI), (PV.i (((r12).1.getD 3 PV.u)).toI), (PV.i (5 : Int)), (PV.i (2 : Int))] []).bind fun r17 =>
  (bif (Go.AI.inB (0 : Int) (List.length (((r17).1.getD 0 PV.u)).toL)) then (bif (Go.AI.inB (1 : Int) (List.length (((r17).1.getD 0 PV.u)).toL)) then (call k f_celluloidref07_Matrix [(PV.i (65536 : Int)), (PV.i (0 : Int)), (PV.i (0 : Int)), (PV.i (65536 : Int)), (PV.i (((Go.AI.elemAt (((r17).1.getD 0 PV.u)).toL (0 : Int)).getD 0 PV.u)).toI), (PV.i (((Go.AI.elemAt (((r17).1.getD 0 PV.u)).toL (1 : Int)).getD 0 PV.u)).toI)] []).bind fun r18 =>
  (call k f_celluloidref07_Done [(PV.s (((r17).1.getD 1 PV.u)).toS), (PV.i (((r17).1.getD 2 PV.u)).toI), (PV.i (((r17).1.getD 3 PV.u)).toI), (PV.b (((r18).1.getD 0 PV.u)).toB)] []).bind fun r19 =>
  (bif ((((r19).1.getD 2 PV.u)).toI != (0 : Int)) then some ([(PV.i (0 : Int)), (PV.i (0 : Int)), (PV.i (0 : Int)), (PV.i (0 : Int)), (PV.i (0 : Int)), (PV.i (0 : Int)), (PV.s (((r19).1.getD 0 PV.u)).toS), (PV.i (((r19).1.getD 1 PV.u)).toI), (PV.i (((r19).1.getD 2 PV.u)).toI)], [])
  else some ([(PV.i (65536 : Int)), (PV.i (0 : Int)), (PV.i (0 : Int)), (PV.i (65536 : Int)), (PV.i (((Go.AI.elemAt (((r17).1.getD 0 PV.u)).toL (0 : Int)).getD 0 PV.u)).toI), (PV.i (((Go.AI.elemAt (((r17).1.getD 0 PV.u)).toL (1 : Int)).getD 0 PV.u)).toI), (PV.s (((r19).1.getD 0 PV.u)).toS), (PV.i (((r19).1.getD 1 PV.u)).toI), (PV.i (((r19).1.getD 2 PV.u)).toI)], []))
  else none)
  else none))) := by kernel_rfl
/- celluloid/celluloidref07.TakeCx -/
noncomputable def S_celluloidref07_TakeCx_L0 (x1 : Int) (x2 : Int) (x3 : List (List PV)) (x4 : Int) (x5 : Int) (x6 : Int) (x7 : Int) (x8 : Int) (x9 : Int) (x10 : Int) (x11 : Int) (x12 : List UInt8) (x13 : Int) (x14 : Int) (x15 : Int) (x16 : Int) (x17 : Int) (x18 : Int) (x19 : Int) (x20 : Int) (x21 : Int) (x22 : Int) (x23 : List UInt8) (x24 : Int) (x25 : Int) : St := mkSt [(2, .v (.ptr (.n 1 1 0) 0)), (3, .v (.ptr (.n 1 2 0) 0)), (4, .v (.ptr (.n 2 2 0) 0)), (5, .v (.int .i64 x1)), (7, .v (.int .i64 x2)), (9, .v (.sl 3 x3)), (10, .v (.ptr (.n 5 9 0) 0)), (11, .v (.int .i64 ((0 : Int)))), (38, .any), (39, .any), (53, .any), (54, .any)] [((.n 1 1 0), .cells 37 [.int .i64 x4, .int .i64 x5, .int .i64 x6, .int .i64 x7, .int .i64 x8, .int .i64 x9, .int .i64 x10, .int .i64 x11]), ((.n 1 2 0), .cells 64 [.str x12, .int .i64 x13, .int .i64 x14]), ((.n 2 2 0), .cells 37 [.int .i64 x15, .int .i64 x16, .int .i64 x17, .int .i64 x18, .int .i64 x19, .int .i64 x20, .int .i64 x21, .int .i64 x22]), ((.n 5 9 0), .cells 64 [.str x23, .int .i64 x24, .int .i64 x25])] 1000 78
noncomputable def at_celluloidref07_TakeCx_L0 : List Item := (atLoop Try.f34 0)
noncomputable def S_celluloidref07_TakeCx_L0_1 (x1 : Int) (x2 : Int) (x3 : List (List PV)) (x4 : Int) (x5 : Int) (x6 : Int) (x7 : Int) (x8 : Int) (x9 : Int) (x10 : Int) (x11 : Int) (x12 : List UInt8) (x13 : Int) (x14 : Int) (x15 : Int) (x16 : Int) (x17 : Int) (x18 : Int) (x19 : Int) (x20 : Int) (x21 : Int) (x22 : Int) (x23 : List UInt8) (x24 : Int) (x25 : Int) : St := mkSt [(2, .v (.ptr (.n 1 1 0) 0)), (3, .v (.ptr (.n 1 2 0) 0)), (4, .v (.ptr (.n 2 2 0) 0)), (5, .v (.int .i64 x1)), (7, .v (.int .i64 x2)), (9, .v (.sl 3 x3)), (10, .v (.ptr (.n 5 9 0) 0)), (11, .v (.int .i64 ((1 : Int)))), (38, .any), (39, .any), (53, .any), (54, .any)] [((.n 1 1 0), .cells 37 [.int .i64 x4, .int .i64 x5, .int .i64 x6, .int .i64 x7, .int .i64 x8, .int .i64 x9, .int .i64 x10, .int .i64 x11]), ((.n 1 2 0), .cells 64 [.str x12, .int .i64 x13, .int .i64 x14]), ((.n 2 2 0), .cells 37 [.int .i64 x15, .int .i64 x16, .int .i64 x17, .int .i64 x18, .int .i64 x19, .int .i64 x20, .int .i64 x21, .int .i64 x22]), ((.n 5 9 0), .cells 64 [.str x23, .int .i64 x24, .int .i64 x25])] 1000 78
noncomputable def S_celluloidref07_TakeCx_L2 (x1 : Int) (x2 : Int) (x3 : List (List PV)) (x4 : Int) (x5 : Int) (x6 : Int) (x7 : Int) (x8 : Int) (x9 : Int) (x10 : Int) (x11 : Int) (x12 : List UInt8) (x13 : Int) (x14 : Int) (x15 : Int) (x16 : Int) (x17 : Int) (x18 : Int) (x19 : Int) (x20 : Int) (x21 : Int) (x22 : Int) (x23 : List UInt8) (x24 : Int) (x25 : Int) : St := mkSt [(2, .v (.ptr (.n 1 1 0) 0)), (3, .v (.ptr (.n 1 2 0) 0)), (4, .v (.ptr (.n 2 2 0) 0)), (5, .v (.int .i64 x1)), (7, .v (.int .i64 x2)), (9, .v (.sl 3 x3)), (10, .v (.ptr (.n 5 9 0) 0)), (12, .v (.int .i64 ((0 : Int)))), (53, .any), (54, .any)] [((.n 1 1 0), .cells 37 [.int .i64 x4, .int .i64 x5, .int .i64 x6, .int .i64 x7, .int .i64 x8, .int .i64 x9, .int .i64 x10, .int .i64 x11]), ((.n 1 2 0), .cells 64 [.str x12, .int .i64 x13, .int .i64 x14]), ((.n 2 2 0), .cells 37 [.int .i64 x15, .int .i64 x16, .int .i64 x17, .int .i64 x18, .int .i64 x19, .int .i64 x20, .int .i64 x21, .int .i64 x22]), ((.n 5 9 0), .cells 64 [.str x23, .int .i64 x24, .int .i64 x25])] 2000 78
noncomputable def at_celluloidref07_TakeCx_L2 : List Item := (atLoop Try.f34 2)
noncomputable def S_celluloidref07_TakeCx_L0_2 (x1 : Int) (x2 : Int) (x3 : List (List PV)) (x4 : Int) (x5 : Int) (x6 : Int) (x7 : Int) (x8 : Int) (x9 : Int) (x10 : Int) (x11 : Int) (x12 : List UInt8) (x13 : Int) (x14 : Int) (x15 : Int) (x16 : Int) (x17 : Int) (x18 : Int) (x19 : Int) (x20 : Int) (x21 : Int) (x22 : Int) (x23 : List UInt8) (x24 : Int) (x25 : Int) : St := mkSt [(2, .v (.ptr (.n 1 1 0) 0)), (3, .v (.ptr (.n 1 2 0) 0)), (4, .v (.ptr (.n 2 2 0) 0)), (5, .v (.int .i64 x1)), (7, .v (.int .i64 x2)), (9, .v (.sl 3 x3)), (10, .v (.ptr (.n 5 9 0) 0)), (11, .v (.int .i64 ((2 : Int)))), (38, .any), (39, .any), (53, .any), (54, .any)] [((.n 1 1 0), .cells 37 [.int .i64 x4, .int .i64 x5, .int .i64 x6, .int .i64 x7, .int .i64 x8, .int .i64 x9, .int .i64 x10, .int .i64 x11]), ((.n 1 2 0), .cells 64 [.str x12, .int .i64 x13, .int .i64 x14]), ((.n 2 2 0), .cells 37 [.int .i64 x15, .int .i64 x16, .int .i64 x17, .int .i64 x18, .int .i64 x19, .int .i64 x20, .int .i64 x21, .int .i64 x22]), ((.n 5 9 0), .cells 64 [.str x23, .int .i64 x24, .int .i64 x25])] 1000 78
noncomputable def S_celluloidref07_TakeCx_L2_1 (x1 : Int) (x2 : Int) (x3 : List (List PV)) (x4 : Int) (x5 : Int) (x6 : Int) (x7 : Int) (x8 : Int) (x9 : Int) (x10 : Int) (x11 : Int) (x12 : List UInt8) (x13 : Int) (x14 : Int) (x15 : Int) (x16 : Int) (x17 : Int) (x18 : Int) (x19 : Int) (x20 : Int) (x21 : Int) (x22 : Int) (x23 : List UInt8) (x24 : Int) (x25 : Int) : St := mkSt [(2, .v (.ptr (.n 1 1 0) 0)), (3, .v (.ptr (.n 1 2 0) 0)), (4, .v (.ptr (.n 2 2 0) 0)), (5, .v (.int .i64 x1)), (7, .v (.int .i64 x2)), (9, .v (.sl 3 x3)), (10, .v (.ptr (.n 5 9 0) 0)), (12, .v (.int .i64 ((1 : Int)))), (53, .any), (54, .any)] [((.n 1 1 0), .cells 37 [.int .i64 x4, .int .i64 x5, .int .i64 x6, .int .i64 x7, .int .i64 x8, .int .i64 x9, .int .i64 x10, .int .i64 x11]), ((.n 1 2 0), .cells 64 [.str x12, .int .i64 x13, .int .i64 x14]), ((.n 2 2 0), .cells 37 [.int .i64 x15, .int .i64 x16, .int .i64 x17, .int .i64 x18, .int .i64 x19, .int .i64 x20, .int .i64 x21, .int .i64 x22]), ((.n 5 9 0), .cells 64 [.str x23, .int .i64 x24, .int .i64 x25])] 2000 78
noncomputable def S_celluloidref07_TakeCx_L0_3 (x1 : Int) (x2 : Int) (x3 : List (List PV)) (x4 : Int) (x5 : Int) (x6 : Int) (x7 : Int) (x8 : Int) (x9 : Int) (x10 : Int) (x11 : Int) (x12 : List UInt8) (x13 : Int) (x14 : Int) (x15 : Int) (x16 : Int) (x17 : Int) (x18 : Int) (x19 : Int) (x20 : Int) (x21 : Int) (x22 : Int) (x23 : List UInt8) (x24 : Int) (x25 : Int) : St := mkSt [(2, .v (.ptr (.n 1 1 0) 0)), (3, .v (.ptr (.n 1 2 0) 0)), (4, .v (.ptr (.n 2 2 0) 0)), (5, .v (.int .i64 x1)), (7, .v (.int .i64 x2)), (9, .v (.sl 3 x3)), (10, .v (.ptr (.n 5 9 0) 0)), (11, .v (.int .i64 ((3 : Int)))), (38, .any), (39, .any), (53, .any), (54, .any)] [((.n 1 1 0), .cells 37 [.int .i64 x4, .int .i64 x5, .int .i64 x6, .int .i64 x7, .int .i64 x8, .int .i64 x9, .int .i64 x10, .int .i64 x11]), ((.n 1 2 0), .cells 64 [.str x12, .int .i64 x13, .int .i64 x14]), ((.n 2 2 0), .cells 37 [.int .i64 x15, .int .i64 x16, .int .i64 x17, .int .i64 x18, .int .i64 x19, .int .i64 x20, .int .i64 x21, .int .i64 x22]), ((.n 5 9 0), .cells 64 [.str x23, .int .i64 x24, .int .i64 x25])] 1000 78
noncomputable def S_celluloidref07_TakeCx_L2_2 (x1 : Int) (x2 : Int) (x3 : List (List PV)) (x4 : Int) (x5 : Int) (x6 : Int) (x7 : Int) (x8 : Int) (x9 : Int) (x10 : Int) (x11 : Int) (x12 : List UInt8) (x13 : Int) (x14 : Int) (x15 : Int) (x16 : Int) (x17 : Int) (x18 : Int) (x19 : Int) (x20 : Int) (x21 : Int) (x22 : Int) (x23 : List UInt8) (x24 : Int) (x25 : Int) : St := mkSt [(2, .v (.ptr (.n 1 1 0) 0)), (3, .v (.ptr (.n 1 2 0) 0)), (4, .v (.ptr (.n 2 2 0) 0)), (5, .v (.int .i64 x1)), (7, .v (.int .i64 x2)), (9, .v (.sl 3 x3)), (10, .v (.ptr (.n 5 9 0) 0)), (12, .v (.int .i64 ((2 : Int)))), (53, .any), (54, .any)] [((.n 1 1 0), .cells 37 [.int .i64 x4, .int .i64 x5, .int .i64 x6, .int .i64 x7, .int .i64 x8, .int .i64 x9, .int .i64 x10, .int .i64 x11]), ((.n 1 2 0), .cells 64 [.str x12, .int .i64 x13, .int .i64 x14]), ((.n 2 2 0), .cells 37 [.int .i64 x15, .int .i64 x16, .int .i64 x17, .int .i64 x18, .int .i64 x19, .int .i64 x20, .int .i64 x21, .int .i64 x22]), ((.n 5 9 0), .cells 64 [.str x23, .int .i64 x24, .int .i64 x25])] 2000 78
noncomputable def S_celluloidref07_TakeCx_L0_4 (x1 : Int) (x2 : Int) (x3 : List (List PV)) (x4 : Int) (x5 : Int) (x6 : Int) (x7 : Int) (x8 : Int) (x9 : Int) (x10 : Int) (x11 : Int) (x12 : List UInt8) (x13 : Int) (x14 : Int) (x15 : Int) (x16 : Int) (x17 : Int) (x18 : Int) (x19 : Int) (x20 : Int) (x21 : Int) (x22 : Int) (x23 : List UInt8) (x24 : Int) (x25 : Int) : St := mkSt [(2, .v (.ptr (.n 1 1 0) 0)), (3, .v (.ptr (.n 1 2 0) 0)), (4, .v (.ptr (.n 2 2 0) 0)), (5, .v (.int .i64 x1)), (7, .v (.int .i64 x2)), (9, .v (.sl 3 x3)), (10, .v (.ptr (.n 5 9 0) 0)), (11, .v (.int .i64 ((4 : Int)))), (38, .any), (39, .any), (53, .any), (54, .any)] [((.n 1 1 0), .cells 37 [.int .i64 x4, .int .i64 x5, .int .i64 x6, .int .i64 x7, .int .i64 x8, .int .i64 x9, .int .i64 x10, .int .i64 x11]), ((.n 1 2 0), .cells 64 [.str x12, .int .i64 x13, .int .i64 x14]), ((.n 2 2 0), .cells 37 [.int .i64 x15, .int .i64 x16, .int .i64 x17, .int .i64 x18, .int .i64 x19, .int .i64 x20, .int .i64 x21, .int .i64 x22]), ((.n 5 9 0), .cells 64 [.str x23, .int .i64 x24, .int .i64 x25])] 1000 78
noncomputable def S_celluloidref07_TakeCx_L2_3 (x1 : Int) (x2 : Int) (x3 : List (List PV)) (x4 : Int) (x5 : Int) (x6 : Int) (x7 : Int) (x8 : Int) (x9 : Int) (x10 : Int) (x11 : Int) (x12 : List UInt8) (x13 : Int) (x14 : Int) (x15 : Int) (x16 : Int) (x17 : Int) (x18 : Int) (x19 : Int) (x20 : Int) (x21 : Int) (x22 : Int) (x23 : List UInt8) (x24 : Int) (x25 : Int) : St := mkSt [(2, .v (.ptr (.n 1 1 0) 0)), (3, .v (.ptr (.n 1 2 0) 0)), (4, .v (.ptr (.n 2 2 0) 0)), (5, .v (.int .i64 x1)), (7, .v (.int .i64 x2)), (9, .v (.sl 3 x3)), (10, .v (.ptr (.n 5 9 0) 0)), (12, .v (.int .i64 ((3 : Int)))), (53, .any), (54, .any)] [((.n 1 1 0), .cells 37 [.int .i64 x4, .int .i64 x5, .int .i64 x6, .int .i64 x7, .int .i64 x8, .int .i64 x9, .int .i64 x10, .int .i64 x11]), ((.n 1 2 0), .cells 64 [.str x12, .int .i64 x13, .int .i64 x14]), ((.n 2 2 0), .cells 37 [.int .i64 x15, .int .i64 x16, .int .i64 x17, .int .i64 x18, .int .i64 x19, .int .i64 x20, .int .i64 x21, .int .i64 x22]), ((.n 5 9 0), .cells 64 [.str x23, .int .i64 x24, .int .i64 x25])] 2000 78
noncomputable def S_celluloidref07_TakeCx_L2_4 (x1 : Int) (x2 : Int) (x3 : List (List PV)) (x4 : Int) (x5 : Int) (x6 : Int) (x7 : Int) (x8 : Int) (x9 : Int) (x10 : Int) (x11 : Int) (x12 : List UInt8) (x13 : Int) (x14 : Int) (x15 : Int) (x16 : Int) (x17 : Int) (x18 : Int) (x19 : Int) (x20 : Int) (x21 : Int) (x22 : Int) (x23 : List UInt8) (x24 : Int) (x25 : Int) : St := mkSt [(2, .v (.ptr (.n 1 1 0) 0)), (3, .v (.ptr (.n 1 2 0) 0)), (4, .v (.ptr (.n 2 2 0) 0)), (5, .v (.int .i64 x1)), (7, .v (.int .i64 x2)), (9, .v (.sl 3 x3)), (10, .v (.ptr (.n 5 9 0) 0)), (12, .v (.int .i64 ((4 : Int)))), (53, .any), (54, .any)] [((.n 1 1 0), .cells 37 [.int .i64 x4, .int .i64 x5, .int .i64 x6, .int .i64 x7, .int .i64 x8, .int .i64 x9, .int .i64 x10, .int .i64 x11]), ((.n 1 2 0), .cells 64 [.str x12, .int .i64 x13, .int .i64 x14]), ((.n 2 2 0), .cells 37 [.int .i64 x15, .int .i64 x16, .int .i64 x17, .int .i64 x18, .int .i64 x19, .int .i64 x20, .int .i64 x21, .int .i64 x22]), ((.n 5 9 0), .cells 64 [.str x23, .int .i64 x24, .int .i64 x25])] 2000 78
theorem u_celluloidref07_TakeCx (k : Nat) (a1 : List UInt8) (a2 : Int) : call (k + 1) f_celluloidref07_TakeCx [.s a1, .i a2] [] =
  (call k f_celluloidref07_Begin [(PV.s a1), (PV.i a2)] []).bind fun r1 =>
  (call k f_celluloidref07_Plain [(PV.s (((r1).1.getD 0 PV.u)).toS), (PV.i (((r1).1.getD 1 PV.u)).toI), (PV.i (((r1).1.getD 2 PV.u)).toI), (PV.i (1 : Int))] []).bind fun r2 =>
  (call k f_celluloidref07_Plain [(PV.s (((r2).1.getD 1 PV.u)).toS), (PV.i (((r2).1.getD 2 PV.u)).toI), (PV.i (((r2).1.getD 3 PV.u)).toI), (PV.i (1 : Int))] []).bind fun r3 =>
  (call k f_celluloidref07_several [(PV.s (((r3).1.getD 1 PV.u)).toS), (PV.i (((r3).1.getD 2 PV.u)).toI), (PV.i (((r3).1.getD 3 PV.u)).toI), (PV.i (4 : Int)), (PV.i (Go.IntKind.wrap .i64 ((4 : Int) * (Go.IntKind.wrap .i64 ((((r2).1.getD 0 PV.u)).toI + (((r3).1.getD 0 PV.u)).toI)))))] []).bind fun r4 =>
  run k f_celluloidref07_TakeCx [] at_celluloidref07_TakeCx_L0 (S_celluloidref07_TakeCx_L0 ((((r2).1.getD 0 PV.u)).toI) ((((r3).1.getD 0 PV.u)).toI) ((((r4).1.getD 0 PV.u)).toL) ((0 : Int)) ((0 : Int)) ((0 : Int)) ((0 : Int)) ((0 : Int)) ((0 : Int)) ((0 : Int)) ((0 : Int)) ([]) ((0 : Int)) ((0 : Int)) ((256 : Int)) ((256 : Int)) ((256 : Int)) ((256 : Int)) ((0 : Int)) ((0 : Int)) ((0 : Int)) ((0 : Int)) ((((r4).1.getD 1 PV.u)).toS) ((((r4).1.getD 2 PV.u)).toI) ((((r4).1.getD 3 PV.u)).toI)) := by kernel_rfl
theorem u_celluloidref07_TakeCx_L0 (k : Nat) (x1 : Int) (x2 : Int) (x3 : List (List PV)) (x4 : Int) (x5 : Int) (x6 : Int) (x7 : Int) (x8 : Int) (x9 : Int) (x10 : Int) (x11 : Int) (x12 : List UInt8) (x13 : Int) (x14 : Int) (x15 : Int) (x16 : Int) (x17 : Int) (x18 : Int) (x19 : Int) (x20 : Int) (x21 : Int) (x22 : Int) (x23 : List UInt8) (x24 : Int) (x25 : Int) : run (k + 1) f_celluloidref07_TakeCx [] at_celluloidref07_TakeCx_L0 (S_celluloidref07_TakeCx_L0 x1 x2 x3 x4 x5 x6 x7 x8 x9 x10 x11 x12 x13 x14 x15 x16 x17 x18 x19 x20 x21 x22 x23 x24 x25) =
  (bif (x2 == (1 : Int)) then (bif (Go.AI.inB (0 : Int) (List.length x3)) then run k f_celluloidref07_TakeCx [] at_celluloidref07_TakeCx_L0 (S_celluloidref07_TakeCx_L0_1 (x1) (x2) (x3) (x4) (x5) (x6) (x7) (x8) (x9) (x10) (x11) (x12) (x13) (x14) ((((Go.AI.elemAt x3 (0 : Int)).getD 0 PV.u)).toI) (x16) (x17) (x18) (x19) (x20) (x21) (x22) (x23) (x24) (x25))
  else none)
  else run k f_celluloidref07_TakeCx [] at_celluloidref07_TakeCx_L2 (S_celluloidref07_TakeCx_L2 (x1) (x2) (x3) (x4) (x5) (x6) (x7) (x8) (x9) (x10) (x11) (x12) (x13) (x14) (x15) (x16) (x17) (x18) (x19) (x20) (x21) (x22) (x23) (x24) (x25))) := by kernel_rfl
theorem u_celluloidref07_TakeCx_L0_1 (k : Nat) (x1 : Int) (x2 : Int) (x3 : List (List PV)) (x4 : Int) (x5 : Int) (x6 : Int) (x7 : Int) (x8 : Int) (x9 : Int) (x10 : Int) (x11 : Int) (x12 : List UInt8) (x13 : Int) (x14 : Int) (x15 : Int) (x16 : Int) (x17 : Int) (x18 : Int) (x19 : Int) (x20 : Int) (x21 : Int) (x22 : Int) (x23 : List UInt8) (x24 : Int) (x25 : Int) : run (k + 1) f_celluloidref07_TakeCx [] at_celluloidref07_TakeCx_L0 (S_celluloidref07_TakeCx_L0_1 x1 x2 x3 x4 x5 x6 x7 x8 x9 x10 x11 x12 x13 x14 x15 x16 x17 x18 x19 x20 x21 x22 x23 x24 x25) =
  (bif (x2 == (1 : Int)) then (bif (Go.AI.inB (1 : Int) (List.length x3)) then run k f_celluloidref07_TakeCx [] at_celluloidref07_TakeCx_L0 (S_celluloidref07_TakeCx_L0_2 (x1) (x2) (x3) (x4) (x5) (x6) (x7) (x8) (x9) (x10) (x11) (x12) (x13) (x14) (x15) ((((Go.AI.elemAt x3 (1 : Int)).getD 0 PV.u)).toI) (x17) (x18) (x19) (x20) (x21) (x22) (x23) (x24) (x25))
  else none)
  else run k f_celluloidref07_TakeCx [] at_celluloidref07_TakeCx_L2 (S_celluloidref07_TakeCx_L2 (x1) (x2) (x3) (x4) (x5) (x6) (x7) (x8) (x9) (x10) (x11) (x12) (x13) (x14) (x15) (x16) (x17) (x18) (x19) (x20) (x21) (x22) (x23) (x24) (x25))) := by kernel_rfl
theorem u_celluloidref07_TakeCx_L2 (k : Nat) (x1 : Int) (x2 : Int) (x3 : List (List PV)) (x4 : Int) (x5 : Int) (x6 : Int) (x7 : Int) (x8 : Int) (x9 : Int) (x10 : Int) (x11 : Int) (x12 : List UInt8) (x13 : Int) (x14 : Int) (x15 : Int) (x16 : Int) (x17 : Int) (x18 : Int) (x19 : Int) (x20 : Int) (x21 : Int) (x22 : Int) (x23 : List UInt8) (x24 : Int) (x25 : Int) : run (k + 1) f_celluloidref07_TakeCx [] at_celluloidref07_TakeCx_L2 (S_celluloidref07_TakeCx_L2 x1 x2 x3 x4 x5 x6 x7 x8 x9 x10 x11 x12 x13 x14 x15 x16 x17 x18 x19 x20 x21 x22 x23 x24 x25) =
  (bif (x1 == (1 : Int)) then (bif (Go.AI.inB (Go.IntKind.wrap .i64 ((Go.IntKind.wrap .i64 ((4 : Int) * x2)) + (0 : Int))) (List.length x3)) then run k f_celluloidref07_TakeCx [] at_celluloidref07_TakeCx_L2 (S_celluloidref07_TakeCx_L2_1 (x1) (x2) (x3) (x4) (x5) (x6) (x7) (x8) (x9) (x10) (x11) (x12) (x13) (x14) (x15) (x16) (x17) (x18) ((((Go.AI.elemAt x3 (Go.IntKind.wrap .i64 ((Go.IntKind.wrap .i64 ((4 : Int) * x2)) + (0 : Int)))).getD 0 PV.u)).toI) (x20) (x21) (x22) (x23) (x24) (x25))
  else none)
  else (call k f_celluloidref07_Cx [(PV.i x15), (PV.i x16), (PV.i x17), (PV.i x18), (PV.i x19), (PV.i x20), (PV.i x21), (PV.i x22)] []).bind fun r5 =>
  (call k f_celluloidref07_Done [(PV.s x23), (PV.i x24), (PV.i x25), (PV.b (((r5).1.getD 0 PV.u)).toB)] []).bind fun r6 =>
  (bif ((((r6).1.getD 2 PV.u)).toI != (0 : Int)) then some ([(PV.i (0 : Int)), (PV.i (0 : Int)), (PV.i (0 : Int)), (PV.i (0 : Int)), (PV.i (0 : Int)), (PV.i (0 : Int)), (PV.i (0 : Int)), (PV.i (0 : Int)), (PV.s (((r6).1.getD 0 PV.u)).toS), (PV.i (((r6).1.getD 1 PV.u)).toI), (PV.i (((r6).1.getD 2 PV.u)).toI)], [])
  else some ([(PV.i x15), (PV.i x16), (PV.i x17), (PV.i x18), (PV.i x19), (PV.i x20), (PV.i x21), (PV.i x22), (PV.s (((r6).1.getD 0 PV.u)).toS), (PV.i (((r6).1.getD 1 PV.u)).toI), (PV.i (((r6).1.getD 2 PV.u)).toI)], []))) := by kernel_rfl
theorem u_celluloidref07_TakeCx_L0_2 (k : Nat) (x1 : Int) (x2 : Int) (x3 : List (List PV)) (x4 : Int) (x5 : Int) (x6 : Int) (x7 : Int) (x8 : Int) (x9 : Int) (x10 : Int) (x11 : Int) (x12 : List UInt8) (x13 : Int) (x14 : Int) (x15 : Int) (x16 : Int) (x17 : Int) (x18 : Int) (x19 : Int) (x20 : Int) (x21 : Int) (x22 : Int) (x23 : List UInt8) (x24 : Int) (x25 : Int) : run (k + 1) f_celluloidref07_TakeCx [] at_celluloidref07_TakeCx_L0 (S_celluloidref07_TakeCx_L0_2 x1 x2 x3 x4 x5 x6 x7 x8 x9 x10 x11 x12 x13 x14 x15 x16 x17 x18 x19 x20 x21 x22 x23 x24 x25) =
  (bif (x2 == (1 : Int)) then (bif (Go.AI.inB (2 : Int) (List.length x3)) then run k f_celluloidref07_TakeCx [] at_celluloidref07_TakeCx_L0 (S_celluloidref07_TakeCx_L0_3 (x1) (x2) (x3) (x4) (x5) (x6) (x7) (x8) (x9) (x10) (x11) (x12) (x13) (x14) (x15) (x16) ((((Go.AI.elemAt x3 (2 : Int)).getD 0 PV.u)).toI) (x18) (x19) (x20) (x21) (x22) (x23) (x24) (x25))
  else none)
  else run k f_celluloidref07_TakeCx [] at_celluloidref07_TakeCx_L2 (S_celluloidref07_TakeCx_L2 (x1) (x2) (x3) (x4) (x5) (x6) (x7) (x8) (x9) (x10) (x11) (x12) (x13) (x14) (x15) (x16) (x17) (x18) (x19) (x20) (x21) (x22) (x23) (x24) (x25))) := by kernel_rfl
theorem u_celluloidref07_TakeCx_L2_1 (k : Nat) (x1 : Int) (x2 : Int) (x3 : List (List PV)) (x4 : Int) (x5 : Int) (x6 : Int) (x7 : Int) (x8 : Int) (x9 : Int) (x10 : Int) (x11 : Int) (x12 : List UInt8) (x13 : Int) (x14 : Int) (x15 : Int) (x16 : Int) (x17 : Int) (x18 : Int) (x19 : Int) (x20 : Int) (x21 : Int) (x22 : Int) (x23 : List UInt8) (x24 : Int) (x25 : Int) : run (k + 1) f_celluloidref07_TakeCx [] at_celluloidref07_TakeCx_L2 (S_celluloidref07_TakeCx_L2_1 x1 x2 x3 x4 x5 x6 x7 x8 x9 x10 x11 x12 x13 x14 x15 x16 x17 x18 x19 x20 x21 x22 x23 x24 x25) =
  (bif (x1 == (1 : Int)) then (bif (Go.AI.inB (Go.IntKind.wrap .i64 ((Go.IntKind.wrap .i64 ((4 : Int) * x2)) + (1 : Int))) (List.length x3)) then run k f_celluloidref07_TakeCx [] at_celluloidref07_TakeCx_L2 (S_celluloidref07_TakeCx_L2_2 (x1) (x2) (x3) (x4) (x5) (x6) (x7) (x8) (x9) (x10) (x11) (x12) (x13) (x14) (x15) (x16) (x17) (x18) (x19) ((((Go.AI.elemAt x3 (Go.IntKind.wrap .i64 ((Go.IntKind.wrap .i64 ((4 : Int) * x2)) + (1 : Int)))).getD 0 PV.u)).toI) (x21) (x22) (x23) (x24) (x25))
  else none)
  else (call k f_celluloidref07_Cx [(PV.i x15), (PV.i x16), (PV.i x17), (PV.i x18), (PV.i x19), (PV.i x20), (PV.i x21), (PV.i x22)] []).bind fun r7 =>
  (call k f_celluloidref07_Done [(PV.s x23), (PV.i x24), (PV.i x25), (PV.b (((r7).1.getD 0 PV.u)).toB)] []).bind fun r8 =>
  (bif ((((r8).1.getD 2 PV.u)).toI != (0 : Int)) then some ([(PV.i (0 : Int)), (PV.i (0 : Int)), (PV.i (0 : Int)), (PV.i (0 : Int)), (PV.i (0 : Int)), (PV.i (0 : Int)), (PV.i (0 : Int)), (PV.i (0 : Int)), (PV.s (((r8).1.getD 0 PV.u)).toS), (PV.i (((r8).1.getD 1 PV.u)).toI), (PV.i (((r8).1.getD 2 PV.u)).toI)], [])
  else some ([(PV.i x15), (PV.i x16), (PV.i x17), (PV.i x18), (PV.i x19), (PV.i x20), (PV.i x21), (PV.i x22), (PV.s (((r8).1.getD 0 PV.u)).toS), (PV.i (((r8).1.getD 1 PV.u)).toI), (PV.i (((r8).1.getD 2 PV.u)).toI)], []))) := by kernel_rfl
theorem u_celluloidref07_TakeCx_L0_3 (k : Nat) (x1 : Int) (x2 : Int) (x3 : List (List PV)) (x4 : Int) (x5 : Int) (x6 : Int) (x7 : Int) (x8 : Int) (x9 : Int) (x10 : Int) (x11 : Int) (x12 : List UInt8) (x13 : Int) (x14 : Int) (x15 : Int) (x16 : Int) (x17 : Int) (x18 : Int) (x19 : Int) (x20 : Int) (x21 : Int) (x22 : Int) (x23 : List UInt8) (x24 : Int) (x25 : Int) : run (k + 1) f_celluloidref07_TakeCx [] at_celluloidref07_TakeCx_L0 (S_celluloidref07_TakeCx_L0_3 x1 x2 x3 x4 x5 x6 x7 x8 x9 x10 x11 x12 x13 x14 x15 x16 x17 x18 x19 x20 x21 x22 x23 x24 x25) =
  (bif (x2 == (1 : Int)) then (bif (Go.AI.inB (3 : Int) (List.length x3)) then run k f_celluloidref07_TakeCx [] at_celluloidref07_TakeCx_L0 (S_celluloidref07_TakeCx_L0_4 (x1) (x2) (x3) (x4) (x5) (x6) (x7) (x8) (x9) (x10) (x11) (x12) (x13) (x14) (x15) (x16) (x17) ((((Go.AI.elemAt x3 (3 : Int)).getD 0 PV.u)).toI) (x19) (x20) (x21) (x22) (x23) (x24) (x25))
  else none)
  else run k f_celluloidref07_TakeCx [] at_celluloidref07_TakeCx_L2 (S_celluloidref07_TakeCx_L2 (x1) (x2) (x3) (x4) (x5) (x6) (x7) (x8) (x9) (x10) (x11) (x12) (x13) (x14) (x15) (x16) (x17) (x18) (x19) (x20) (x21) (x22) (x23) (x24) (x25))) := by kernel_rfl
theorem u_celluloidref07_TakeCx_L2_2 (k : Nat) (x1 : Int) (x2 : Int) (x3 : List (List PV)) (x4 : Int) (x5 : Int) (x6 : Int) (x7 : Int) (x8 : Int) (x9 : Int) (x10 : Int) (x11 : Int) (x12 : List UInt8) (x13 : Int) (x14 : Int) (x15 : Int) (x16 : Int) (x17 : Int) (x18 : Int) (x19 : Int) (x20 : Int) (x21 : Int) (x22 : Int) (x23 : List UInt8) (x24 : Int) (x25 : Int) : run (k + 1) f_celluloidref07_TakeCx [] at_celluloidref07_TakeCx_L2 (S_celluloidref07_TakeCx_L2_2 x1 x2 x3 x4 x5 x6 x7 x8 x9 x10 x11 x12 x13 x14 x15 x16 x17 x18 x19 x20 x21 x22 x23 x24 x25) =
  (bif (x1 == (1 : Int)) then (bif (Go.AI.inB (Go.IntKind.wrap .i64 ((Go.IntKind.wrap .i64 ((4 : Int) * x2)) + (2 : Int))) (List.length x3)) then run k f_celluloidref07_TakeCx [] at_celluloidref07_TakeCx_L2 (S_celluloidref07_TakeCx_L2_3 (x1) (x2) (x3) (x4) (x5) (x6) (x7) (x8) (x9) (x10) (x11) (x12) (x13) (x14) (x15) (x16) (x17) (x18) (x19) (x20) ((((Go.AI.elemAt x3 (Go.IntKind.wrap .i64 ((Go.IntKind.wrap .i64 ((4 : Int) * x2)) + (2 : Int)))).getD 0 PV.u)).toI) (x22) (x23) (x24) (x25))
  else none)
  else (call k f_celluloidref07_Cx [(PV.i x15), (PV.i x16), (PV.i x17), (PV.i x18), (PV.i x19), (PV.i x20), (PV.i x21), (PV.i x22)] []).bind fun r9 =>
  (call k f_celluloidref07_Done [(PV.s x23), (PV.i x24), (PV.i x25), (PV.b (((r9).1.getD 0 PV.u)).toB)] []).bind fun r10 =>
  (bif ((((r10).1.getD 2 PV.u)).toI != (0 : Int)) then some ([(PV.i (0 : Int)), (PV.i (0 : Int)), (PV.i (0 : Int)), (PV.i (0 : Int)), (PV.i (0 : Int)), (PV.i (0 : Int)), (PV.i (0 : Int)), (PV.i (0 : Int)), (PV.s (((r10).1.getD 0 PV.u)).toS), (PV.i (((r10).1.getD 1 PV.u)).toI), (PV.i (((r10).1.getD 2 PV.u)).toI)], [])
  else some ([(PV.i x15), (PV.i x16), (PV.i x17), (PV.i x18), (PV.i x19), (PV.i x20), (PV.i x21), (PV.i x22), (PV.s (((r10).1.getD 0 PV.u)).toS), (PV.i (((r10).1.getD 1 PV.u)).toI), (PV.i (((r10).1.getD 2 PV.u)).toI)], []))) := by kernel_rfl
theorem u_celluloidref07_TakeCx_L0_4 (k : Nat) (x1 : Int) (x2 : Int) (x3 : List (List PV)) (x4 : Int) (x5 : Int) (x6 : Int) (x7 : Int) (x8 : Int) (x9 : Int) (x10 : Int) (x11 : Int) (x12 : List UInt8) (x13 : Int) (x14 : Int) (x15 : Int) (x16 : Int) (x17 : Int) (x18 : Int) (x19 : Int) (x20 : Int) (x21 : Int) (x22 : Int) (x23 : List UInt8) (x24 : Int) (x25 : Int) : run (k + 1) f_celluloidref07_TakeCx [] at_celluloidref07_TakeCx_L0 (S_celluloidref07_TakeCx_L0_4 x1 x2 x3 x4 x5 x6 x7 x8 x9 x10 x11 x12 x13 x14 x15 x16 x17 x18 x19 x20 x21 x22 x23 x24 x25) =
  run k f_celluloidref07_TakeCx [] at_celluloidref07_TakeCx_L2 (S_celluloidref07_TakeCx_L2 (x1) (x2) (x3) (x4) (x5) (x6) (x7) (x8) (x9) (x10) (x11) (x12) (x13) (x14) (x15) (x16) (x17) (x18) (x19) (x20) (x21) (x22) (x23) (x24) (x25)) := by kernel_rfl
theorem u_celluloidref07_TakeCx_L2_3 (k : Nat) (x1 : Int) (x2 : Int) (x3 : List (List PV)) (x4 : Int) (x5 : Int) (x6 : Int) (x7 : Int) (x8 : Int) (x9 : Int) (x10 : Int) (x11 : Int) (x12 : List UInt8) (x13 : Int) (x14 : Int) (x15 : Int) (x16 : Int) (x17 : Int) (x18 : Int) (x19 : Int) (x20 : Int) (x21 : Int) (x22 : Int) (x23 : List UInt8) (x24 : Int) (x25 : Int) : run (k + 1) f_celluloidref07_TakeCx [] at_celluloidref07_TakeCx_L2 (S_celluloidref07_TakeCx_L2_3 x1 x2 x3 x4 x5 x6 x7 x8 x9 x10 x11 x12 x13 x14 x15 x16 x17 x18 x19 x20 x21 x22 x23 x24 x25) =
  (bif (x1 == (1 : Int)) then (bif (Go.AI.inB (Go.IntKind.wrap .i64 ((Go.IntKind.wrap .i64 ((4 : Int) * x2)) + (3 : Int))) (List.length x3)) then run k f_celluloidref07_TakeCx [] at_celluloidref07_TakeCx_L2 (S_celluloidref07_TakeCx_L2_4 (x1) (x2) (x3) (x4) (x5) (x6) (x7) (x8) (x9) (x10) (x11) (x12) (x13) (x14) (x15) (x16) (x17) (x18) (x19) (x20) (x21) ((((Go.AI.elemAt x3 (Go.IntKind.wrap .i64 ((Go.IntKind.wrap .i64 ((4 : Int) * x2)) + (3 : Int)))).getD 0 PV.u)).toI) (x23) (x24) (x25))
  else none)
  else (call k f_celluloidref07_Cx [(PV.i x15), (PV.i x16), (PV.i x17), (PV.i x18), (PV.i x19), (PV.i x20), (PV.i x21), (PV.i x22)] []).bind fun r11 =>
  (call k f_celluloidref07_Done [(PV.s x23), (PV.i x24), (PV.i x25), (PV.b (((r11).1.getD 0 PV.u)).toB)] []).bind fun r12 =>
  (bif ((((r12).1.getD 2 PV.u)).toI != (0 : Int)) then some ([(PV.i (0 : Int)), (PV.i (0 : Int)), (PV.i (0 : Int)), (PV.i (0 : Int)), (PV.i (0 : Int)), (PV.i (0 : Int)), (PV.i (0 : Int)), (PV.i (0 : Int)), (PV.s (((r12).1.getD 0 PV.u)).toS), (PV.i (((r12).1.getD 1 PV.u)).toI), (PV.i (((r12).1.getD 2 PV.u)).toI)], [])
  else some ([(PV.i x15), (PV.i x16), (PV.i x17), (PV.i x18), (PV.i x19), (PV.i x20), (PV.i x21), (PV.i x22), (PV.s (((r12).1.getD 0 PV.u)).toS), (PV.i (((r12).1.getD 1 PV.u)).toI), (PV.i (((r12).1.getD 2 PV.u)).toI)], []))) := by kernel_rfl
theorem u_celluloidref07_TakeCx_L2_4 (k : Nat) (x1 : Int) (x2 : Int) (x3 : List (List PV)) (x4 : Int) (x5 : Int) (x6 : Int) (x7 : Int) (x8 : Int) (x9 : Int) (x10 : Int) (x11 : Int) (x12 : List UInt8) (x13 : Int) (x14 : Int) (x15 : Int) (x16 : Int) (x17 : Int) (x18 : Int) (x19 : Int) (x20 : Int) (x21 : Int) (x22 : Int) (x23 : List UInt8) (x24 : Int) (x25 : Int) : run (k + 1) f_celluloidref07_TakeCx [] at_celluloidref07_TakeCx_L2 (S_celluloidref07_TakeCx_L2_4 x1 x2 x3 x4 x5 x6 x7 x8 x9 x10 x11 x12 x13 x14 x15 x16 x17 x18 x19 x20 x21 x22 x23 x24 x25) =
  (call k f_celluloidref07_Cx [(PV.i x15), (PV.i x16), (PV.i x17), (PV.i x18), (PV.i x19), (PV.i x20), (PV.i x21), (PV.i x22)] []).bind fun r13 =>
  (call k f_celluloidref07_Done [(PV.s x23), (PV.i x24), (PV.i x25), (PV.b (((r13).1.getD 0 PV.u)).toB)] []).bind fun r14 =>
  (bif ((((r14).1.getD 2 PV.u)).toI != (0 : Int)) then some ([(PV.i (0 : Int)), (PV.i (0 : Int)), (PV.i (0 : Int)), (PV.i (0 : Int)), (PV.i (0 : Int)), (PV.i (0 : Int)), (PV.i (0 : Int)), (PV.i (0 : Int)), (PV.s (((r14).1.getD 0 PV.u)).toS), (PV.i (((r14).1.getD 1 PV.u)).toI), (PV.i (((r14).1.getD 2 PV.u)).toI)], [])
  else some ([(PV.i x15), (PV.i x16), (PV.i x17), (PV.i x18), (PV.i x19), (PV.i x20), (PV.i x21), (PV.i x22), (PV.s (((r14).1.getD 0 PV.u)).toS), (PV.i (((r14).1.getD 1 PV.u)).toI), (PV.i (((r14).1.getD 2 PV.u)).toI)], [])) := by kernel_rfl
/- celluloid/celluloidref07.TakeRGBA -/
theorem u_celluloidref07_TakeRGBA (k : Nat) (a1 : List UInt8) (a2 : Int) : call (k + 1) f_celluloidref07_TakeRGBA [.s a1, .i a2] [] =
  (call k f_celluloidref02_Bytes [(PV.s a1), (PV.i a2), (PV.i (4 : Int))] []).bind fun r1 =>
  (bif ((((r1).1.getD 3 PV.u)).toI != (0 : Int)) then some ([(PV.i (0 : Int)), (PV.i (0 : Int)), (PV.i (0 : Int)), (PV.i (0 : Int)), (PV.s []), (PV.i (0 : Int)), (PV.i (((r1).1.getD 3 PV.u)).toI)], [])
  else (bif (Go.AI.inB (0 : Int) (List.length (((r1).1.getD 0 PV.u)).toS)) then (bif (Go.AI.inB (1 : Int) (List.length (((r1).1.getD 0 PV.u)).toS)) then (bif (Go.AI.inB (2 : Int) (List.length (((r1).1.getD 0 PV.u)).toS)) then (bif (Go.AI.inB (3 : Int) (List.length (((r1).1.getD 0 PV.u)).toS)) then some ([(PV.i (Go.IntKind.wrap .i64 (Go.AI.bt (((r1).1.getD 0 PV.u)).toS (0 : Int)))), (PV.i (Go.IntKind.wrap .i64 (Go.AI.bt (((r1).1.getD 0 PV.u)).toS (1 : Int)))), (PV.i (Go.IntKind.wrap .i64 (Go.AI.bt (((r1).1.getD 0 PV.u)).toS (2 : Int)))), (PV.i (Go.IntKind.wrap .i64 (Go.AI.bt (((r1).1.getD 0 PV.u)).toS (3 : Int)))), (PV.s (((r1).1.getD 1 PV.u)).toS), (PV.i (((r1).1.getD 2 PV.u)).toI), (PV.i (0 : Int))], [])
  else none)
  else none)
  else none)
  else none)) := by kernel_rfl
/- celluloid/bits.PutAlign -/
theorem u_bits_PutAlign (k : Nat) (a1 : List UInt8) (a2 : Int) : call (k + 1) f_bits_PutAlign [.s a1, .i a2] [] =
  some ([(PV.s a1), (PV.i (0 : Int))], []) := by kernel_rfl
/- (*celluloid/field.writer).signed -/
noncomputable def S___celluloid_field_writer__signed_L0 (x1 : Int) (x2 : List (List PV)) (x3 : Int) (x4 : Int) (x5 : List UInt8) (x6 : Int) : St := mkSt [(0, .v (.ptr (.p 0) 0)), (6, .v (.int .i64 x1)), (15, .v (.sl 3 x2)), (16, .v (.int .i64 x3)), (17, .v (.int .i64 x4))] [((.p 0), .cells 80 [.str x5, .int .i64 x6])] 1000 35
noncomputable def at___celluloid_field_writer__signed_L0 : List Item := (atLoop Try.f37 0)
theorem u___celluloid_field_writer__signed (k : Nat) (a2 : Int) (a3 : List (List PV)) (p0_1 : List UInt8) (p0_2 : Int) : call (k + 1) f___celluloid_field_writer__signed [.u, .i a2, .l a3] [(t_field_writer, [.s p0_1, .i p0_2])] =
  (call k f_bits_Width [(PV.l a3)] []).bind fun r1 =>
  (call k f___celluloid_field_writer__plain [PV.u, (PV.i (((r1).1.getD 0 PV.u)).toI), (PV.i a2)] [(t_field_writer, [(PV.s p0_1), (PV.i p0_2)])]).bind fun r2 =>
  run k f___celluloid_field_writer__signed [t_field_writer] at___celluloid_field_writer__signed_L0 (S___celluloid_field_writer__signed_L0 ((((r1).1.getD 0 PV.u)).toI) (a3) ((((List.length a3) : Nat) : Int)) ((0 : Int)) ((((((r2).2.getD 0 (0, []))).2.getD 0 PV.u)).toS) ((((((r2).2.getD 0 (0, []))).2.getD 1 PV.u)).toI)) := by kernel_rfl
theorem u___celluloid_field_writer__signed_L0 (k : Nat) (x1 : Int) (x2 : List (List PV)) (x3 : Int) (x4 : Int) (x5 : List UInt8) (x6 : Int) : run (k + 1) f___celluloid_field_writer__signed [t_field_writer] at___celluloid_field_writer__signed_L0 (S___celluloid_field_writer__signed_L0 x1 x2 x3 x4 x5 x6) =
  (bif (decide (x4 < x3)) then (bif (Go.AI.inB x4 (List.length x2)) then (call k f_bits_PutSigned [(PV.s x5), (PV.i x6), (PV.i (((Go.AI.elemAt x2 x4).getD 0 PV.u)).toI), (PV.i x1)] []).bind fun r3 =>
  run k f___celluloid_field_writer__signed [t_field_writer] at___celluloid_field_writer__signed_L0 (S___celluloid_field_writer__signed_L0 (x1) (x2) (x3) ((Go.IntKind.wrap .i64 (x4 + (1 : Int)))) ((((r3).1.getD 0 PV.u)).toS) ((((r3).1.getD 1 PV.u)).toI))
  else none)
  else some ([], [(t_field_writer, [(PV.s x5), (PV.i x6)])])) := by kernel_rfl
/- (*celluloid/field.writer).done -/
theorem u___celluloid_field_writer__done (k : Nat) (p0_1 : List UInt8) (p0_2 : Int) : call (k + 1) f___celluloid_field_writer__done [.u] [(t_field_writer, [.s p0_1, .i p0_2])] =
  (call k f_bits_PutAlign [(PV.s p0_1), (PV.i p0_2)] []).bind fun r1 =>
  some ([(PV.s (((r1).1.getD 0 PV.u)).toS), (PV.i (((r1).1.getD 1 PV.u)).toI)], [(t_field_writer, [(PV.s p0_1), (PV.i p0_2)])]) := by kernel_rfl
/- (*celluloid/field.writer).flag -/
theorem u___celluloid_field_writer__flag (k : Nat) (a2 : Bool) (p0_1 : List UInt8) (p0_2 : Int) : call (k + 1) f___celluloid_field_writer__flag [.u, .b a2] [(t_field_writer, [.s p0_1, .i p0_2])] =
  (bif a2 then (call k f___celluloid_field_writer__plain [PV.u, (PV.i (1 : Int)), (PV.i (1 : Int))] [(t_field_writer, [(PV.s p0_1), (PV.i p0_2)])]).bind fun r1 =>
  some ([], [(t_field_writer, [(PV.s (((((r1).2.getD 0 (0, []))).2.getD 0 PV.u)).toS), (PV.i (((((r1).2.getD 0 (0, []))).2.getD 1 PV.u)).toI)])])
  else (call k f___celluloid_field_writer__plain [PV.u, (PV.i (0 : Int)), (PV.i (1 : Int))] [(t_field_writer, [(PV.s p0_1), (PV.i p0_2)])]).bind fun r2 =>
  some ([], [(t_field_writer, [(PV.s (((((r2).2.getD 0 (0, []))).2.getD 0 PV.u)).toS), (PV.i (((((r2).2.getD 0 (0, []))).2.getD 1 PV.u)).toI)])])) := by kernel_rfl
/- math/bits.Len -/
theorem u_math_bits_Len (k : Nat) (a1 : Int) : call (k + 1) f_math_bits_Len [.i a1] [] =
  (call k f_math_bits_Len64 [(PV.i a1)] []).bind fun r1 =>
  some ([(PV.i (((r1).1.getD 0 PV.u)).toI)], []) := by kernel_rfl
/- celluloid/field.Same -/
theorem u_field_Same (k : Nat)  : call (k + 1) f_field_Same [] [] =
  some ([(PV.i (65536 : Int)), (PV.i (0 : Int)), (PV.i (0 : Int)), (PV.i (65536 : Int)), (PV.i (0 : Int)), (PV.i (0 : Int))], []) := by kernel_rfl
/- celluloid/field.Plain -/
theorem u_field_Plain (k : Nat)  : call (k + 1) f_field_Plain [] [] =
  some ([(PV.i (256 : Int)), (PV.i (256 : Int)), (PV.i (256 : Int)), (PV.i (256 : Int)), (PV.i (0 : Int)), (PV.i (0 : Int)), (PV.i (0 : Int)), (PV.i (0 : Int))], []) := by kernel_rfl
/- celluloid/bits.PutBytes -/
theorem u_bits_PutBytes (k : Nat) (a1 : List UInt8) (a2 : Int) (a3 : List UInt8) : call (k + 1) f_bits_PutBytes [.s a1, .i a2, .s a3] [] =
  (bif (decide (((List.length a1) + (List.length a3)) ≤ 1099511627776)) then some ([(PV.s (a1 ++ a3)), (PV.i (0 : Int))], [])
  else none) := by kernel_rfl
/- celluloid/celluloidref07.in -/
theorem u_celluloidref07_in (k : Nat) (a1 : Int) (a2 : Int) : call (k + 1) f_celluloidref07_in [.i a1, .i a2] [] =
  ((bif (decide (a1 ≥ (Go.IntKind.wrap .i64 ((0 : Int) - a2)))) then some [(PV.b (decide (a1 ≤ a2)))]
   else some [(PV.b false)])).bind fun r1 =>
  some ([(PV.b ((r1.getD 0 PV.u)).toB)], []) := by kernel_rfl
/- celluloid/field.within -/
noncomputable def S_field_within_L0 (x1 : Int) (x2 : Int) (x3 : List (List PV)) (x4 : Int) (x5 : Int) : St := mkSt [(0, .v (.int .i64 x1)), (1, .v (.int .i64 x2)), (9, .v (.sl 3 x3)), (10, .v (.int .i64 x4)), (11, .v (.int .i64 x5)), (19, .any), (20, .any), (21, .any)] [] 1000 24
noncomputable def at_field_within_L0 : List Item := (atLoop Try.f45 0)
theorem u_field_within (k : Nat) (a1 : Int) (a2 : Int) (a3 : List (List PV)) : call (k + 1) f_field_within [.i a1, .i a2, .l a3] [] =
  run k f_field_within [] at_field_within_L0 (S_field_within_L0 (a1) (a2) (a3) ((((List.length a3) : Nat) : Int)) ((0 : Int))) := by kernel_rfl
theorem u_field_within_L0 (k : Nat) (x1 : Int) (x2 : Int) (x3 : List (List PV)) (x4 : Int) (x5 : Int) : run (k + 1) f_field_within [] at_field_within_L0 (S_field_within_L0 x1 x2 x3 x4 x5) =
  (bif (decide (x5 < x4)) then (bif (Go.AI.inB x5 (List.length x3)) then ((bif (decide ((((Go.AI.elemAt x3 x5).getD 0 PV.u)).toI < x1)) then some [(PV.b true)]
   else some [(PV.b (decide ((((Go.AI.elemAt x3 x5).getD 0 PV.u)).toI > x2)))])).bind fun r1 =>
  (bif ((r1.getD 0 PV.u)).toB then some ([(PV.b false)], [])
  else run k f_field_within [] at_field_within_L0 (S_field_within_L0 (x1) (x2) (x3) (x4) ((Go.IntKind.wrap .i64 (x5 + (1 : Int))))))
  else none)
  else some ([(PV.b true)], [])) := by kernel_rfl
/- celluloid/celluloidref07.numbers -/
noncomputable def S_celluloidref07_numbers_L0 (x1 : List (List PV)) (x2 : Int) (x3 : Int) (x4 : List UInt8) (x5 : Int) (x6 : List UInt8) (x7 : Int) : St := mkSt [(2, .v (.sl 3 x1)), (3, .v (.ptr (.n 1 0 0) 0)), (6, .v (.ptr (.n 1 1 0) 0)), (7, .v (.int .i64 x2)), (8, .v (.int .i64 x3))] [((.n 1 0 0), .cells 93 [.str x4, .int .i64 x5]), ((.n 1 1 0), .cells 93 [.str x6, .int .i64 x7])] 1000 35
noncomputable def at_celluloidref07_numbers_L0 : List Item := (atLoop Try.f46 0)
theorem u_celluloidref07_numbers (k : Nat) (a1 : List UInt8) (a2 : Int) (a3 : Int) (a4 : List (List PV)) : call (k + 1) f_celluloidref07_numbers [.s a1, .i a2, .i a3, .l a4] [] =
  (call k f_celluloidref07_width [(PV.l a4)] []).bind fun r1 =>
  (call k f_celluloidref02_PutPlain [(PV.s a1), (PV.i a2), (PV.i (((r1).1.getD 0 PV.u)).toI), (PV.i a3)] []).bind fun r2 =>
  run k f_celluloidref07_numbers [] at_celluloidref07_numbers_L0 (S_celluloidref07_numbers_L0 (a4) ((((r1).1.getD 0 PV.u)).toI) ((0 : Int)) ((((r2).1.getD 0 PV.u)).toS) ((((r2).1.getD 1 PV.u)).toI) ([]) ((0 : Int))) := by kernel_rfl
theorem u_celluloidref07_numbers_L0 (k : Nat) (x1 : List (List PV)) (x2 : Int) (x3 : Int) (x4 : List UInt8) (x5 : Int) (x6 : List UInt8) (x7 : Int) : run (k + 1) f_celluloidref07_numbers [] at_celluloidref07_numbers_L0 (S_celluloidref07_numbers_L0 x1 x2 x3 x4 x5 x6 x7) =
  (bif (decide (x3 < (((List.length x1) : Nat) : Int))) then (bif (Go.AI.inB x3 (List.length x1)) then (call k f_celluloidref02_PutSigned [(PV.s x4), (PV.i x5), (PV.i (((Go.AI.elemAt x1 x3).getD 0 PV.u)).toI), (PV.i x2)] []).bind fun r3 =>
  run k f_celluloidref07_numbers [] at_celluloidref07_numbers_L0 (S_celluloidref07_numbers_L0 (x1) (x2) ((Go.IntKind.wrap .i64 (x3 + (1 : Int)))) ((((r3).1.getD 0 PV.u)).toS) ((((r3).1.getD 1 PV.u)).toI) (x6) (x7))
  else none)
  else some ([(PV.s x4), (PV.i x5)], [])) := by kernel_rfl
/- celluloid/celluloidref07.flag -/
theorem u_celluloidref07_flag (k : Nat) (a1 : List UInt8) (a2 : Int) (a3 : Bool) : call (k + 1) f_celluloidref07_flag [.s a1, .i a2, .b a3] [] =
  (bif a3 then (call k f_celluloidref02_PutPlain [(PV.s a1), (PV.i a2), (PV.i (1 : Int)), (PV.i (1 : Int))] []).bind fun r1 =>
  some ([(PV.s (((r1).1.getD 0 PV.u)).toS), (PV.i (((r1).1.getD 1 PV.u)).toI)], [])
  else (call k f_celluloidref02_PutPlain [(PV.s a1), (PV.i a2), (PV.i (0 : Int)), (PV.i (1 : Int))] []).bind fun r2 =>
  some ([(PV.s (((r2).1.getD 0 PV.u)).toS), (PV.i (((r2).1.getD 1 PV.u)).toI)], [])) := by kernel_rfl
/- celluloid/field.begin -/
theorem u_field_begin (k : Nat) (a1 : List UInt8) (a2 : Int) : call (k + 1) f_field_begin [.s a1, .i a2] [] =
  (call k f_bits_Plain [(PV.s a1), (PV.i a2), (PV.i (0 : Int))] []).bind fun r1 =>
  (call k f_bits_Align [(PV.s a1), (PV.i a2)] []).bind fun r2 =>
  some ([PV.u], [(t_field_reader, [(PV.s (((r2).1.getD 0 PV.u)).toS), (PV.i (((r2).1.getD 1 PV.u)).toI), (PV.i (((r1).1.getD 3 PV.u)).toI)])]) := by kernel_rfl
/- (*celluloid/field.reader).plain -/
theorem u___celluloid_field_reader__plain (k : Nat) (a2 : Int) (p0_1 : List UInt8) (p0_2 : Int) (p0_3 : Int) : call (k + 1) f___celluloid_field_reader__plain [.u, .i a2] [(t_field_reader, [.s p0_1, .i p0_2, .i p0_3])] =
  (bif (p0_3 != (0 : Int)) then some ([(PV.i (0 : Int))], [(t_field_reader, [(PV.s p0_1), (PV.i p0_2), (PV.i p0_3)])])
  else (call k f_bits_Plain [(PV.s p0_1), (PV.i p0_2), (PV.i a2)] []).bind fun r1 =>
  some ([(PV.i (((r1).1.getD 0 PV.u)).toI)], [(t_field_reader, [(PV.s (((r1).1.getD 1 PV.u)).toS), (PV.i (((r1).1.getD 2 PV.u)).toI), (PV.i (((r1).1.getD 3 PV.u)).toI)])])) := by kernel_rfl
/- (*celluloid/field.reader).signed -/
theorem u___celluloid_field_reader__signed (k : Nat) (a2 : Int) (p0_1 : List UInt8) (p0_2 : Int) (p0_3 : Int) : call (k + 1) f___celluloid_field_reader__signed [.u, .i a2] [(t_field_reader, [.s p0_1, .i p0_2, .i p0_3])] =
  (bif (p0_3 != (0 : Int)) then some ([(PV.i (0 : Int))], [(t_field_reader, [(PV.s p0_1), (PV.i p0_2), (PV.i p0_3)])])
  else (call k f_bits_Signed [(PV.s p0_1), (PV.i p0_2), (PV.i a2)] []).bind fun r1 =>
  some ([(PV.i (((r1).1.getD 0 PV.u)).toI)], [(t_field_reader, [(PV.s (((r1).1.getD 1 PV.u)).toS), (PV.i (((r1).1.getD 2 PV.u)).toI), (PV.i (((r1).1.getD 3 PV.u)).toI)])])) := by kernel_rfl
/- (*celluloid/field.reader).done -/
theorem u___celluloid_field_reader__done (k : Nat) (a2 : Bool) (p0_1 : List UInt8) (p0_2 : Int) (p0_3 : Int) : call (k + 1) f___celluloid_field_reader__done [.u, .b a2] [(t_field_reader, [.s p0_1, .i p0_2, .i p0_3])] =
  (bif (p0_3 != (0 : Int)) then some ([(PV.s []), (PV.i (0 : Int)), (PV.i p0_3)], [(t_field_reader, [(PV.s p0_1), (PV.i p0_2), (PV.i p0_3)])])
  else (bif (!a2) then some ([(PV.s []), (PV.i (0 : Int)), (PV.i (3 : Int))], [(t_field_reader, [(PV.s p0_1), (PV.i p0_2), (PV.i p0_3)])])
  else (call k f_bits_Align [(PV.s p0_1), (PV.i p0_2)] []).bind fun r1 =>
  some ([(PV.s (((r1).1.getD 0 PV.u)).toS), (PV.i (((r1).1.getD 1 PV.u)).toI), (PV.i (0 : Int))], [(t_field_reader, [(PV.s p0_1), (PV.i p0_2), (PV.i p0_3)])]))) := by kernel_rfl
/- celluloid/bits.Bytes -/
theorem u_bits_Bytes (k : Nat) (a1 : List UInt8) (a2 : Int) (a3 : Int) : call (k + 1) f_bits_Bytes [.s a1, .i a2, .i a3] [] =
  ((call k f_bits_right [(PV.s a1), (PV.i a2)] []).bind fun r1 =>
   (bif (!(((r1).1.getD 0 PV.u)).toB) then some [(PV.b true)]
   else some [(PV.b (decide (a3 < (0 : Int))))])).bind fun r2 =>
  (bif ((r2.getD 0 PV.u)).toB then some ([(PV.s []), (PV.s []), (PV.i (0 : Int)), (PV.i (1 : Int))], [])
  else (call k f_bits_Align [(PV.s a1), (PV.i a2)] []).bind fun r3 =>
  (bif (decide (a3 > (Go.IntKind.wrap .i64 ((((List.length a1) : Nat) : Int) - (Go.IntKind.wrap .i64 (Int.tdiv (((r3).1.getD 1 PV.u)).toI (8 : Int))))))) then some ([(PV.s []), (PV.s []), (PV.i (0 : Int)), (PV.i (2 : Int))], [])
  else (bif (Go.AI.okB (Go.IntKind.wrap .i64 (Int.tdiv (((r3).1.getD 1 PV.u)).toI (8 : Int))) (Go.IntKind.wrap .i64 ((Go.IntKind.wrap .i64 (Int.tdiv (((r3).1.getD 1 PV.u)).toI (8 : Int))) + a3)) (List.length a1)) then some ([(PV.s (Go.AI.cutL (Go.IntKind.wrap .i64 (Int.tdiv (((r3).1.getD 1 PV.u)).toI (8 : Int))) (Go.IntKind.wrap .i64 ((Go.IntKind.wrap .i64 (Int.tdiv (((r3).1.getD 1 PV.u)).toI (8 : Int))) + a3)) a1)), (PV.s a1), (PV.i (Go.IntKind.wrap .i64 ((8 : Int) * (Go.IntKind.wrap .i64 ((Go.IntKind.wrap .i64 (Int.tdiv (((r3).1.getD 1 PV.u)).toI (8 : Int))) + a3))))), (PV.i (0 : Int))], [])
  else none))) := by kernel_rfl
/- celluloid/celluloidref07.several -/
noncomputable def S_celluloidref07_several_L0 (x1 : Int) (x2 : Int) (x3 : Int) (x4 : List (List PV)) (x5 : List UInt8) (x6 : Int) (x7 : Int) (x8 : List UInt8) (x9 : Int) (x10 : Int) : St := mkSt [(2, .v (.int .i64 x1)), (3, .v (.ptr (.n 1 0 0) 0)), (7, .v (.ptr (.n 1 2 0) 0)), (8, .v (.int .i64 x2)), (9, .v (.wr (.w 9))), (10, .v (.int .i64 x3))] [((.w 9), .row 3 x4), ((.n 1 0 0), .cells 64 [.str x5, .int .i64 x6, .int .i64 x7]), ((.n 1 2 0), .cells 64 [.str x8, .int .i64 x9, .int .i64 x10])] 1000 35
noncomputable def at_celluloidref07_several_L0 : List Item := (atLoop Try.f53 0)
theorem u_celluloidref07_several (k : Nat) (a1 : List UInt8) (a2 : Int) (a3 : Int) (a4 : Int) (a5 : Int) : call (k + 1) f_celluloidref07_several [.s a1, .i a2, .i a3, .i a4, .i a5] [] =
  (call k f_celluloidref07_Plain [(PV.s a1), (PV.i a2), (PV.i a3), (PV.i a4)] []).bind fun r1 =>
  (bif ((decide ((0 : Int) ≤ a5)) && ((decide (a5 ≤ a5)) && (decide (a5 ≤ (1073741824 : Int))))) then run k f_celluloidref07_several [] at_celluloidref07_several_L0 (S_celluloidref07_several_L0 (a5) ((((r1).1.getD 0 PV.u)).toI) ((0 : Int)) ((List.replicate (Int.toNat a5) [(PV.i (0 : Int))])) ((((r1).1.getD 1 PV.u)).toS) ((((r1).1.getD 2 PV.u)).toI) ((((r1).1.getD 3 PV.u)).toI) ([]) ((0 : Int)) ((0 : Int)))
  else none) := by kernel_rfl
theorem u_celluloidref07_several_L0 (k : Nat) (x1 : Int) (x2 : Int) (x3 : Int) (x4 : List (List PV)) (x5 : List UInt8) (x6 : Int) (x7 : Int) (x8 : List UInt8) (x9 : Int) (x10 : Int) : run (k + 1) f_celluloidref07_several [] at_celluloidref07_several_L0 (S_celluloidref07_several_L0 x1 x2 x3 x4 x5 x6 x7 x8 x9 x10) =
  (bif (decide (x3 < x1)) then (call k f_celluloidref07_Signed [(PV.s x5), (PV.i x6), (PV.i x7), (PV.i x2)] []).bind fun r2 =>
  (bif (Go.AI.inB x3 (List.length x4)) then (bif (Go.AI.inB x3 (List.length x4)) then run k f_celluloidref07_several [] at_celluloidref07_several_L0 (S_celluloidref07_several_L0 (x1) (x2) ((Go.IntKind.wrap .i64 (x3 + (1 : Int)))) ((List.set x4 (Int.toNat x3) (Go.AI.putAt (Go.AI.elemAt x4 x3) 0 [(PV.i (((r2).1.getD 0 PV.u)).toI)]))) ((((r2).1.getD 1 PV.u)).toS) ((((r2).1.getD 2 PV.u)).toI) ((((r2).1.getD 3 PV.u)).toI) (x8) (x9) (x10))
  else none)
  else none)
  else some ([(PV.l x4), (PV.s x5), (PV.i x6), (PV.i x7)], [])) := by kernel_rfl
/- celluloid/celluloidref07.Begin -/
theorem u_celluloidref07_Begin (k : Nat) (a1 : List UInt8) (a2 : Int) : call (k + 1) f_celluloidref07_Begin [.s a1, .i a2] [] =
  (call k f_celluloidref02_Right [(PV.s a1), (PV.i a2)] []).bind fun r1 =>
  (bif (!(((r1).1.getD 0 PV.u)).toB) then some ([(PV.s []), (PV.i (0 : Int)), (PV.i (1 : Int))], [])
  else (call k f_celluloidref02_Align [(PV.s a1), (PV.i a2)] []).bind fun r2 =>
  some ([(PV.s (((r2).1.getD 0 PV.u)).toS), (PV.i (((r2).1.getD 1 PV.u)).toI), (PV.i (0 : Int))], [])) := by kernel_rfl
/- celluloid/celluloidref07.Done -/
theorem u_celluloidref07_Done (k : Nat) (a1 : List UInt8) (a2 : Int) (a3 : Int) (a4 : Bool) : call (k + 1) f_celluloidref07_Done [.s a1, .i a2, .i a3, .b a4] [] =
  (bif (a3 != (0 : Int)) then some ([(PV.s []), (PV.i (0 : Int)), (PV.i a3)], [])
  else (bif (!a4) then some ([(PV.s []), (PV.i (0 : Int)), (PV.i (3 : Int))], [])
  else (call k f_celluloidref02_Align [(PV.s a1), (PV.i a2)] []).bind fun r1 =>
  some ([(PV.s (((r1).1.getD 0 PV.u)).toS), (PV.i (((r1).1.getD 1 PV.u)).toI), (PV.i (0 : Int))], []))) := by kernel_rfl
/- celluloid/celluloidref07.Plain -/
theorem u_celluloidref07_Plain (k : Nat) (a1 : List UInt8) (a2 : Int) (a3 : Int) (a4 : Int) : call (k + 1) f_celluloidref07_Plain [.s a1, .i a2, .i a3, .i a4] [] =
  (bif (a3 != (0 : Int)) then some ([(PV.i (0 : Int)), (PV.s a1), (PV.i a2), (PV.i a3)], [])
  else (call k f_celluloidref02_Plain [(PV.s a1), (PV.i a2), (PV.i a4)] []).bind fun r1 =>
  some ([(PV.i (((r1).1.getD 0 PV.u)).toI), (PV.s (((r1).1.getD 1 PV.u)).toS), (PV.i (((r1).1.getD 2 PV.u)).toI), (PV.i (((r1).1.getD 3 PV.u)).toI)], [])) := by kernel_rfl
/- celluloid/celluloidref02.Bytes -/
theorem u_celluloidref02_Bytes (k : Nat) (a1 : List UInt8) (a2 : Int) (a3 : Int) : call (k + 1) f_celluloidref02_Bytes [.s a1, .i a2, .i a3] [] =
  ((call k f_celluloidref02_Right [(PV.s a1), (PV.i a2)] []).bind fun r1 =>
   (bif (!(((r1).1.getD 0 PV.u)).toB) then some [(PV.b true)]
   else some [(PV.b (decide (a3 < (0 : Int))))])).bind fun r2 =>
  (bif ((r2.getD 0 PV.u)).toB then some ([(PV.s []), (PV.s []), (PV.i (0 : Int)), (PV.i (1 : Int))], [])
  else (call k f_celluloidref02_Align [(PV.s a1), (PV.i a2)] []).bind fun r3 =>
  (bif (decide ((Go.IntKind.wrap .i64 ((((List.length a1) : Nat) : Int) - (Go.IntKind.wrap .i64 (Int.tdiv (((r3).1.getD 1 PV.u)).toI (8 : Int))))) < a3)) then some ([(PV.s []), (PV.s []), (PV.i (0 : Int)), (PV.i (2 : Int))], [])
  else (bif (Go.AI.okB (Go.IntKind.wrap .i64 (Int.tdiv (((r3).1.getD 1 PV.u)).toI (8 : Int))) (Go.IntKind.wrap .i64 ((Go.IntKind.wrap .i64 (Int.tdiv (((r3).1.getD 1 PV.u)).toI (8 : Int))) + a3)) (List.length a1)) then some ([(PV.s (Go.AI.cutL (Go.IntKind.wrap .i64 (Int.tdiv (((r3).1.getD 1 PV.u)).toI (8 : Int))) (Go.IntKind.wrap .i64 ((Go.IntKind.wrap .i64 (Int.tdiv (((r3).1.getD 1 PV.u)).toI (8 : Int))) + a3)) a1)), (PV.s a1), (PV.i (Go.IntKind.wrap .i64 ((8 : Int) * (Go.IntKind.wrap .i64 ((Go.IntKind.wrap .i64 (Int.tdiv (((r3).1.getD 1 PV.u)).toI (8 : Int))) + a3))))), (PV.i (0 : Int))], [])
  else none))) := by kernel_rfl
/- (*celluloid/field.writer).plain -/
theorem u___celluloid_field_writer__plain (k : Nat) (a2 : Int) (a3 : Int) (p0_1 : List UInt8) (p0_2 : Int) : call (k + 1) f___celluloid_field_writer__plain [.u, .i a2, .i a3] [(t_field_writer, [.s p0_1, .i p0_2])] =
  (call k f_bits_PutPlain [(PV.s p0_1), (PV.i p0_2), (PV.i a2), (PV.i a3)] []).bind fun r1 =>
  some ([], [(t_field_writer, [(PV.s (((r1).1.getD 0 PV.u)).toS), (PV.i (((r1).1.getD 1 PV.u)).toI)])]) := by kernel_rfl
/- celluloid/bits.PutSigned -/
theorem u_bits_PutSigned (k : Nat) (a1 : List UInt8) (a2 : Int) (a3 : Int) (a4 : Int) : call (k + 1) f_bits_PutSigned [.s a1, .i a2, .i a3, .i a4] [] =
  ((bif (decide (a4 < (0 : Int))) then some [(PV.b true)]
   else (bif (decide (a4 > (31 : Int))) then some [(PV.b true)]
   else (call k f_bits_Width [(PV.l (List.set [[(PV.i (0 : Int))]] 0 [(PV.i a3)]))] []).bind fun r1 =>
   some [(PV.b (decide ((((r1).1.getD 0 PV.u)).toI > a4)))]))).bind fun r2 =>
  (bif ((r2.getD 0 PV.u)).toB then some ([(PV.s []), (PV.i (0 : Int)), (PV.i (1 : Int))], [])
  else (bif (decide (a3 < (0 : Int))) then (bif (decide ((0 : Int) ≤ a4)) then (call k f_bits_PutPlain [(PV.s a1), (PV.i a2), (PV.i (Go.IntKind.wrap .i64 (a3 + (Go.AI.shl .i64 (1 : Int) a4)))), (PV.i a4)] []).bind fun r3 =>
  some ([(PV.s (((r3).1.getD 0 PV.u)).toS), (PV.i (((r3).1.getD 1 PV.u)).toI), (PV.i (((r3).1.getD 2 PV.u)).toI)], [])
  else none)
  else (call k f_bits_PutPlain [(PV.s a1), (PV.i a2), (PV.i a3), (PV.i a4)] []).bind fun r4 =>
  some ([(PV.s (((r4).1.getD 0 PV.u)).toS), (PV.i (((r4).1.getD 1 PV.u)).toI), (PV.i (((r4).1.getD 2 PV.u)).toI)], []))) := by kernel_rfl
/- math/bits.Len32 -/
theorem u_math_bits_Len32 (k : Nat) (a1 : Int) : call (k + 1) f_math_bits_Len32 [.i a1] [] =
  (bif (decide (a1 ≥ (65536 : Int))) then (bif (decide ((Go.AI.shr .u32 a1 (16 : Int)) ≥ (256 : Int))) then (bif (Go.AI.inB (Go.IntKind.wrap .u8 (Go.AI.shr .u32 (Go.AI.shr .u32 a1 (16 : Int)) (8 : Int))) 256) then some ([(PV.i (Go.IntKind.wrap .i64 ((24 : Int) + (Go.IntKind.wrap .i64 (Go.AI.bt [0, 1, 2, 2, 3, 3, 3, 3, 4, 4, 4, 4, 4, 4, 4, 4, 5, 5, 5, 5, 5, 5, 5, 5, 5, 5, 5, 5, 5, 5, 5, 5, 6, 6, 6, 6, 6, 6, 6, 6, 6, 6, 6, 6, 6, 6, 6, 6, 6, 6, 6, 6, 6, 6, 6, 6, 6, 6, 6, 6, 6, 6, 6, 6, 7, 7, 7, 7, 7, 7, 7, 7, 7, 7, 7, 7, 7, 7, 7, 7, 7, 7, 7, 7, 7, 7, 7, 7, 7, 7, 7, 7, 7, 7, 7, 7, 7, 7, 7, 7, 7, 7, 7, 7, 7, 7, 7, 7, 7, 7, 7, 7, 7, 7, 7, 7, 7, 7, 7, 7, 7, 7, 7, 7, 7, 7, 7, 7, 8, 8, 8, 8, 8, 8, 8, 8, 8, 8, 8, 8, 8, 8, 8, 8, 8, 8, 8, 8, 8, 8, 8, 8, 8, 8, 8, 8, 8, 8, 8, 8, 8, 8, 8, 8, 8, 8, 8, 8, 8, 8, 8, 8, 8, 8, 8, 8, 8, 8, 8, 8, 8, 8, 8, 8, 8, 8, 8, 8, 8, 8, 8, 8, 8, 8, 8, 8, 8, 8, 8, 8, 8, 8, 8, 8, 8, 8, 8, 8, 8, 8, 8, 8, 8, 8, 8, 8, 8, 8, 8, 8, 8, 8, 8, 8, 8, 8, 8, 8, 8, 8, 8, 8, 8, 8, 8, 8, 8, 8, 8, 8, 8, 8, 8, 8, 8, 8, 8, 8, 8, 8, 8, 8, 8, 8, 8, 8] (Go.IntKind.wrap .u8 (Go.AI.shr .u32 (Go.AI.shr .u32 a1 (16 : Int)) (8 : Int))))))))], [])
  else none)
  else (bif (Go.AI.inB (Go.IntKind.wrap .u8 (Go.AI.shr .u32 a1 (16 : Int))) 256) then some ([(PV.i (Go.IntKind.wrap .i64 ((16 : Int) + (Go.IntKind.wrap .i64 (Go.AI.bt [0, 1, 2, 2, 3, 3, 3, 3, 4, 4, 4, 4, 4, 4, 4, 4, 5, 5, 5, 5, 5, 5, 5, 5, 5, 5, 5, 5, 5, 5, 5, 5, 6, 6, 6, 6, 6, 6, 6, 6, 6, 6, 6, 6, 6, 6, 6, 6, 6, 6, 6, 6, 6, 6, 6, 6, 6, 6, 6, 6, 6, 6, 6, 6, 7, 7, 7, 7, 7, 7, 7, 7, 7, 7, 7, 7, 7, 7, 7, 7, 7, 7, 7, 7, 7, 7, 7, 7, 7, 7, 7, 7, 7, 7, 7, 7, 7, 7, 7, 7, 7, 7, 7, 7, 7, 7, 7, 7, 7, 7, 7, 7, 7, 7, 7, 7, 7, 7, 7, 7, 7, 7, 7, 7, 7, 7, 7, 7, 8, 8, 8, 8, 8, 8, 8, 8, 8, 8, 8, 8, 8, 8, 8, 8, 8, 8, 8, 8, 8, 8, 8, 8, 8, 8, 8, 8, 8, 8, 8, 8, 8, 8, 8, 8, 8, 8, 8, 8, 8, 8, 8, 8, 8, 8, 8, 8, 8, 8, 8, 8, 8, 8, 8, 8, 8, 8, 8, 8, 8, 8, 8, 8, 8, 8, 8, 8, 8, 8, 8, 8, 8, 8, 8, 8, 8, 8, 8, 8, 8, 8, 8, 8, 8, 8, 8, 8, 8, 8, 8, 8, 8, 8, 8, 8, 8, 8, 8, 8, 8, 8, 8, 8, 8, 8, 8, 8, 8, 8, 8, 8, 8, 8, 8, 8, 8, 8, 8, 8, 8, 8, 8, 8, 8, 8, 8, 8] (Go.IntKind.wrap .u8 (Go.AI.shr .u32 a1 (16 : Int))))))))], [])
  else none))
  else (bif (decide (a1 ≥ (256 : Int))) then (bif (Go.AI.inB (Go.IntKind.wrap .u8 (Go.AI.shr .u32 a1 (8 : Int))) 256) then some ([(PV.i (Go.IntKind.wrap .i64 ((8 : Int) + (Go.IntKind.wrap .i64 (Go.AI.bt [0, 1, 2, 2, 3, 3, 3, 3, 4, 4, 4, 4, 4, 4, 4, 4, 5, 5, 5, 5, 5, 5, 5, 5, 5, 5, 5, 5, 5, 5, 5, 5, 6, 6, 6, 6, 6, 6, 6, 6, 6, 6, 6, 6, 6, 6, 6, 6, 6, 6, 6, 6, 6, 6, 6, 6, 6, 6, 6, 6, 6, 6, 6, 6, 7, 7, 7, 7, 7, 7, 7, 7, 7, 7, 7, 7, 7, 7, 7, 7, 7, 7, 7, 7, 7, 7, 7, 7, 7, 7, 7, 7, 7, 7, 7, 7, 7, 7, 7, 7, 7, 7, 7, 7, 7, 7, 7, 7, 7, 7, 7, 7, 7, 7, 7, 7, 7, 7, 7, 7, 7, 7, 7, 7, 7, 7, 7, 7, 8, 8, 8, 8, 8, 8, 8, 8, 8, 8, 8, 8, 8, 8, 8, 8, 8, 8, 8, 8, 8, 8, 8, 8, 8, 8, 8, 8, 8, 8, 8, 8, 8, 8, 8, 8, 8, 8, 8, 8, 8, 8, 8, 8, 8, 8, 8, 8, 8, 8, 8, 8, 8, 8, 8, 8, 8, 8, 8, 8, 8, 8, 8, 8, 8, 8, 8, 8, 8, 8, 8, 8, 8, 8, 8, 8, 8, 8, 8, 8, 8, 8, 8, 8, 8, 8, 8, 8, 8, 8, 8, 8, 8, 8, 8, 8, 8, 8, 8, 8, 8, 8, 8, 8, 8, 8, 8, 8, 8, 8, 8, 8, 8, 8, 8, 8, 8, 8, 8, 8, 8, 8, 8, 8, 8, 8, 8, 8] (Go.IntKind.wrap .u8 (Go.AI.shr .u32 a1 (8 : Int))))))))], [])
  else none)
  else (bif (Go.AI.inB (Go.IntKind.wrap .u8 a1) 256) then some ([(PV.i (Go.IntKind.wrap .i64 ((0 : Int) + (Go.IntKind.wrap .i64 (Go.AI.bt [0, 1, 2, 2, 3, 3, 3, 3, 4, 4, 4, 4, 4, 4, 4, 4, 5, 5, 5, 5, 5, 5, 5, 5, 5, 5, 5, 5, 5, 5, 5, 5, 6, 6, 6, 6, 6, 6, 6, 6, 6, 6, 6, 6, 6, 6, 6, 6, 6, 6, 6, 6, 6, 6, 6, 6, 6, 6, 6, 6, 6, 6, 6, 6, 7, 7, 7, 7, 7, 7, 7, 7, 7, 7, 7, 7, 7, 7, 7, 7, 7, 7, 7, 7, 7, 7, 7, 7, 7, 7, 7, 7, 7, 7, 7, 7, 7, 7, 7, 7, 7, 7, 7, 7, 7, 7, 7, 7, 7, 7, 7, 7, 7, 7, 7, 7, 7, 7, 7, 7, 7, 7, 7, 7, 7, 7, 7, 7, 8, 8, 8, 8, 8, 8, 8, 8, 8, 8, 8, 8, 8, 8, 8, 8, 8, 8, 8, 8, 8, 8, 8, 8, 8, 8, 8, 8, 8, 8, 8, 8, 8, 8, 8, 8, 8, 8, 8, 8, 8, 8, 8, 8, 8, 8, 8, 8, 8, 8, 8, 8, 8, 8, 8, 8, 8, 8, 8, 8, 8, 8, 8, 8, 8, 8, 8, 8, 8, 8, 8, 8, 8, 8, 8, 8, 8, 8, 8, 8, 8, 8, 8, 8, 8, 8, 8, 8, 8, 8, 8, 8, 8, 8, 8, 8, 8, 8, 8, 8, 8, 8, 8, 8, 8, 8, 8, 8, 8, 8, 8, 8, 8, 8, 8, 8, 8, 8, 8, 8, 8, 8, 8, 8, 8, 8, 8, 8] (Go.IntKind.wrap .u8 a1))))))], [])
  else none))) := by kernel_rfl
/- math/bits.Len64 -/
theorem u_math_bits_Len64 (k : Nat) (a1 : Int) : call (k + 1) f_math_bits_Len64 [.i a1] [] =
  (bif (decide (a1 ≥ (4294967296 : Int))) then (bif (decide ((Go.AI.shr .u64 a1 (32 : Int)) ≥ (65536 : Int))) then (bif (decide ((Go.AI.shr .u64 (Go.AI.shr .u64 a1 (32 : Int)) (16 : Int)) ≥ (256 : Int))) then (bif (Go.AI.inB (Go.IntKind.wrap .u8 (Go.AI.shr .u64 (Go.AI.shr .u64 (Go.AI.shr .u64 a1 (32 : Int)) (16 : Int)) (8 : Int))) 256) then some ([(PV.i (Go.IntKind.wrap .i64 ((56 : Int) + (Go.IntKind.wrap .i64 (Go.AI.bt [0, 1, 2, 2, 3, 3, 3, 3, 4, 4, 4, 4, 4, 4, 4, 4, 5, 5, 5, 5, 5, 5, 5, 5, 5, 5, 5, 5, 5, 5, 5, 5, 6, 6, 6, 6, 6, 6, 6, 6, 6, 6, 6, 6, 6, 6, 6, 6, 6, 6, 6, 6, 6, 6, 6, 6, 6, 6, 6, 6, 6, 6, 6, 6, 7, 7, 7, 7, 7, 7, 7, 7, 7, 7, 7, 7, 7, 7, 7, 7, 7, 7, 7, 7, 7, 7, 7, 7, 7, 7, 7, 7, 7, 7, 7, 7, 7, 7, 7, 7, 7, 7, 7, 7, 7, 7, 7, 7, 7, 7, 7, 7, 7, 7, 7, 7, 7, 7, 7, 7, 7, 7, 7, 7, 7, 7, 7, 7, 8, 8, 8, 8, 8, 8, 8, 8, 8, 8, 8, 8, 8, 8, 8, 8, 8, 8, 8, 8, 8, 8, 8, 8, 8, 8, 8, 8, 8, 8, 8, 8, 8, 8, 8, 8, 8, 8, 8, 8, 8, 8, 8, 8, 8, 8, 8, 8, 8, 8, 8, 8, 8, 8, 8, 8, 8, 8, 8, 8, 8, 8, 8, 8, 8, 8, 8, 8, 8, 8, 8, 8, 8, 8, 8, 8, 8, 8, 8, 8, 8, 8, 8, 8, 8, 8, 8, 8, 8, 8, 8, 8, 8, 8, 8, 8, 8, 8, 8, 8, 8, 8, 8, 8, 8, 8, 8, 8, 8, 8, 8, 8, 8, 8, 8, 8, 8, 8, 8, 8, 8, 8, 8, 8, 8, 8, 8, 8] (Go.IntKind.wrap .u8 (Go.AI.shr .u64 (Go.AI.shr .u64 (Go.AI.shr .u64 a1 (32 : Int)) (16 : Int)) (8 : Int))))))))], [])
  else none)
  else (bif (Go.AI.inB (Go.IntKind.wrap .u8 (Go.AI.shr .u64 (Go.AI.shr .u64 a1 (32 : Int)) (16 : Int))) 256) then some ([(PV.i (Go.IntKind.wrap .i64 ((48 : Int) + (Go.IntKind.wrap .i64 (Go.AI.bt [0, 1, 2, 2, 3, 3, 3, 3, 4, 4, 4, 4, 4, 4, 4, 4, 5, 5, 5, 5, 5, 5, 5, 5, 5, 5, 5, 5, 5, 5, 5, 5, 6, 6, 6, 6, 6, 6, 6, 6, 6, 6, 6, 6, 6, 6, 6, 6, 6, 6, 6, 6, 6, 6, 6, 6, 6, 6, 6, 6, 6, 6, 6, 6, 7, 7, 7, 7, 7, 7, 7, 7, 7, 7, 7, 7, 7, 7, 7, 7, 7, 7, 7, 7, 7, 7, 7, 7, 7, 7, 7, 7, 7, 7, 7, 7, 7, 7, 7, 7, 7, 7, 7, 7, 7, 7, 7, 7, 7, 7, 7, 7, 7, 7, 7, 7, 7, 7, 7, 7, 7, 7, 7, 7, 7, 7, 7, 7, 8, 8, 8, 8, 8, 8, 8, 8, 8, 8, 8, 8, 8, 8, 8, 8, 8, 8, 8, 8, 8, 8, 8, 8, 8, 8, 8, 8, 8, 8, 8, 8, 8, 8, 8, 8, 8, 8, 8, 8, 8, 8, 8, 8, 8, 8, 8, 8, 8, 8, 8, 8, 8, 8, 8, 8, 8, 8, 8, 8, 8, 8, 8, 8, 8, 8, 8, 8, 8, 8, 8, 8, 8, 8, 8, 8, 8, 8, 8, 8, 8, 8, 8, 8, 8, 8, 8, 8, 8, 8, 8, 8, 8, 8, 8, 8, 8, 8, 8, 8, 8, 8, 8, 8, 8, 8, 8, 8, 8, 8, 8, 8, 8, 8, 8, 8, 8, 8, 8, 8, 8, 8, 8, 8, 8, 8, 8, 8] (Go.IntKind.wrap .u8 (Go.AI.shr .u64 (Go.AI.shr .u64 a1 (32 : Int)) (16 : Int))))))))], [])
  else none))
  else (bif (decide ((Go.AI.shr .u64 a1 (32 : Int)) ≥ (256 : Int))) then (bif (Go.AI.inB (Go.IntKind.wrap .u8 (Go.AI.shr .u64 (Go.AI.shr .u64 a1 (32 : Int)) (8 : Int))) 256) then some ([(PV.i (Go.IntKind.wrap .i64 ((40 : Int) + (Go.IntKind.wrap .i64 (Go.AI.bt [0, 1, 2, 2, 3, 3, 3, 3, 4, 4, 4, 4, 4, 4, 4, 4, 5, 5, 5, 5, 5, 5, 5, 5, 5, 5, 5, 5, 5, 5, 5, 5, 6, 6, 6, 6, 6, 6, 6, 6, 6, 6, 6, 6, 6, 6, 6, 6, 6, 6, 6, 6, 6, 6, 6, 6, 6, 6, 6, 6, 6, 6, 6, 6, 7, 7, 7, 7, 7, 7, 7, 7, 7, 7, 7, 7, 7, 7, 7, 7, 7, 7, 7, 7, 7, 7, 7, 7, 7, 7, 7, 7, 7, 7, 7, 7, 7, 7, 7, 7, 7, 7, 7, 7, 7, 7, 7, 7, 7, 7, 7, 7, 7, 7, 7, 7, 7, 7, 7, 7, 7, 7, 7, 7, 7, 7, 7, 7, 8, 8, 8, 8, 8, 8, 8, 8, 8, 8, 8, 8, 8, 8, 8, 8, 8, 8, 8, 8, 8, 8, 8, 8, 8, 8, 8, 8, 8, 8, 8, 8, 8, 8, 8, 8, 8, 8, 8, 8, 8, 8, 8, 8, 8, 8, 8, 8, 8, 8, 8, 8, 8, 8, 8, 8, 8, 8, 8, 8, 8, 8, 8, 8, 8, 8, 8, 8, 8, 8, 8, 8, 8, 8, 8, 8, 8, 8, 8, 8, 8, 8, 8, 8, 8, 8, 8, 8, 8, 8, 8, 8, 8, 8, 8, 8, 8, 8, 8, 8, 8, 8, 8, 8, 8, 8, 8, 8, 8, 8, 8, 8, 8, 8, 8, 8, 8, 8, 8, 8, 8, 8, 8, 8, 8, 8, 8, 8] (Go.IntKind.wrap .u8 (Go.AI.shr .u64 (Go.AI.shr .u64 a1 (32 : Int)) (8 : Int))))))))], [])
  else none)
  else (bif (Go.AI.inB (Go.IntKind.wrap .u8 (Go.AI.shr .u64 a1 (32 : Int))) 256) then some ([(PV.i (Go.IntKind.wrap .i64 ((32 : Int) + (Go.IntKind.wrap .i64 (Go.AI.bt [0, 1, 2, 2, 3, 3, 3, 3, 4, 4, 4, 4, 4, 4, 4, 4, 5, 5, 5, 5, 5, 5, 5, 5, 5, 5, 5, 5, 5, 5, 5, 5, 6, 6, 6, 6, 6, 6, 6, 6, 6, 6, 6, 6, 6, 6, 6, 6, 6, 6, 6, 6, 6, 6, 6, 6, 6, 6, 6, 6, 6, 6, 6, 6, 7, 7, 7, 7, 7, 7, 7, 7, 7, 7, 7, 7, 7, 7, 7, 7, 7, 7, 7, 7, 7, 7, 7, 7, 7, 7, 7, 7, 7, 7, 7, 7, 7, 7, 7, 7, 7, 7, 7, 7, 7, 7, 7, 7, 7, 7, 7, 7, 7, 7, 7, 7, 7, 7, 7, 7, 7, 7, 7, 7, 7, 7, 7, 7, 8, 8, 8, 8, 8, 8, 8, 8, 8, 8, 8, 8, 8, 8, 8, 8, 8, 8, 8, 8, 8, 8, 8, 8, 8, 8, 8, 8, 8, 8, 8, 8, 8, 8, 8, 8, 8, 8, 8, 8, 8, 8, 8, 8, 8, 8, 8, 8, 8, 8, 8, 8, 8, 8, 8, 8, 8, 8, 8, 8, 8, 8, 8, 8, 8, 8, 8, 8, 8, 8, 8, 8, 8, 8, 8, 8, 8, 8, 8, 8, 8, 8, 8, 8, 8, 8, 8, 8, 8, 8, 8, 8, 8, 8, 8, 8, 8, 8, 8, 8, 8, 8, 8, 8, 8, 8, 8, 8, 8, 8, 8, 8, 8, 8, 8, 8, 8, 8, 8, 8, 8, 8, 8, 8, 8, 8, 8, 8] (Go.IntKind.wrap .u8 (Go.AI.shr .u64 a1 (32 : Int))))))))], [])
  else none)))
  else (bif (decide (a1 ≥ (65536 : Int))) then (bif (decide ((Go.AI.shr .u64 a1 (16 : Int)) ≥ (256 : Int))) then (bif (Go.AI.inB (Go.IntKind.wrap .u8 (Go.AI.shr .u64 (Go.AI.shr .u64 a1 (16 : Int)) (8 : Int))) 256) then some ([(PV.i (Go.IntKind.wrap .i64 ((24 : Int) + (Go.IntKind.wrap .i64 (Go.AI.bt [0, 1, 2, 2, 3, 3, 3, 3, 4, 4, 4, 4, 4, 4, 4, 4, 5, 5, 5, 5, 5, 5, 5, 5, 5, 5, 5, 5, 5, 5, 5, 5, 6, 6, 6, 6, 6, 6, 6, 6, 6, 6, 6, 6, 6, 6, 6, 6, 6, 6, 6, 6, 6, 6, 6, 6, 6, 6, 6, 6, 6, 6, 6, 6, 7, 7, 7, 7, 7, 7, 7, 7, 7, 7, 7, 7, 7, 7, 7, 7, 7, 7, 7, 7, 7, 7, 7, 7, 7, 7, 7, 7, 7, 7, 7, 7, 7, 7, 7, 7, 7, 7, 7, 7, 7, 7, 7, 7, 7, 7, 7, 7, 7, 7, 7, 7, 7, 7, 7, 7, 7, 7, 7, 7, 7, 7, 7, 7, 8, 8, 8, 8, 8, 8, 8, 8, 8, 8, 8, 8, 8, 8, 8, 8, 8, 8, 8, 8, 8, 8, 8, 8, 8, 8, 8, 8, 8, 8, 8, 8, 8, 8, 8, 8, 8, 8, 8, 8, 8, 8, 8, 8, 8, 8, 8, 8, 8, 8, 8, 8, 8, 8, 8, 8, 8, 8, 8, 8, 8, 8, 8, 8, 8, 8, 8, 8, 8, 8, 8, 8, 8, 8, 8, 8, 8, 8, 8, 8, 8, 8, 8, 8, 8, 8, 8, 8, 8, 8, 8, 8, 8, 8, 8, 8, 8, 8, 8, 8, 8, 8, 8, 8, 8, 8, 8, 8, 8, 8, 8, 8, 8, 8, 8, 8, 8, 8, 8, 8, 8, 8, 8, 8, 8, 8, 8, 8] (Go.IntKind.wrap .u8 (Go.AI.shr .u64 (Go.AI.shr .u64 a1 (16 : Int)) (8 : Int))))))))], [])
  else none)
  else (bif (Go.AI.inB (Go.IntKind.wrap .u8 (Go.AI.shr .u64 a1 (16 : Int))) 256) then some ([(PV.i (Go.IntKind.wrap .i64 ((16 : Int) + (Go.IntKind.wrap .i64 (Go.AI.bt [0, 1, 2, 2, 3, 3, 3, 3, 4, 4, 4, 4, 4, 4, 4, 4, 5, 5, 5, 5, 5, 5, 5, 5, 5, 5, 5, 5, 5, 5, 5, 5, 6, 6, 6, 6, 6, 6, 6, 6, 6, 6, 6, 6, 6, 6, 6, 6, 6, 6, 6, 6, 6, 6, 6, 6, 6, 6, 6, 6, 6, 6, 6, 6, 7, 7, 7, 7, 7, 7, 7, 7, 7, 7, 7, 7, 7, 7, 7, 7, 7, 7, 7, 7, 7, 7, 7, 7, 7, 7, 7, 7, 7, 7, 7, 7, 7, 7, 7, 7, 7, 7, 7, 7, 7, 7, 7, 7, 7, 7, 7, 7, 7, 7, 7, 7, 7, 7, 7, 7, 7, 7, 7, 7, 7, 7, 7, 7, 8, 8, 8, 8, 8, 8, 8, 8, 8, 8, 8, 8, 8, 8, 8, 8, 8, 8, 8, 8, 8, 8, 8, 8, 8, 8, 8, 8, 8, 8, 8, 8, 8, 8, 8, 8, 8, 8, 8, 8, 8, 8, 8, 8, 8, 8, 8, 8, 8, 8, 8, 8, 8, 8, 8, 8, 8, 8, 8, 8, 8, 8, 8, 8, 8, 8, 8, 8, 8, 8, 8, 8, 8, 8, 8, 8, 8, 8, 8, 8, 8, 8, 8, 8, 8, 8, 8, 8, 8, 8, 8, 8, 8, 8, 8, 8, 8, 8, 8, 8, 8, 8, 8, 8, 8, 8, 8, 8, 8, 8, 8, 8, 8, 8, 8, 8, 8, 8, 8, 8, 8, 8, 8, 8, 8, 8, 8, 8] (Go.IntKind.wrap .u8 (Go.AI.shr .u64 a1 (16 : Int))))))))], [])
  else none))
  else (bif (decide (a1 ≥ (256 : Int))) then (bif (Go.AI.inB (Go.IntKind.wrap .u8 (Go.AI.shr .u64 a1 (8 : Int))) 256) then some ([(PV.i (Go.IntKind.wrap .i64 ((8 : Int) + (Go.IntKind.wrap .i64 (Go.AI.bt [0, 1, 2, 2, 3, 3, 3, 3, 4, 4, 4, 4, 4, 4, 4, 4, 5, 5, 5, 5, 5, 5, 5, 5, 5, 5, 5, 5, 5, 5, 5, 5, 6, 6, 6, 6, 6, 6, 6, 6, 6, 6, 6, 6, 6, 6, 6, 6, 6, 6, 6, 6, 6, 6, 6, 6, 6, 6, 6, 6, 6, 6, 6, 6, 7, 7, 7, 7, 7, 7, 7, 7, 7, 7, 7, 7, 7, 7, 7, 7, 7, 7, 7, 7, 7, 7, 7, 7, 7, 7, 7, 7, 7, 7, 7, 7, 7, 7, 7, 7, 7, 7, 7, 7, 7, 7, 7, 7, 7, 7, 7, 7, 7, 7, 7, 7, 7, 7, 7, 7, 7, 7, 7, 7, 7, 7, 7, 7, 8, 8, 8, 8, 8, 8, 8, 8, 8, 8, 8, 8, 8, 8, 8, 8, 8, 8, 8, 8, 8, 8, 8, 8, 8, 8, 8, 8, 8, 8, 8, 8, 8, 8, 8, 8, 8, 8, 8, 8, 8, 8, 8, 8, 8, 8, 8, 8, 8, 8, 8, 8, 8, 8, 8, 8, 8, 8, 8, 8, 8, 8, 8, 8, 8, 8, 8, 8, 8, 8, 8, 8, 8, 8, 8, 8, 8, 8, 8, 8, 8, 8, 8, 8, 8, 8, 8, 8, 8, 8, 8, 8, 8, 8, 8, 8, 8, 8, 8, 8, 8, 8, 8, 8, 8, 8, 8, 8, 8, 8, 8, 8, 8, 8, 8, 8, 8, 8, 8, 8, 8, 8, 8, 8, 8, 8, 8, 8] (Go.IntKind.wrap .u8 (Go.AI.shr .u64 a1 (8 : Int))))))))], [])
  else none)
  else (bif (Go.AI.inB (Go.IntKind.wrap .u8 a1) 256) then some ([(PV.i (Go.IntKind.wrap .i64 ((0 : Int) + (Go.IntKind.wrap .i64 (Go.AI.bt [0, 1, 2, 2, 3, 3, 3, 3, 4, 4, 4, 4, 4, 4, 4, 4, 5, 5, 5, 5, 5, 5, 5, 5, 5, 5, 5, 5, 5, 5, 5, 5, 6, 6, 6, 6, 6, 6, 6, 6, 6, 6, 6, 6, 6, 6, 6, 6, 6, 6, 6, 6, 6, 6, 6, 6, 6, 6, 6, 6, 6, 6, 6, 6, 7, 7, 7, 7, 7, 7, 7, 7, 7, 7, 7, 7, 7, 7, 7, 7, 7, 7, 7, 7, 7, 7, 7, 7, 7, 7, 7, 7, 7, 7, 7, 7, 7, 7, 7, 7, 7, 7, 7, 7, 7, 7, 7, 7, 7, 7, 7, 7, 7, 7, 7, 7, 7, 7, 7, 7, 7, 7, 7, 7, 7, 7, 7, 7, 8, 8, 8, 8, 8, 8, 8, 8, 8, 8, 8, 8, 8, 8, 8, 8, 8, 8, 8, 8, 8, 8, 8, 8, 8, 8, 8, 8, 8, 8, 8, 8, 8, 8, 8, 8, 8, 8, 8, 8, 8, 8, 8, 8, 8, 8, 8, 8, 8, 8, 8, 8, 8, 8, 8, 8, 8, 8, 8, 8, 8, 8, 8, 8, 8, 8, 8, 8, 8, 8, 8, 8, 8, 8, 8, 8, 8, 8, 8, 8, 8, 8, 8, 8, 8, 8, 8, 8, 8, 8, 8, 8, 8, 8, 8, 8, 8, 8, 8, 8, 8, 8, 8, 8, 8, 8, 8, 8, 8, 8, 8, 8, 8, 8, 8, 8, 8, 8, 8, 8, 8, 8, 8, 8, 8, 8, 8, 8] (Go.IntKind.wrap .u8 a1))))))], [])
  else none)))) := by kernel_rfl
/- celluloid/celluloidref07.width -/
noncomputable def S_celluloidref07_width_L0 (x1 : List (List PV)) (x2 : Int) (x3 : Int) : St := mkSt [(0, .v (.sl 3 x1)), (3, .v (.int .i64 x2)), (4, .v (.int .i64 x3))] [] 1000 24
noncomputable def at_celluloidref07_width_L0 : List Item := (atLoop Try.f62 0)
theorem u_celluloidref07_width (k : Nat) (a1 : List (List PV)) : call (k + 1) f_celluloidref07_width [.l a1] [] =
  run k f_celluloidref07_width [] at_celluloidref07_width_L0 (S_celluloidref07_width_L0 (a1) ((0 : Int)) ((0 : Int))) := by kernel_rfl
theorem u_celluloidref07_width_L0 (k : Nat) (x1 : List (List PV)) (x2 : Int) (x3 : Int) : run (k + 1) f_celluloidref07_width [] at_celluloidref07_width_L0 (S_celluloidref07_width_L0 x1 x2 x3) =
  (bif (decide (x3 < (((List.length x1) : Nat) : Int))) then (bif (Go.AI.inB x3 (List.length x1)) then (call k f_celluloidref02_Width [(PV.i (((Go.AI.elemAt x1 x3).getD 0 PV.u)).toI)] []).bind fun r1 =>
  (bif (decide ((((r1).1.getD 0 PV.u)).toI > x2)) then (bif (Go.AI.inB x3 (List.length x1)) then (call k f_celluloidref02_Width [(PV.i (((Go.AI.elemAt x1 x3).getD 0 PV.u)).toI)] []).bind fun r2 =>
  run k f_celluloidref07_width [] at_celluloidref07_width_L0 (S_celluloidref07_width_L0 (x1) ((((r2).1.getD 0 PV.u)).toI) ((Go.IntKind.wrap .i64 (x3 + (1 : Int)))))
  else none)
  else run k f_celluloidref07_width [] at_celluloidref07_width_L0 (S_celluloidref07_width_L0 (x1) (x2) ((Go.IntKind.wrap .i64 (x3 + (1 : Int))))))
  else none)
  else some ([(PV.i x2)], [])) := by kernel_rfl
/- celluloid/celluloidref02.PutPlain -/
noncomputable def S_celluloidref02_PutPlain_L0 (x1 : Int) (x2 : Int) (x3 : List UInt8) (x4 : Int) (x5 : List UInt8) (x6 : Int) : St := mkSt [(1, .v (.int .i64 x1)), (3, .v (.ptr (.n 1 0 0) 0)), (6, .v (.ptr (.n 1 1 0) 0)), (8, .v (.int .i64 x2))] [((.n 1 0 0), .cells 93 [.str x3, .int .i64 x4]), ((.n 1 1 0), .cells 93 [.str x5, .int .i64 x6])] 1000 70
noncomputable def at_celluloidref02_PutPlain_L0 : List Item := (atLoop Try.f63 0)
theorem u_celluloidref02_PutPlain (k : Nat) (a1 : List UInt8) (a2 : Int) (a3 : Int) (a4 : Int) : call (k + 1) f_celluloidref02_PutPlain [.s a1, .i a2, .i a3, .i a4] [] =
  ((bif (decide (a4 < (0 : Int))) then some [(PV.b true)]
   else (bif (decide (a4 > (31 : Int))) then some [(PV.b true)]
   else (bif (decide (a3 < (0 : Int))) then some [(PV.b true)]
   else (call k f_celluloidref02_Power [(PV.i a4)] []).bind fun r1 =>
   some [(PV.b (decide (a3 ≥ (((r1).1.getD 0 PV.u)).toI)))])))).bind fun r2 =>
  (bif ((r2.getD 0 PV.u)).toB then some ([(PV.s []), (PV.i (0 : Int)), (PV.b false)], [])
  else ((bif (decide (a2 < (0 : Int))) then some [(PV.b true)]
   else (bif (decide (a2 > (7 : Int))) then some [(PV.b true)]
   else (bif ((((List.length a1) : Nat) : Int) == (0 : Int)) then some [(PV.b true)]
   else (bif (Go.AI.inB (Go.IntKind.wrap .i64 ((((List.length a1) : Nat) : Int) - (1 : Int))) (List.length a1)) then (call k f_celluloidref02_Power [(PV.i a2)] []).bind fun r3 =>
   (bif ((((r3).1.getD 0 PV.u)).toI != (0 : Int)) then some [(PV.b ((Int.tmod (Go.IntKind.wrap .i64 (Go.AI.bt a1 (Go.IntKind.wrap .i64 ((((List.length a1) : Nat) : Int) - (1 : Int))))) (((r3).1.getD 0 PV.u)).toI) != (0 : Int)))]
   else none)
   else none))))).bind fun r4 =>
  (bif ((r4.getD 0 PV.u)).toB then run k f_celluloidref02_PutPlain [] at_celluloidref02_PutPlain_L0 (S_celluloidref02_PutPlain_L0 (a3) ((Go.IntKind.wrap .i64 (a4 - (1 : Int)))) (a1) ((0 : Int)) ([]) ((0 : Int)))
  else run k f_celluloidref02_PutPlain [] at_celluloidref02_PutPlain_L0 (S_celluloidref02_PutPlain_L0 (a3) ((Go.IntKind.wrap .i64 (a4 - (1 : Int)))) (a1) (a2) ([]) ((0 : Int))))) := by kernel_rfl
theorem u_celluloidref02_PutPlain_L0 (k : Nat) (x1 : Int) (x2 : Int) (x3 : List UInt8) (x4 : Int) (x5 : List UInt8) (x6 : Int) : run (k + 1) f_celluloidref02_PutPlain [] at_celluloidref02_PutPlain_L0 (S_celluloidref02_PutPlain_L0 x1 x2 x3 x4 x5 x6) =
  (bif (decide (x2 ≥ (0 : Int))) then (call k f_celluloidref02_Power [(PV.i x2)] []).bind fun r5 =>
  (bif ((((r5).1.getD 0 PV.u)).toI != (0 : Int)) then (call k f_celluloidref02_put [(PV.s x3), (PV.i x4), (PV.i (Int.tmod (Go.IntKind.wrap .i64 (Int.tdiv x1 (((r5).1.getD 0 PV.u)).toI)) (2 : Int)))] []).bind fun r6 =>
  run k f_celluloidref02_PutPlain [] at_celluloidref02_PutPlain_L0 (S_celluloidref02_PutPlain_L0 (x1) ((Go.IntKind.wrap .i64 (x2 - (1 : Int)))) ((((r6).1.getD 0 PV.u)).toS) ((((r6).1.getD 1 PV.u)).toI) (x5) (x6))
  else none)
  else some ([(PV.s x3), (PV.i x4), (PV.b true)], [])) := by kernel_rfl
/- celluloid/celluloidref02.PutSigned -/
theorem u_celluloidref02_PutSigned (k : Nat) (a1 : List UInt8) (a2 : Int) (a3 : Int) (a4 : Int) : call (k + 1) f_celluloidref02_PutSigned [.s a1, .i a2, .i a3, .i a4] [] =
  ((bif (decide (a4 < (0 : Int))) then some [(PV.b true)]
   else (bif (decide (a4 > (31 : Int))) then some [(PV.b true)]
   else (call k f_celluloidref02_Width [(PV.i a3)] []).bind fun r1 =>
   some [(PV.b (decide ((((r1).1.getD 0 PV.u)).toI > a4)))]))).bind fun r2 =>
  (bif ((r2.getD 0 PV.u)).toB then some ([(PV.s []), (PV.i (0 : Int)), (PV.b false)], [])
  else (bif (decide (a3 < (0 : Int))) then (call k f_celluloidref02_Power [(PV.i a4)] []).bind fun r3 =>
  (call k f_celluloidref02_PutPlain [(PV.s a1), (PV.i a2), (PV.i (Go.IntKind.wrap .i64 (a3 + (((r3).1.getD 0 PV.u)).toI))), (PV.i a4)] []).bind fun r4 =>
  some ([(PV.s (((r4).1.getD 0 PV.u)).toS), (PV.i (((r4).1.getD 1 PV.u)).toI), (PV.b (((r4).1.getD 2 PV.u)).toB)], [])
  else (call k f_celluloidref02_PutPlain [(PV.s a1), (PV.i a2), (PV.i a3), (PV.i a4)] []).bind fun r5 =>
  some ([(PV.s (((r5).1.getD 0 PV.u)).toS), (PV.i (((r5).1.getD 1 PV.u)).toI), (PV.b (((r5).1.getD 2 PV.u)).toB)], []))) := by kernel_rfl
/- celluloid/bits.Plain -/
noncomputable def S_bits_Plain_L1 (x1 : Int) (x2 : Int) (x3 : Int) (x4 : List UInt8) (x5 : Int) (x6 : List UInt8) (x7 : Int) : St := mkSt [(1, .v (.int .i64 x1)), (2, .v (.ptr (.n 1 0 0) 0)), (5, .v (.ptr (.n 1 2 0) 0)), (7, .v (.int .i64 x2)), (8, .v (.int .i64 x3))] [((.n 1 0 0), .cells 53 [.str x4, .int .i64 x5]), ((.n 1 2 0), .cells 53 [.str x6, .int .i64 x7])] 1000 64
noncomputable def at_bits_Plain_L1 : List Item := (atLoop Try.f65 1)
theorem u_bits_Plain (k : Nat) (a1 : List UInt8) (a2 : Int) (a3 : Int) : call (k + 1) f_bits_Plain [.s a1, .i a2, .i a3] [] =
  ((call k f_bits_right [(PV.s a1), (PV.i a2)] []).bind fun r1 =>
   (bif (!(((r1).1.getD 0 PV.u)).toB) then some [(PV.b true)]
   else (bif (decide (a3 < (0 : Int))) then some [(PV.b true)]
   else some [(PV.b (decide (a3 > (31 : Int))))]))).bind fun r2 =>
  (bif ((r2.getD 0 PV.u)).toB then some ([(PV.i (0 : Int)), (PV.s []), (PV.i (0 : Int)), (PV.i (1 : Int))], [])
  else (bif (decide ((Go.IntKind.wrap .i64 (a2 + a3)) > (Go.IntKind.wrap .i64 ((8 : Int) * (((List.length a1) : Nat) : Int))))) then some ([(PV.i (0 : Int)), (PV.s []), (PV.i (0 : Int)), (PV.i (2 : Int))], [])
  else run k f_bits_Plain [] at_bits_Plain_L1 (S_bits_Plain_L1 (a3) ((0 : Int)) (a2) (a1) (a2) ([]) ((0 : Int))))) := by kernel_rfl
theorem u_bits_Plain_L1 (k : Nat) (x1 : Int) (x2 : Int) (x3 : Int) (x4 : List UInt8) (x5 : Int) (x6 : List UInt8) (x7 : Int) : run (k + 1) f_bits_Plain [] at_bits_Plain_L1 (S_bits_Plain_L1 x1 x2 x3 x4 x5 x6 x7) =
  (bif (decide (x3 < (Go.IntKind.wrap .i64 (x5 + x1)))) then (bif (Go.AI.inB (Go.IntKind.wrap .i64 (Int.tdiv x3 (8 : Int))) (List.length x4)) then (bif (decide ((0 : Int) ≤ (Go.IntKind.wrap .i64 ((7 : Int) - (Int.tmod x3 (8 : Int)))))) then run k f_bits_Plain [] at_bits_Plain_L1 (S_bits_Plain_L1 (x1) ((Go.AI.bitsOp Go.BinOp.or .i64 (Go.AI.shl .i64 x2 (1 : Int)) (Go.IntKind.wrap .i64 (Go.AI.bitsOp Go.BinOp.and .u8 (Go.AI.shr .u8 (Go.AI.bt x4 (Go.IntKind.wrap .i64 (Int.tdiv x3 (8 : Int)))) (Go.IntKind.wrap .i64 ((7 : Int) - (Int.tmod x3 (8 : Int))))) (1 : Int))))) ((Go.IntKind.wrap .i64 (x3 + (1 : Int)))) (x4) (x5) (x6) (x7))
  else none)
  else none)
  else some ([(PV.i x2), (PV.s x4), (PV.i (Go.IntKind.wrap .i64 (x5 + x1))), (PV.i (0 : Int))], [])) := by kernel_rfl
/- celluloid/bits.Align -/
theorem u_bits_Align (k : Nat) (a1 : List UInt8) (a2 : Int) : call (k + 1) f_bits_Align [.s a1, .i a2] [] =
  (call k f_bits_right [(PV.s a1), (PV.i a2)] []).bind fun r1 =>
  (bif (((r1).1.getD 0 PV.u)).toB then some ([(PV.s a1), (PV.i (Go.IntKind.wrap .i64 ((Go.IntKind.wrap .i64 (Int.tdiv (Go.IntKind.wrap .i64 (a2 + (7 : Int))) (8 : Int))) * (8 : Int))))], [])
  else some ([(PV.s a1), (PV.i a2)], [])) := by kernel_rfl
/- celluloid/bits.Signed -/
theorem u_bits_Signed (k : Nat) (a1 : List UInt8) (a2 : Int) (a3 : Int) : call (k + 1) f_bits_Signed [.s a1, .i a2, .i a3] [] =
  (call k f_bits_Plain [(PV.s a1), (PV.i a2), (PV.i a3)] []).bind fun r1 =>
  ((bif ((((r1).1.getD 3 PV.u)).toI == (0 : Int)) then (bif (decide (a3 > (0 : Int))) then (bif (decide ((0 : Int) ≤ (Go.IntKind.wrap .i64 (a3 - (1 : Int))))) then some [(PV.b ((Go.AI.shr .i64 (((r1).1.getD 0 PV.u)).toI (Go.IntKind.wrap .i64 (a3 - (1 : Int)))) == (1 : Int)))]
   else none)
   else some [(PV.b false)])
   else some [(PV.b false)])).bind fun r2 =>
  (bif ((r2.getD 0 PV.u)).toB then (bif (decide ((0 : Int) ≤ a3)) then some ([(PV.i (Go.IntKind.wrap .i64 ((((r1).1.getD 0 PV.u)).toI - (Go.AI.shl .i64 (1 : Int) a3)))), (PV.s (((r1).1.getD 1 PV.u)).toS), (PV.i (((r1).1.getD 2 PV.u)).toI), (PV.i (((r1).1.getD 3 PV.u)).toI)], [])
  else none)
  else some ([(PV.i (((r1).1.getD 0 PV.u)).toI), (PV.s (((r1).1.getD 1 PV.u)).toS), (PV.i (((r1).1.getD 2 PV.u)).toI), (PV.i (((r1).1.getD 3 PV.u)).toI)], [])) := by kernel_rfl
/- celluloid/bits.right -/
theorem u_bits_right (k : Nat) (a1 : List UInt8) (a2 : Int) : call (k + 1) f_bits_right [.s a1, .i a2] [] =
  ((bif (decide (a2 ≥ (0 : Int))) then some [(PV.b (decide (a2 ≤ (Go.IntKind.wrap .i64 ((8 : Int) * (((List.length a1) : Nat) : Int))))))]
   else some [(PV.b false)])).bind fun r1 =>
  some ([(PV.b ((r1.getD 0 PV.u)).toB)], []) := by kernel_rfl
/- celluloid/celluloidref07.Signed -/
theorem u_celluloidref07_Signed (k : Nat) (a1 : List UInt8) (a2 : Int) (a3 : Int) (a4 : Int) : call (k + 1) f_celluloidref07_Signed [.s a1, .i a2, .i a3, .i a4] [] =
  (bif (a3 != (0 : Int)) then some ([(PV.i (0 : Int)), (PV.s a1), (PV.i a2), (PV.i a3)], [])
  else (call k f_celluloidref02_Signed [(PV.s a1), (PV.i a2), (PV.i a4)] []).bind fun r1 =>
  some ([(PV.i (((r1).1.getD 0 PV.u)).toI), (PV.s (((r1).1.getD 1 PV.u)).toS), (PV.i (((r1).1.getD 2 PV.u)).toI), (PV.i (((r1).1.getD 3 PV.u)).toI)], [])) := by kernel_rfl
/- celluloid/celluloidref02.Right -/
theorem u_celluloidref02_Right (k : Nat) (a1 : List UInt8) (a2 : Int) : call (k + 1) f_celluloidref02_Right [.s a1, .i a2] [] =
  ((bif (decide (a2 ≥ (0 : Int))) then some [(PV.b (decide (a2 ≤ (Go.IntKind.wrap .i64 ((8 : Int) * (((List.length a1) : Nat) : Int))))))]
   else some [(PV.b false)])).bind fun r1 =>
  some ([(PV.b ((r1.getD 0 PV.u)).toB)], []) := by kernel_rfl
/- celluloid/celluloidref02.Align -/
noncomputable def S_celluloidref02_Align_L0 (x1 : List UInt8) (x2 : Int) (x3 : List UInt8) (x4 : Int) : St := mkSt [(1, .v (.ptr (.n 1 0 0) 0)), (2, .v (.ptr (.n 1 1 0) 0)), (6, .any), (7, .any), (8, .any), (9, .any)] [((.n 1 0 0), .cells 62 [.str x1, .int .i64 x2]), ((.n 1 1 0), .cells 62 [.str x3, .int .i64 x4])] 1000 16
noncomputable def at_celluloidref02_Align_L0 : List Item := (atLoop Try.f71 0)
theorem u_celluloidref02_Align (k : Nat) (a1 : List UInt8) (a2 : Int) : call (k + 1) f_celluloidref02_Align [.s a1, .i a2] [] =
  run k f_celluloidref02_Align [] at_celluloidref02_Align_L0 (S_celluloidref02_Align_L0 (a1) (a2) ([]) ((0 : Int))) := by kernel_rfl
theorem u_celluloidref02_Align_L0 (k : Nat) (x1 : List UInt8) (x2 : Int) (x3 : List UInt8) (x4 : Int) : run (k + 1) f_celluloidref02_Align [] at_celluloidref02_Align_L0 (S_celluloidref02_Align_L0 x1 x2 x3 x4) =
  ((call k f_celluloidref02_Right [(PV.s x1), (PV.i x2)] []).bind fun r1 =>
   (bif (((r1).1.getD 0 PV.u)).toB then some [(PV.b ((Int.tmod x2 (8 : Int)) != (0 : Int)))]
   else some [(PV.b false)])).bind fun r2 =>
  (bif ((r2.getD 0 PV.u)).toB then run k f_celluloidref02_Align [] at_celluloidref02_Align_L0 (S_celluloidref02_Align_L0 (x1) ((Go.IntKind.wrap .i64 (x2 + (1 : Int)))) (x3) (x4))
  else some ([(PV.s x1), (PV.i x2)], [])) := by kernel_rfl
/- celluloid/celluloidref02.Plain -/
noncomputable def S_celluloidref02_Plain_L0 (x1 : Int) (x2 : Int) (x3 : Int) (x4 : List UInt8) (x5 : Int) (x6 : List UInt8) (x7 : Int) : St := mkSt [(1, .v (.int .i64 x1)), (2, .v (.ptr (.n 1 0 0) 0)), (5, .v (.ptr (.n 1 2 0) 0)), (7, .v (.int .i64 x2)), (8, .v (.int .i64 x3))] [((.n 1 0 0), .cells 62 [.str x4, .int .i64 x5]), ((.n 1 2 0), .cells 62 [.str x6, .int .i64 x7])] 1000 54
noncomputable def at_celluloidref02_Plain_L0 : List Item := (atLoop Try.f72 0)
theorem u_celluloidref02_Plain (k : Nat) (a1 : List UInt8) (a2 : Int) (a3 : Int) : call (k + 1) f_celluloidref02_Plain [.s a1, .i a2, .i a3] [] =
  ((call k f_celluloidref02_Right [(PV.s a1), (PV.i a2)] []).bind fun r1 =>
   (bif (!(((r1).1.getD 0 PV.u)).toB) then some [(PV.b true)]
   else (bif (decide (a3 < (0 : Int))) then some [(PV.b true)]
   else some [(PV.b (decide (a3 > (31 : Int))))]))).bind fun r2 =>
  (bif ((r2.getD 0 PV.u)).toB then some ([(PV.i (0 : Int)), (PV.s []), (PV.i (0 : Int)), (PV.i (1 : Int))], [])
  else (bif (decide ((Go.IntKind.wrap .i64 ((Go.IntKind.wrap .i64 ((8 : Int) * (((List.length a1) : Nat) : Int))) - a2)) < a3)) then some ([(PV.i (0 : Int)), (PV.s []), (PV.i (0 : Int)), (PV.i (2 : Int))], [])
  else run k f_celluloidref02_Plain [] at_celluloidref02_Plain_L0 (S_celluloidref02_Plain_L0 (a3) ((0 : Int)) ((0 : Int)) (a1) (a2) ([]) ((0 : Int))))) := by kernel_rfl
theorem u_celluloidref02_Plain_L0 (k : Nat) (x1 : Int) (x2 : Int) (x3 : Int) (x4 : List UInt8) (x5 : Int) (x6 : List UInt8) (x7 : Int) : run (k + 1) f_celluloidref02_Plain [] at_celluloidref02_Plain_L0 (S_celluloidref02_Plain_L0 x1 x2 x3 x4 x5 x6 x7) =
  (bif (decide (x3 < x1)) then (call k f_celluloidref02_Bit [(PV.s x4), (PV.i (Go.IntKind.wrap .i64 (x5 + x3)))] []).bind fun r3 =>
  run k f_celluloidref02_Plain [] at_celluloidref02_Plain_L0 (S_celluloidref02_Plain_L0 (x1) ((Go.IntKind.wrap .i64 ((Go.IntKind.wrap .i64 ((2 : Int) * x2)) + (((r3).1.getD 0 PV.u)).toI))) ((Go.IntKind.wrap .i64 (x3 + (1 : Int)))) (x4) (x5) (x6) (x7))
  else some ([(PV.i x2), (PV.s x4), (PV.i (Go.IntKind.wrap .i64 (x5 + x1))), (PV.i (0 : Int))], [])) := by kernel_rfl
/- celluloid/bits.PutPlain -/
noncomputable def S_bits_PutPlain_L0 (x1 : Int) (x2 : Int) (x3 : List (List PV)) (x4 : List UInt8) (x5 : Int) (x6 : List UInt8) (x7 : Int) : St := mkSt [(1, .v (.int .i64 x1)), (3, .v (.ptr (.n 1 0 0) 0)), (6, .v (.ptr (.n 1 1 0) 0)), (8, .v (.wr (.w 8))), (9, .v (.int .i64 x2))] [((.w 8), .row 5 x3), ((.n 1 0 0), .cells 25 [.str x4, .int .i64 x5]), ((.n 1 1 0), .cells 25 [.str x6, .int .i64 x7])] 1000 96
noncomputable def at_bits_PutPlain_L0 : List Item := (atLoop Try.f73 0)
theorem u_bits_PutPlain (k : Nat) (a1 : List UInt8) (a2 : Int) (a3 : Int) (a4 : Int) : call (k + 1) f_bits_PutPlain [.s a1, .i a2, .i a3, .i a4] [] =
  ((bif (decide (a4 < (0 : Int))) then some [(PV.b true)]
   else (bif (decide (a4 > (31 : Int))) then some [(PV.b true)]
   else (bif (decide (a3 < (0 : Int))) then some [(PV.b true)]
   else (bif (decide ((0 : Int) ≤ a4)) then some [(PV.b ((Go.AI.shr .i64 a3 a4) != (0 : Int)))]
   else none))))).bind fun r1 =>
  (bif ((r1.getD 0 PV.u)).toB then some ([(PV.s []), (PV.i (0 : Int)), (PV.i (1 : Int))], [])
  else ((bif (decide (a2 < (0 : Int))) then some [(PV.b true)]
   else (bif (decide (a2 > (7 : Int))) then some [(PV.b true)]
   else (bif ((((List.length (Go.AI.ofBytes a1)) : Nat) : Int) == (0 : Int)) then some [(PV.b true)]
   else (bif (Go.AI.inB (Go.IntKind.wrap .i64 ((((List.length (Go.AI.ofBytes a1)) : Nat) : Int) - (1 : Int))) (List.length (Go.AI.ofBytes a1))) then (bif (Go.AI.inB (Go.IntKind.wrap .i64 ((((List.length (Go.AI.ofBytes a1)) : Nat) : Int) - (1 : Int))) (List.length (Go.AI.ofBytes a1))) then (bif (decide ((0 : Int) ≤ a2)) then some [(PV.b ((Go.AI.bitsOp Go.BinOp.and .u8 (((Go.AI.elemAt (Go.AI.ofBytes a1) (Go.IntKind.wrap .i64 ((((List.length (Go.AI.ofBytes a1)) : Nat) : Int) - (1 : Int)))).getD 0 PV.u)).toI (Go.IntKind.wrap .u8 ((Go.AI.shl .u8 (1 : Int) a2) - (1 : Int)))) != (0 : Int)))]
   else none)
   else none)
   else none))))).bind fun r2 =>
  (bif ((r2.getD 0 PV.u)).toB then run k f_bits_PutPlain [] at_bits_PutPlain_L0 (S_bits_PutPlain_L0 (a3) ((Go.IntKind.wrap .i64 (a4 - (1 : Int)))) ((Go.AI.ofBytes a1)) (a1) ((0 : Int)) ([]) ((0 : Int)))
  else run k f_bits_PutPlain [] at_bits_PutPlain_L0 (S_bits_PutPlain_L0 (a3) ((Go.IntKind.wrap .i64 (a4 - (1 : Int)))) ((Go.AI.ofBytes a1)) (a1) (a2) ([]) ((0 : Int))))) := by kernel_rfl
theorem u_bits_PutPlain_L0 (k : Nat) (x1 : Int) (x2 : Int) (x3 : List (List PV)) (x4 : List UInt8) (x5 : Int) (x6 : List UInt8) (x7 : Int) : run (k + 1) f_bits_PutPlain [] at_bits_PutPlain_L0 (S_bits_PutPlain_L0 x1 x2 x3 x4 x5 x6 x7) =
  (bif (decide (x2 ≥ (0 : Int))) then (bif (x5 == (0 : Int)) then (bif (decide (((((List.length x3) + 1) + 1000) * 2) ≤ 1099511627776)) then (bif (Go.AI.inB (Go.IntKind.wrap .i64 ((((List.length (x3 ++ [[(PV.i (0 : Int))]])) : Nat) : Int) - (1 : Int))) (List.length (x3 ++ [[(PV.i (0 : Int))]]))) then (bif (Go.AI.inB (Go.IntKind.wrap .i64 ((((List.length (x3 ++ [[(PV.i (0 : Int))]])) : Nat) : Int) - (1 : Int))) (List.length (x3 ++ [[(PV.i (0 : Int))]]))) then (bif (decide ((0 : Int) ≤ x2)) then (bif (Go.AI.inB (Go.IntKind.wrap .i64 ((((List.length (x3 ++ [[(PV.i (0 : Int))]])) : Nat) : Int) - (1 : Int))) (List.length (x3 ++ [[(PV.i (0 : Int))]]))) then (bif (Go.AI.inB (Go.IntKind.wrap .i64 ((((List.length (x3 ++ [[(PV.i (0 : Int))]])) : Nat) : Int) - (1 : Int))) (List.length (x3 ++ [[(PV.i (0 : Int))]]))) then run k f_bits_PutPlain [] at_bits_PutPlain_L0 (S_bits_PutPlain_L0 (x1) ((Go.IntKind.wrap .i64 (x2 - (1 : Int)))) ((List.set (x3 ++ [[(PV.i (0 : Int))]]) (Int.toNat (Go.IntKind.wrap .i64 ((((List.length (x3 ++ [[(PV.i (0 : Int))]])) : Nat) : Int) - (1 : Int)))) (Go.AI.putAt (Go.AI.elemAt (x3 ++ [[(PV.i (0 : Int))]]) (Go.IntKind.wrap .i64 ((((List.length (x3 ++ [[(PV.i (0 : Int))]])) : Nat) : Int) - (1 : Int)))) 0 [(PV.i (Go.AI.bitsOp Go.BinOp.or .u8 (((Go.AI.elemAt (x3 ++ [[(PV.i (0 : Int))]]) (Go.IntKind.wrap .i64 ((((List.length (x3 ++ [[(PV.i (0 : Int))]])) : Nat) : Int) - (1 : Int)))).getD 0 PV.u)).toI (Go.AI.shl .u8 (Go.IntKind.wrap .u8 (Go.AI.bitsOp Go.BinOp.and .i64 (Go.AI.shr .i64 x1 x2) (1 : Int))) (7 : Int))))]))) (x4) ((7 : Int)) (x6) (x7))
  else none)
  else none)
  else none)
  else none)
  else none)
  else none)
  else (bif (Go.AI.inB (Go.IntKind.wrap .i64 ((((List.length x3) : Nat) : Int) - (1 : Int))) (List.length x3)) then (bif (Go.AI.inB (Go.IntKind.wrap .i64 ((((List.length x3) : Nat) : Int) - (1 : Int))) (List.length x3)) then (bif (decide ((0 : Int) ≤ x2)) then (bif (decide ((0 : Int) ≤ (Go.IntKind.wrap .i64 (x5 - (1 : Int))))) then (bif (Go.AI.inB (Go.IntKind.wrap .i64 ((((List.length x3) : Nat) : Int) - (1 : Int))) (List.length x3)) then (bif (Go.AI.inB (Go.IntKind.wrap .i64 ((((List.length x3) : Nat) : Int) - (1 : Int))) (List.length x3)) then run k f_bits_PutPlain [] at_bits_PutPlain_L0 (S_bits_PutPlain_L0 (x1) ((Go.IntKind.wrap .i64 (x2 - (1 : Int)))) ((List.set x3 (Int.toNat (Go.IntKind.wrap .i64 ((((List.length x3) : Nat) : Int) - (1 : Int)))) (Go.AI.putAt (Go.AI.elemAt x3 (Go.IntKind.wrap .i64 ((((List.length x3) : Nat) : Int) - (1 : Int)))) 0 [(PV.i (Go.AI.bitsOp Go.BinOp.or .u8 (((Go.AI.elemAt x3 (Go.IntKind.wrap .i64 ((((List.length x3) : Nat) : Int) - (1 : Int)))).getD 0 PV.u)).toI (Go.AI.shl .u8 (Go.IntKind.wrap .u8 (Go.AI.bitsOp Go.BinOp.and .i64 (Go.AI.shr .i64 x1 x2) (1 : Int))) (Go.IntKind.wrap .i64 (x5 - (1 : Int))))))]))) (x4) ((Go.IntKind.wrap .i64 (x5 - (1 : Int)))) (x6) (x7))
  else none)
  else none)
  else none)
  else none)
  else none)
  else none))
  else some ([(PV.s (Go.AI.toBytes x3)), (PV.i x5), (PV.i (0 : Int))], [])) := by kernel_rfl
/- celluloid/celluloidref02.Width -/
noncomputable def S_celluloidref02_Width_L0 (x1 : Int) (x2 : Int) : St := mkSt [(0, .v (.int .i64 x1)), (3, .v (.int .i64 x2)), (7, .any), (8, .any), (11, .any), (12, .any), (13, .any), (14, .any), (15, .any), (16, .any), (17, .any), (18, .any), (19, .any), (20, .any), (21, .any), (22, .any), (23, .any), (24, .any), (25, .any), (26, .any), (27, .any), (28, .any), (29, .any), (30, .any), (31, .any), (32, .any), (35, .any), (36, .any), (37, .any), (38, .any), (39, .any), (40, .any), (41, .any), (42, .any), (43, .any), (44, .any), (45, .any)] [] 1000 50
noncomputable def at_celluloidref02_Width_L0 : List Item := (atLoop Try.f74 0)
theorem u_celluloidref02_Width (k : Nat) (a1 : Int) : call (k + 1) f_celluloidref02_Width [.i a1] [] =
  run k f_celluloidref02_Width [] at_celluloidref02_Width_L0 (S_celluloidref02_Width_L0 (a1) ((0 : Int))) := by kernel_rfl
theorem u_celluloidref02_Width_L0 (k : Nat) (x1 : Int) (x2 : Int) : run (k + 1) f_celluloidref02_Width [] at_celluloidref02_Width_L0 (S_celluloidref02_Width_L0 x1 x2) =
  ((bif (decide (x2 < (64 : Int))) then (bif (x1 != (0 : Int)) then (bif (decide (x2 > (0 : Int))) then (bif (decide (x2 < (63 : Int))) then (call k f_celluloidref02_Power [(PV.i (Go.IntKind.wrap .i64 (x2 - (1 : Int))))] []).bind fun r1 =>
   (bif (decide (x1 ≥ (Go.IntKind.wrap .i64 ((0 : Int) - (((r1).1.getD 0 PV.u)).toI)))) then (call k f_celluloidref02_Power [(PV.i (Go.IntKind.wrap .i64 (x2 - (1 : Int))))] []).bind fun r2 =>
   (bif (!(decide (x1 < (((r2).1.getD 0 PV.u)).toI))) then (bif (x2 == (63 : Int)) then (bif (decide (x1 ≥ (-4611686018427387904 : Int))) then some [(PV.b (!(decide (x1 < (4611686018427387904 : Int)))))]
   else some [(PV.b true)])
   else some [(PV.b true)])
   else some [(PV.b false)])
   else (bif (x2 == (63 : Int)) then (bif (decide (x1 ≥ (-4611686018427387904 : Int))) then some [(PV.b (!(decide (x1 < (4611686018427387904 : Int)))))]
   else some [(PV.b true)])
   else some [(PV.b true)]))
   else (bif (x2 == (63 : Int)) then (bif (decide (x1 ≥ (-4611686018427387904 : Int))) then some [(PV.b (!(decide (x1 < (4611686018427387904 : Int)))))]
   else some [(PV.b true)])
   else some [(PV.b true)]))
   else (bif (x2 == (63 : Int)) then (bif (decide (x1 ≥ (-4611686018427387904 : Int))) then some [(PV.b (!(decide (x1 < (4611686018427387904 : Int)))))]
   else some [(PV.b true)])
   else some [(PV.b true)]))
   else some [(PV.b false)])
   else some [(PV.b false)])).bind fun r3 =>
  (bif ((r3.getD 0 PV.u)).toB then run k f_celluloidref02_Width [] at_celluloidref02_Width_L0 (S_celluloidref02_Width_L0 (x1) ((Go.IntKind.wrap .i64 (x2 + (1 : Int)))))
  else some ([(PV.i x2)], [])) := by kernel_rfl
/- celluloid/celluloidref02.Power -/
noncomputable def S_celluloidref02_Power_L0 (x1 : Int) (x2 : Int) (x3 : Int) : St := mkSt [(0, .v (.int .i64 x1)), (3, .v (.int .i64 x2)), (4, .v (.int .i64 x3))] [] 1000 13
noncomputable def at_celluloidref02_Power_L0 : List Item := (atLoop Try.f75 0)
theorem u_celluloidref02_Power (k : Nat) (a1 : Int) : call (k + 1) f_celluloidref02_Power [.i a1] [] =
  run k f_celluloidref02_Power [] at_celluloidref02_Power_L0 (S_celluloidref02_Power_L0 (a1) ((1 : Int)) ((0 : Int))) := by kernel_rfl
theorem u_celluloidref02_Power_L0 (k : Nat) (x1 : Int) (x2 : Int) (x3 : Int) : run (k + 1) f_celluloidref02_Power [] at_celluloidref02_Power_L0 (S_celluloidref02_Power_L0 x1 x2 x3) =
  (bif (decide (x3 < x1)) then run k f_celluloidref02_Power [] at_celluloidref02_Power_L0 (S_celluloidref02_Power_L0 (x1) ((Go.IntKind.wrap .i64 (x2 * (2 : Int)))) ((Go.IntKind.wrap .i64 (x3 + (1 : Int)))))
  else some ([(PV.i x2)], [])) := by kernel_rfl
/- celluloid/celluloidref02.put -/
theorem u_celluloidref02_put (k : Nat) (a1 : List UInt8) (a2 : Int) (a3 : Int) : call (k + 1) f_celluloidref02_put [.s a1, .i a2, .i a3] [] =
  (bif (a2 == (0 : Int)) then (bif (decide (((List.length a1) + (List.length (Go.AI.toBytes (List.set [[(PV.i (0 : Int))]] 0 [(PV.i (Go.IntKind.wrap .u8 (Go.IntKind.wrap .i64 ((128 : Int) * a3))))])))) ≤ 1099511627776)) then some ([(PV.s (a1 ++ (Go.AI.toBytes (List.set [[(PV.i (0 : Int))]] 0 [(PV.i (Go.IntKind.wrap .u8 (Go.IntKind.wrap .i64 ((128 : Int) * a3))))])))), (PV.i (7 : Int))], [])
  else none)
  else (bif (Go.AI.inB (Go.IntKind.wrap .i64 ((((List.length a1) : Nat) : Int) - (1 : Int))) (List.length a1)) then (call k f_celluloidref02_Power [(PV.i (Go.IntKind.wrap .i64 (a2 - (1 : Int))))] []).bind fun r1 =>
  (bif (Go.AI.okB (0 : Int) (Go.IntKind.wrap .i64 ((((List.length a1) : Nat) : Int) - (1 : Int))) (List.length a1)) then (bif (decide (((List.length (Go.AI.cutL (0 : Int) (Go.IntKind.wrap .i64 ((((List.length a1) : Nat) : Int) - (1 : Int))) a1)) + (List.length (Go.AI.toBytes (List.set [[(PV.i (0 : Int))]] 0 [(PV.i (Go.IntKind.wrap .u8 (Go.IntKind.wrap .i64 ((Go.IntKind.wrap .i64 (Go.AI.bt a1 (Go.IntKind.wrap .i64 ((((List.length a1) : Nat) : Int) - (1 : Int))))) + (Go.IntKind.wrap .i64 (a3 * (((r1).1.getD 0 PV.u)).toI))))))])))) ≤ 1099511627776)) then some ([(PV.s ((Go.AI.cutL (0 : Int) (Go.IntKind.wrap .i64 ((((List.length a1) : Nat) : Int) - (1 : Int))) a1) ++ (Go.AI.toBytes (List.set [[(PV.i (0 : Int))]] 0 [(PV.i (Go.IntKind.wrap .u8 (Go.IntKind.wrap .i64 ((Go.IntKind.wrap .i64 (Go.AI.bt a1 (Go.IntKind.wrap .i64 ((((List.length a1) : Nat) : Int) - (1 : Int))))) + (Go.IntKind.wrap .i64 (a3 * (((r1).1.getD 0 PV.u)).toI))))))])))), (PV.i (Go.IntKind.wrap .i64 (a2 - (1 : Int))))], [])
  else none)
  else none)
  else none)) := by kernel_rfl
/- celluloid/celluloidref02.Signed -/
theorem u_celluloidref02_Signed (k : Nat) (a1 : List UInt8) (a2 : Int) (a3 : Int) : call (k + 1) f_celluloidref02_Signed [.s a1, .i a2, .i a3] [] =
  (call k f_celluloidref02_Plain [(PV.s a1), (PV.i a2), (PV.i a3)] []).bind fun r1 =>
  ((bif ((((r1).1.getD 3 PV.u)).toI == (0 : Int)) then (bif (decide (a3 > (0 : Int))) then (call k f_celluloidref02_Power [(PV.i a3)] []).bind fun r2 =>
   some [(PV.b (decide ((Go.IntKind.wrap .i64 ((2 : Int) * (((r1).1.getD 0 PV.u)).toI)) ≥ (((r2).1.getD 0 PV.u)).toI)))]
   else some [(PV.b false)])
   else some [(PV.b false)])).bind fun r3 =>
  (bif ((r3.getD 0 PV.u)).toB then (call k f_celluloidref02_Power [(PV.i a3)] []).bind fun r4 =>
  some ([(PV.i (Go.IntKind.wrap .i64 ((((r1).1.getD 0 PV.u)).toI - (((r4).1.getD 0 PV.u)).toI))), (PV.s (((r1).1.getD 1 PV.u)).toS), (PV.i (((r1).1.getD 2 PV.u)).toI), (PV.i (((r1).1.getD 3 PV.u)).toI)], [])
  else some ([(PV.i (((r1).1.getD 0 PV.u)).toI), (PV.s (((r1).1.getD 1 PV.u)).toS), (PV.i (((r1).1.getD 2 PV.u)).toI), (PV.i (((r1).1.getD 3 PV.u)).toI)], [])) := by kernel_rfl
/- celluloid/celluloidref02.Bit -/
noncomputable def S_celluloidref02_Bit_L0 (x1 : Int) (x2 : Int) : St := mkSt [(5, .v (.int .i64 x1)), (6, .v (.int .i64 x2))] [] 1000 22
noncomputable def at_celluloidref02_Bit_L0 : List Item := (atLoop Try.f78 0)
theorem u_celluloidref02_Bit (k : Nat) (a1 : List UInt8) (a2 : Int) : call (k + 1) f_celluloidref02_Bit [.s a1, .i a2] [] =
  (bif (Go.AI.inB (Go.IntKind.wrap .i64 (Int.tdiv a2 (8 : Int))) (List.length a1)) then run k f_celluloidref02_Bit [] at_celluloidref02_Bit_L0 (S_celluloidref02_Bit_L0 ((Go.IntKind.wrap .i64 (Go.AI.bt a1 (Go.IntKind.wrap .i64 (Int.tdiv a2 (8 : Int)))))) ((Int.tmod a2 (8 : Int))))
  else none) := by kernel_rfl
theorem u_celluloidref02_Bit_L0 (k : Nat) (x1 : Int) (x2 : Int) : run (k + 1) f_celluloidref02_Bit [] at_celluloidref02_Bit_L0 (S_celluloidref02_Bit_L0 x1 x2) =
  (bif (decide (x2 < (7 : Int))) then run k f_celluloidref02_Bit [] at_celluloidref02_Bit_L0 (S_celluloidref02_Bit_L0 ((Go.IntKind.wrap .i64 (Int.tdiv x1 (2 : Int)))) ((Go.IntKind.wrap .i64 (x2 + (1 : Int)))))
  else some ([(PV.i (Int.tmod x1 (2 : Int)))], [])) := by kernel_rfl

end Go.AI
