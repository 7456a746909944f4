/- Equations of the program's functions: each says what the interpreter answers for a call, by the answers one level below. -/
import Derived.Test.YtebldidbdhjgjaaAiM
import Derived.Test.YtebldidbdhjgjaaProg
import Derived.KernelRfl
set_option linter.unusedVariables false
set_option maxRecDepth 100000
namespace Go.AI
open Go Go.Proofs
def lookA : List (Nat × Nat × Keep) → Nat → Nat → Option Keep
  | [], _, _ => none
  | (f, k, kp) :: l, f', k' => bif Nat.beq f f' && Nat.beq k k' then some kp else lookA l f' k'
def loopTab : List (Nat × Nat × Keep) := [(11, 0, { slots := [(0, .pl 23), (5, .pl 23), (6, .any), (7, .any)], boxes := [], r := 1000, own := [] }),
  (16, 0, { slots := [(0, .pl 31), (1, .pl 31), (5, .any)], boxes := [], r := 1000, own := [] }),
  (13, 0, { slots := [(0, .pl 31), (4, .any), (5, .any), (19, .any), (20, .any), (21, .any), (22, .any), (23, .any), (24, .any)], boxes := [], r := 1000, own := [] }),
  (17, 0, { slots := [(1, .any), (3, .any), (6, .any), (8, .row 5), (31, .any), (32, .any)], boxes := [(.n 1 0 0), (.n 1 1 0)], r := 1000, own := [] }),
  (14, 0, { slots := [(3, .row 31), (6, .pl 23), (7, .any), (8, .any)], boxes := [], r := 1000, own := [] }),
  (18, 0, { slots := [(5, .any), (7, .any), (8, .any), (9, .any), (10, .any), (11, .any)], boxes := [(.n 1 2 0), (.n 3 7 0)], r := 1000, own := [] }),
  (6, 0, { slots := [(0, .pl 23), (3, .any), (20, .pl 23), (21, .any), (22, .any), (30, .any), (31, .any), (32, .any), (53, .any), (54, .any), (55, .any), (56, .any), (72, .any), (73, .any), (76, .any)], boxes := [], r := 1000, own := [] }),
  (15, 0, { slots := [(0, .any), (5, .row 23), (24, .any), (25, .any), (26, .any)], boxes := [], r := 1000, own := [] })]
def cutTab : List (Nat × Nat × Keep) := []
def ann : Ann := { loop := lookA loopTab, cut := fun f k => bif Nat.beq f 12 then some { slots := [], boxes := [.w 0], r := 0 } else lookA cutTab f k, ownT := fun t _ => Nat.beq t 9999, ownA := fun f e => false, ownR := fun f e => false, wrT := fun f _ => false }
noncomputable abbrev call (k : Nat) := callAt Try.prog ann k
noncomputable abbrev run (k : Nat) := runAt Try.prog ann k
noncomputable def cW : CallF := callW Try.prog ann
noncomputable def rW : FuncId → List TypeId → List Item → St → Option Res := runW Try.prog ann
theorem cW_fix (f : FuncId) (args : List PV) (bs : List BX) : cW f args bs = stepC Try.prog ann cW rW f args bs := callW_fix _ _ f args bs
theorem rW_fix (f : FuncId) (pts : List TypeId) (t : List Item) (st : St) : rW f pts t st = stepR Try.prog ann cW rW f pts t st := runW_fix _ _ f pts t st
theorem Ans.c {f : FuncId} {ps : List PV} {bs : List BX} {r : Res} (h : Ans (fun k => call k f ps bs) r) : cW f ps bs = some r := h.w
def f_celluloidlaw12_TagAgain : Nat := 5
def f_celluloidlaw12_awake : Nat := 7
def f_tag_Put : Nat := 8
def f_tag_Take : Nat := 9
def f_tag_Join : Nat := 12
def f_celluloidlaw12_refs : Nat := 14
def f_tag_Split : Nat := 15
def f_celluloidref12_Same : Nat := 16
def f_bits_PutLittle : Nat := 17
def f_bits_Little : Nat := 18
def f_bits_Bytes : Nat := 19
def f_bits_PutBytes : Nat := 23
def f_bits_right : Nat := 24
def f_bits_Align : Nat := 25
/- celluloid/bits.PutLittle -/
noncomputable def S_bits_PutLittle_L0 (x1 : Int) (x2 : Int) (x3 : Int) (x4 : List (List PV)) (x5 : List UInt8) (x6 : Int) (x7 : List UInt8) (x8 : Int) : St := mkSt [(1, .v (.int .i64 x1)), (3, .v (.ptr (.n 1 0 0) 0)), (6, .v (.ptr (.n 1 1 0) 0)), (8, .v (.wr (.w 8))), (31, .v (.int .i64 x2)), (32, .v (.int .i64 x3))] [((.w 8), .row 5 x4), ((.n 1 0 0), .cells 46 [.str x5, .int .i64 x6]), ((.n 1 1 0), .cells 46 [.str x7, .int .i64 x8])] 1000 48
noncomputable def at_bits_PutLittle_L0 : List Item := (atLoop Try.f17 0)
theorem u_bits_PutLittle (k : Nat) (a1 : List UInt8) (a2 : Int) (a3 : Int) (a4 : Int) : call (k + 1) f_bits_PutLittle [.s a1, .i a2, .i a3, .i a4] [] =
  ((bif (decide (a4 < (1 : Int))) then some [(PV.b true)]
   else (bif (decide (a4 > (4 : Int))) then some [(PV.b true)]
   else (bif (decide (a3 < (0 : Int))) then some [(PV.b true)]
   else (bif (decide ((0 : Int) ≤ (IntKind.wrap .i64 ((8 : Int) * a4)))) then some [(PV.b ((shr .i64 a3 (IntKind.wrap .i64 ((8 : Int) * a4))) != (0 : Int)))]
   else none))))).bind fun r1 =>
  (bif ((r1.getD 0 PV.u)).toB then some ([(PV.s []), (PV.i (0 : Int)), (PV.i (1 : Int))], [])
  else (bif ((decide ((0 : Int) ≤ a4)) && ((decide (a4 ≤ a4)) && (decide (a4 ≤ (1073741824 : Int))))) then run k f_bits_PutLittle [] at_bits_PutLittle_L0 (S_bits_PutLittle_L0 (a3) ((((List.length (List.replicate (Int.toNat a4) [(PV.i (0 : Int))])) : Nat) : Int)) ((0 : Int)) ((List.replicate (Int.toNat a4) [(PV.i (0 : Int))])) (a1) (a2) ([]) ((0 : Int)))
  else none)) := by kernel_rfl
theorem u_bits_PutLittle_L0 (k : Nat) (x1 : Int) (x2 : Int) (x3 : Int) (x4 : List (List PV)) (x5 : List UInt8) (x6 : Int) (x7 : List UInt8) (x8 : Int) : run (k + 1) f_bits_PutLittle [] at_bits_PutLittle_L0 (S_bits_PutLittle_L0 x1 x2 x3 x4 x5 x6 x7 x8) =
  (bif (decide (x3 < x2)) then (bif (decide ((0 : Int) ≤ (IntKind.wrap .i64 ((8 : Int) * x3)))) then (bif (inB x3 (List.length x4)) then (bif (inB x3 (List.length x4)) then run k f_bits_PutLittle [] at_bits_PutLittle_L0 (S_bits_PutLittle_L0 (x1) (x2) ((IntKind.wrap .i64 (x3 + (1 : Int)))) ((List.set x4 (Int.toNat x3) (putAt (elemAt x4 x3) 0 [(PV.i (IntKind.wrap .u8 (shr .i64 x1 (IntKind.wrap .i64 ((8 : Int) * x3)))))]))) (x5) (x6) (x7) (x8))
  else none)
  else none)
  else none)
  else (call k f_bits_PutBytes [(PV.s x5), (PV.i x6), (PV.s (toBytes x4))] []).bind fun r2 =>
  some ([(PV.s (((r2).1.getD 0 PV.u)).toS), (PV.i (((r2).1.getD 1 PV.u)).toI), (PV.i (0 : Int))], [])) := by kernel_rfl
/- celluloid/bits.PutBytes -/
theorem u_bits_PutBytes (k : Nat) (a1 : List UInt8) (a2 : Int) (a3 : List UInt8) : call (k + 1) f_bits_PutBytes [.s a1, .i a2, .s a3] [] =
  (bif (decide (((List.length a1) + (List.length a3)) ≤ 1099511627776)) then some ([(PV.s (a1 ++ a3)), (PV.i (0 : Int))], [])
  else none) := by kernel_rfl
/- celluloid/bits.Little -/
noncomputable def S_bits_Little_L0 (x1 : List UInt8) (x2 : Int) (x3 : Int) (x4 : Int) (x5 : List UInt8) (x6 : Int) (x7 : List UInt8) (x8 : Int) : St := mkSt [(5, .v (.ptr (.n 1 2 0) 0)), (7, .v (.str x1)), (8, .v (.ptr (.n 3 7 0) 0)), (9, .v (.int .i64 x2)), (10, .v (.int .i64 x3)), (11, .v (.int .i64 x4))] [((.n 1 2 0), .cells 51 [.str x5, .int .i64 x6]), ((.n 3 7 0), .cells 51 [.str x7, .int .i64 x8])] 1000 43
noncomputable def at_bits_Little_L0 : List Item := (atLoop Try.f18 0)
theorem u_bits_Little (k : Nat) (a1 : List UInt8) (a2 : Int) (a3 : Int) : call (k + 1) f_bits_Little [.s a1, .i a2, .i a3] [] =
  ((bif (decide (a3 < (1 : Int))) then some [(PV.b true)]
   else some [(PV.b (decide (a3 > (4 : Int))))])).bind fun r1 =>
  (bif ((r1.getD 0 PV.u)).toB then some ([(PV.i (0 : Int)), (PV.s []), (PV.i (0 : Int)), (PV.i (1 : Int))], [])
  else (call k f_bits_Bytes [(PV.s a1), (PV.i a2), (PV.i a3)] []).bind fun r2 =>
  run k f_bits_Little [] at_bits_Little_L0 (S_bits_Little_L0 ((((r2).1.getD 0 PV.u)).toS) ((((r2).1.getD 3 PV.u)).toI) ((0 : Int)) ((IntKind.wrap .i64 ((((List.length (((r2).1.getD 0 PV.u)).toS) : Nat) : Int) - (1 : Int)))) ([]) ((0 : Int)) ((((r2).1.getD 1 PV.u)).toS) ((((r2).1.getD 2 PV.u)).toI))) := by kernel_rfl
theorem u_bits_Little_L0 (k : Nat) (x1 : List UInt8) (x2 : Int) (x3 : Int) (x4 : Int) (x5 : List UInt8) (x6 : Int) (x7 : List UInt8) (x8 : Int) : run (k + 1) f_bits_Little [] at_bits_Little_L0 (S_bits_Little_L0 x1 x2 x3 x4 x5 x6 x7 x8) =
  (bif (decide (x4 ≥ (0 : Int))) then (bif (inB x4 (List.length x1)) then run k f_bits_Little [] at_bits_Little_L0 (S_bits_Little_L0 (x1) (x2) ((bitsOp Go.BinOp.or .i64 (shl .i64 x3 (8 : Int)) (IntKind.wrap .i64 (bt x1 x4)))) ((IntKind.wrap .i64 (x4 - (1 : Int)))) (x5) (x6) (x7) (x8))
  else none)
  else some ([(PV.i x3), (PV.s x7), (PV.i x8), (PV.i x2)], [])) := by kernel_rfl
/- celluloid/bits.right -/
theorem u_bits_right (k : Nat) (a1 : List UInt8) (a2 : Int) : call (k + 1) f_bits_right [.s a1, .i a2] [] =
  ((bif (decide (a2 ≥ (0 : Int))) then some [(PV.b (decide (a2 ≤ (IntKind.wrap .i64 ((8 : Int) * (((List.length a1) : Nat) : Int))))))]
   else some [(PV.b false)])).bind fun r1 =>
  some ([(PV.b ((r1.getD 0 PV.u)).toB)], []) := by kernel_rfl
/- celluloid/bits.Bytes -/
theorem u_bits_Bytes (k : Nat) (a1 : List UInt8) (a2 : Int) (a3 : Int) : call (k + 1) f_bits_Bytes [.s a1, .i a2, .i a3] [] =
  ((call k f_bits_right [(PV.s a1), (PV.i a2)] []).bind fun r1 =>
   (bif (!(((r1).1.getD 0 PV.u)).toB) then some [(PV.b true)]
   else some [(PV.b (decide (a3 < (0 : Int))))])).bind fun r2 =>
  (bif ((r2.getD 0 PV.u)).toB then some ([(PV.s []), (PV.s []), (PV.i (0 : Int)), (PV.i (1 : Int))], [])
  else (call k f_bits_Align [(PV.s a1), (PV.i a2)] []).bind fun r3 =>
  (bif (decide (a3 > (IntKind.wrap .i64 ((((List.length a1) : Nat) : Int) - (IntKind.wrap .i64 (Int.tdiv (((r3).1.getD 1 PV.u)).toI (8 : Int))))))) then some ([(PV.s []), (PV.s []), (PV.i (0 : Int)), (PV.i (2 : Int))], [])
  else (bif (okB (IntKind.wrap .i64 (Int.tdiv (((r3).1.getD 1 PV.u)).toI (8 : Int))) (IntKind.wrap .i64 ((IntKind.wrap .i64 (Int.tdiv (((r3).1.getD 1 PV.u)).toI (8 : Int))) + a3)) (List.length a1)) then some ([(PV.s (cutL (IntKind.wrap .i64 (Int.tdiv (((r3).1.getD 1 PV.u)).toI (8 : Int))) (IntKind.wrap .i64 ((IntKind.wrap .i64 (Int.tdiv (((r3).1.getD 1 PV.u)).toI (8 : Int))) + a3)) a1)), (PV.s a1), (PV.i (IntKind.wrap .i64 ((8 : Int) * (IntKind.wrap .i64 ((IntKind.wrap .i64 (Int.tdiv (((r3).1.getD 1 PV.u)).toI (8 : Int))) + a3))))), (PV.i (0 : Int))], [])
  else none))) := by kernel_rfl
/- celluloid/bits.Align -/
theorem u_bits_Align (k : Nat) (a1 : List UInt8) (a2 : Int) : call (k + 1) f_bits_Align [.s a1, .i a2] [] =
  (call k f_bits_right [(PV.s a1), (PV.i a2)] []).bind fun r1 =>
  (bif (((r1).1.getD 0 PV.u)).toB then some ([(PV.s a1), (PV.i (IntKind.wrap .i64 ((IntKind.wrap .i64 (Int.tdiv (IntKind.wrap .i64 (a2 + (7 : Int))) (8 : Int))) * (8 : Int))))], [])
  else some ([(PV.s a1), (PV.i a2)], [])) := by kernel_rfl
end Go.AI
