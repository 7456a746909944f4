/- Equations of the program's functions, on. -/
import Derived.Test.YtebldidbdhjgjaaU
import Derived.KernelRfl
set_option linter.unusedVariables false
set_option maxRecDepth 100000
namespace Go.AI
open Go Go.Proofs
/- celluloid/celluloidlaw12.few -/
noncomputable def S_celluloidlaw12_few_L0 (x1 : List (List PV)) (x2 : List (List PV)) (x3 : Int) (x4 : Int) : St := mkSt [(0, .v (.sl 23 x1)), (5, .v (.sl 23 x2)), (6, .v (.int .i64 x3)), (7, .v (.int .i64 x4))] [] 1000 19
noncomputable def at_celluloidlaw12_few_L0 : List Item := (atLoop Try.f11 0)
theorem w_celluloidlaw12_few (a1 : List (List PV)) : cW f_celluloidlaw12_few [.l a1] [] =
  rW f_celluloidlaw12_few [] at_celluloidlaw12_few_L0 (S_celluloidlaw12_few_L0 (a1) (a1) ((((List.length a1) : Nat) : Int)) ((0 : Int))) := by rw [cW_fix]; generalize cW = C; generalize rW = R; kernel_rfl
theorem w_celluloidlaw12_few_L0 (x1 : List (List PV)) (x2 : List (List PV)) (x3 : Int) (x4 : Int) : rW f_celluloidlaw12_few [] at_celluloidlaw12_few_L0 (S_celluloidlaw12_few_L0 x1 x2 x3 x4) =
  (bif (decide (x4 < x3)) then (bif (inB x4 (List.length x2)) then (bif (decide ((((List.length (((elemAt x2 x4).getD 1 PV.u)).toS) : Nat) : Int) > (1024 : Int))) then some ([(PV.b false)], [])
  else rW f_celluloidlaw12_few [] at_celluloidlaw12_few_L0 (S_celluloidlaw12_few_L0 (x1) (x2) (x3) ((IntKind.wrap .i64 (x4 + (1 : Int))))))
  else none)
  else some ([(PV.b (decide ((((List.length x1) : Nat) : Int) ≤ (300 : Int))))], [])) := by rw [rW_fix]; generalize cW = C; generalize rW = R; kernel_rfl
/- celluloid/celluloidref12.Same -/
/- celluloid/celluloidref12.one -/
/- celluloid/tag.Put -/
theorem w_tag_Put (a1 : Int) (a2 : List UInt8) : cW f_tag_Put [.i a1, .s a2] [] =
  ((bif (decide (a1 < (0 : Int))) then some [(PV.b true)]
   else some [(PV.b (decide (a1 ≥ (1024 : Int))))])).bind fun r1 =>
  (bif ((r1.getD 0 PV.u)).toB then some ([(PV.s []), (PV.i (1 : Int))], [])
  else (cW f_bits_PutLittle [(PV.s []), (PV.i (0 : Int)), (PV.i (bitsOp Go.BinOp.or .i64 (shl .i64 a1 (6 : Int)) (bif (decide ((63 : Int) < (((List.length a2) : Nat) : Int))) then (63 : Int) else (((List.length a2) : Nat) : Int)))), (PV.i (2 : Int))] []).bind fun r2 =>
  (bif ((bif (decide ((63 : Int) < (((List.length a2) : Nat) : Int))) then (63 : Int) else (((List.length a2) : Nat) : Int)) == (63 : Int)) then (cW f_bits_PutLittle [(PV.s (((r2).1.getD 0 PV.u)).toS), (PV.i (((r2).1.getD 1 PV.u)).toI), (PV.i (((List.length a2) : Nat) : Int)), (PV.i (4 : Int))] []).bind fun r3 =>
  (bif (decide (((List.length (((r3).1.getD 0 PV.u)).toS) + (List.length a2)) ≤ 1099511627776)) then some ([(PV.s ((((r3).1.getD 0 PV.u)).toS ++ a2)), (PV.i (0 : Int))], [])
  else none)
  else (bif (decide (((List.length (((r2).1.getD 0 PV.u)).toS) + (List.length a2)) ≤ 1099511627776)) then some ([(PV.s ((((r2).1.getD 0 PV.u)).toS ++ a2)), (PV.i (0 : Int))], [])
  else none))) := by rw [cW_fix]; generalize cW = C; generalize rW = R; kernel_rfl
/- celluloid/celluloidref12.Join -/
/- celluloid/tag.Take -/
theorem w_tag_Take (a1 : List UInt8) : cW f_tag_Take [.s a1] [] =
  (cW f_bits_Little [(PV.s a1), (PV.i (0 : Int)), (PV.i (2 : Int))] []).bind fun r1 =>
  (bif ((((r1).1.getD 3 PV.u)).toI != (0 : Int)) then some ([(PV.i (0 : Int)), (PV.s []), (PV.s []), (PV.i (((r1).1.getD 3 PV.u)).toI)], [])
  else (bif ((bitsOp Go.BinOp.and .i64 (((r1).1.getD 0 PV.u)).toI (63 : Int)) == (63 : Int)) then (cW f_bits_Little [(PV.s (((r1).1.getD 1 PV.u)).toS), (PV.i (((r1).1.getD 2 PV.u)).toI), (PV.i (4 : Int))] []).bind fun r2 =>
  (bif ((((r2).1.getD 3 PV.u)).toI != (0 : Int)) then some ([(PV.i (0 : Int)), (PV.s []), (PV.s []), (PV.i (((r2).1.getD 3 PV.u)).toI)], [])
  else (cW f_bits_Bytes [(PV.s (((r2).1.getD 1 PV.u)).toS), (PV.i (((r2).1.getD 2 PV.u)).toI), (PV.i (((r2).1.getD 0 PV.u)).toI)] []).bind fun r3 =>
  (bif ((((r3).1.getD 3 PV.u)).toI != (0 : Int)) then some ([(PV.i (0 : Int)), (PV.s []), (PV.s []), (PV.i (((r3).1.getD 3 PV.u)).toI)], [])
  else (bif (okB (IntKind.wrap .i64 (Int.tdiv (((r3).1.getD 2 PV.u)).toI (8 : Int))) (((List.length a1) : Nat) : Int) (List.length a1)) then some ([(PV.i (shr .i64 (((r1).1.getD 0 PV.u)).toI (6 : Int))), (PV.s (((r3).1.getD 0 PV.u)).toS), (PV.s (cutL (IntKind.wrap .i64 (Int.tdiv (((r3).1.getD 2 PV.u)).toI (8 : Int))) (((List.length a1) : Nat) : Int) a1)), (PV.i (0 : Int))], [])
  else none)))
  else (cW f_bits_Bytes [(PV.s (((r1).1.getD 1 PV.u)).toS), (PV.i (((r1).1.getD 2 PV.u)).toI), (PV.i (bitsOp Go.BinOp.and .i64 (((r1).1.getD 0 PV.u)).toI (63 : Int)))] []).bind fun r4 =>
  (bif ((((r4).1.getD 3 PV.u)).toI != (0 : Int)) then some ([(PV.i (0 : Int)), (PV.s []), (PV.s []), (PV.i (((r4).1.getD 3 PV.u)).toI)], [])
  else (bif (okB (IntKind.wrap .i64 (Int.tdiv (((r4).1.getD 2 PV.u)).toI (8 : Int))) (((List.length a1) : Nat) : Int) (List.length a1)) then some ([(PV.i (shr .i64 (((r1).1.getD 0 PV.u)).toI (6 : Int))), (PV.s (((r4).1.getD 0 PV.u)).toS), (PV.s (cutL (IntKind.wrap .i64 (Int.tdiv (((r4).1.getD 2 PV.u)).toI (8 : Int))) (((List.length a1) : Nat) : Int) a1)), (PV.i (0 : Int))], [])
  else none)))) := by rw [cW_fix]; generalize cW = C; generalize rW = R; kernel_rfl
/- celluloid/celluloidlaw12.refs -/
/- celluloid/celluloidref12.Put -/
/- celluloid/tag.Split -/
noncomputable def S_tag_Split_L0 (x1 : List UInt8) (x2 : List (List PV)) : St := mkSt [(0, .v (.str x1)), (5, .v (.wr (.w 5))), (24, .any), (25, .any), (26, .any)] [((.w 5), .row 23 x2)] 1000 43
noncomputable def at_tag_Split_L0 : List Item := (atLoop Try.f15 0)
theorem w_tag_Split (a1 : List UInt8) : cW f_tag_Split [.s a1] [] =
  rW f_tag_Split [] at_tag_Split_L0 (S_tag_Split_L0 (a1) ([])) := by rw [cW_fix]; generalize cW = C; generalize rW = R; kernel_rfl
theorem w_tag_Split_L0 (x1 : List UInt8) (x2 : List (List PV)) : rW f_tag_Split [] at_tag_Split_L0 (S_tag_Split_L0 x1 x2) =
  (cW f_tag_Take [(PV.s x1)] []).bind fun r1 =>
  (bif ((((r1).1.getD 3 PV.u)).toI != (0 : Int)) then some ([(PV.l []), (PV.s []), (PV.i (((r1).1.getD 3 PV.u)).toI)], [])
  else ((bif ((((r1).1.getD 0 PV.u)).toI == (0 : Int)) then some [(PV.b (!((((r1).1.getD 1 PV.u)).toS == [])))]
   else some [(PV.b false)])).bind fun r2 =>
  (bif ((r2.getD 0 PV.u)).toB then some ([(PV.l []), (PV.s []), (PV.i (3 : Int))], [])
  else (bif ((((r1).1.getD 0 PV.u)).toI == (0 : Int)) then some ([(PV.l x2), (PV.s (((r1).1.getD 2 PV.u)).toS), (PV.i (0 : Int))], [])
  else (bif ((((List.length x2) : Nat) : Int) == (256 : Int)) then some ([(PV.l []), (PV.s []), (PV.i (7 : Int))], [])
  else (bif (decide (((((List.length x2) + (List.length (List.set [[(PV.i (0 : Int)), (PV.s [])]] 0 [(PV.i (((r1).1.getD 0 PV.u)).toI), (PV.s (((r1).1.getD 1 PV.u)).toS)]))) + 1000) * 25) ≤ 1099511627776)) then rW f_tag_Split [] at_tag_Split_L0 (S_tag_Split_L0 ((((r1).1.getD 2 PV.u)).toS) ((x2 ++ (List.set [[(PV.i (0 : Int)), (PV.s [])]] 0 [(PV.i (((r1).1.getD 0 PV.u)).toI), (PV.s (((r1).1.getD 1 PV.u)).toS)]))))
  else none))))) := by rw [rW_fix]; generalize cW = C; generalize rW = R; kernel_rfl
end Go.AI
