/- Equations of the program's functions, on. -/
import Derived.Test.YtkclfiliefadlaaU09
import Derived.KernelRfl
set_option linter.unusedVariables false
set_option maxRecDepth 100000
namespace Go.AI
open Go Go.Proofs
/- celluloid/celluloidlaw10.MorphBetween -/
/- celluloid/celluloidlaw10.MorphEnds -/
/- celluloid/celluloidref10.Small -/
/- celluloid/fix.Floor -/
theorem w_fix_Floor (a1 : Int) (a2 : Int) : cW f_fix_Floor [.i a1, .i a2] [] =
  (cW f_fix_MulDiv [(PV.i a1), (PV.i (1 : Int)), (PV.i a2)] []).bind fun r1 =>
  some ([(PV.i (((r1).1.getD 0 PV.u)).toI), (PV.b (((r1).1.getD 1 PV.u)).toB)], []) := by rw [cW_fix]; generalize cW = C; generalize rW = R; kernel_rfl
/- celluloid/morph.rect -/
/- celluloid/morph.curved -/
/- celluloid/fix.times -/
theorem w_fix_times (a1 : Int) (a2 : Int) : cW f_fix_times [.i a1, .i a2] [] =
  (cW f_math_bits_Mul64 [(PV.i (IntKind.wrap .u64 a1)), (PV.i (IntKind.wrap .u64 a2))] []).bind fun r1 =>
  (bif (decide (a1 < (0 : Int))) then (bif (decide (a2 < (0 : Int))) then some ([(PV.i (IntKind.wrap .i64 (IntKind.wrap .u64 ((IntKind.wrap .u64 ((((r1).1.getD 0 PV.u)).toI - (IntKind.wrap .u64 a2))) - (IntKind.wrap .u64 a1))))), (PV.i (((r1).1.getD 1 PV.u)).toI)], [])
  else some ([(PV.i (IntKind.wrap .i64 (IntKind.wrap .u64 ((((r1).1.getD 0 PV.u)).toI - (IntKind.wrap .u64 a2))))), (PV.i (((r1).1.getD 1 PV.u)).toI)], []))
  else (bif (decide (a2 < (0 : Int))) then some ([(PV.i (IntKind.wrap .i64 (IntKind.wrap .u64 ((((r1).1.getD 0 PV.u)).toI - (IntKind.wrap .u64 a1))))), (PV.i (((r1).1.getD 1 PV.u)).toI)], [])
  else some ([(PV.i (IntKind.wrap .i64 (((r1).1.getD 0 PV.u)).toI)), (PV.i (((r1).1.getD 1 PV.u)).toI)], []))) := by rw [cW_fix]; generalize cW = C; generalize rW = R; kernel_rfl
/- celluloid/fix.narrowed -/
theorem w_fix_narrowed (a1 : Int) (a2 : Bool) : cW f_fix_narrowed [.i a1, .b a2] [] =
  (bif a2 then some ([(PV.b (decide (a1 ≤ (9223372036854775808 : Int))))], [])
  else some ([(PV.b (decide (a1 ≤ (9223372036854775807 : Int))))], [])) := by rw [cW_fix]; generalize cW = C; generalize rW = R; kernel_rfl
/- math/bits.Mul64 -/
theorem w_math_bits_Mul64 (a1 : Int) (a2 : Int) : cW f_math_bits_Mul64 [.i a1, .i a2] [] =
  some ([(PV.i (IntKind.wrap .u64 ((IntKind.wrap .u64 ((IntKind.wrap .u64 ((shr .u64 a1 (32 : Int)) * (shr .u64 a2 (32 : Int)))) + (shr .u64 (IntKind.wrap .u64 ((IntKind.wrap .u64 ((shr .u64 a1 (32 : Int)) * (bitsOp Go.BinOp.and .u64 a2 (4294967295 : Int)))) + (shr .u64 (IntKind.wrap .u64 ((bitsOp Go.BinOp.and .u64 a1 (4294967295 : Int)) * (bitsOp Go.BinOp.and .u64 a2 (4294967295 : Int)))) (32 : Int)))) (32 : Int)))) + (shr .u64 (IntKind.wrap .u64 ((bitsOp Go.BinOp.and .u64 (IntKind.wrap .u64 ((IntKind.wrap .u64 ((shr .u64 a1 (32 : Int)) * (bitsOp Go.BinOp.and .u64 a2 (4294967295 : Int)))) + (shr .u64 (IntKind.wrap .u64 ((bitsOp Go.BinOp.and .u64 a1 (4294967295 : Int)) * (bitsOp Go.BinOp.and .u64 a2 (4294967295 : Int)))) (32 : Int)))) (4294967295 : Int)) + (IntKind.wrap .u64 ((bitsOp Go.BinOp.and .u64 a1 (4294967295 : Int)) * (shr .u64 a2 (32 : Int)))))) (32 : Int))))), (PV.i (IntKind.wrap .u64 (a1 * a2)))], []) := by rw [cW_fix]; generalize cW = C; generalize rW = R; kernel_rfl
/- celluloid/celluloidlaw10.MorphAt -/
/- celluloid/morph.Between -/
theorem w_morph_Between (a1 : Int) (a2 : Int) (a3 : Int) : cW f_morph_Between [.i a1, .i a2, .i a3] [] =
  ((bif (decide ((bif (decide ((IntKind.wrap .i64 ((0 : Int) - a2)) > (bif (decide (a2 > (bif (decide ((IntKind.wrap .i64 ((0 : Int) - a1)) > a1)) then (IntKind.wrap .i64 ((0 : Int) - a1)) else a1))) then a2 else (bif (decide ((IntKind.wrap .i64 ((0 : Int) - a1)) > a1)) then (IntKind.wrap .i64 ((0 : Int) - a1)) else a1)))) then (IntKind.wrap .i64 ((0 : Int) - a2)) else (bif (decide (a2 > (bif (decide ((IntKind.wrap .i64 ((0 : Int) - a1)) > a1)) then (IntKind.wrap .i64 ((0 : Int) - a1)) else a1))) then a2 else (bif (decide ((IntKind.wrap .i64 ((0 : Int) - a1)) > a1)) then (IntKind.wrap .i64 ((0 : Int) - a1)) else a1))) > (1099511627776 : Int))) then some [(PV.b true)]
   else some [(PV.b (decide ((bif (decide (a2 < a1)) then a2 else a1) < (-1099511627776 : Int))))])).bind fun r1 =>
  (bif ((r1.getD 0 PV.u)).toB then some ([(PV.i (0 : Int))], [])
  else (cW f_fix_Floor [(PV.i (IntKind.wrap .i64 ((IntKind.wrap .i64 (a2 - a1)) * (bif (decide ((65535 : Int) < (bif (decide ((0 : Int) > a3)) then (0 : Int) else a3))) then (65535 : Int) else (bif (decide ((0 : Int) > a3)) then (0 : Int) else a3))))), (PV.i (65535 : Int))] []).bind fun r2 =>
  some ([(PV.i (IntKind.wrap .i64 (a1 + (((r2).1.getD 0 PV.u)).toI)))], [])) := by rw [cW_fix]; generalize cW = C; generalize rW = R; kernel_rfl
/- celluloid/celluloidlaw10.ref -/
/- celluloid/celluloidref10.At -/
/- celluloid/morph.Right -/
/- celluloid/morph.color -/
/- celluloid/celluloidref10.color -/
/- celluloid/fix.MulDiv -/
theorem w_fix_MulDiv (a1 : Int) (a2 : Int) (a3 : Int) : cW f_fix_MulDiv [.i a1, .i a2, .i a3] [] =
  (bif (a3 == (0 : Int)) then some ([(PV.i (0 : Int)), (PV.b false)], [])
  else (cW f_fix_times [(PV.i a1), (PV.i a2)] []).bind fun r1 =>
  (cW f__celluloid_fix_wide__abs [(PV.i (((r1).1.getD 0 PV.u)).toI), (PV.i (((r1).1.getD 1 PV.u)).toI)] []).bind fun r2 =>
  (cW f_fix_size [(PV.i a3)] []).bind fun r3 =>
  (bif (decide ((((r2).1.getD 0 PV.u)).toI ≥ (((r3).1.getD 0 PV.u)).toI)) then some ([(PV.i (0 : Int)), (PV.b false)], [])
  else (cW f_math_bits_Div64 [(PV.i (((r2).1.getD 0 PV.u)).toI), (PV.i (((r2).1.getD 1 PV.u)).toI), (PV.i (((r3).1.getD 0 PV.u)).toI)] []).bind fun r4 =>
  ((bif ((((r2).1.getD 2 PV.u)).toB == (decide (a3 < (0 : Int)))) then some [(PV.b true)]
   else (bif ((((r4).1.getD 0 PV.u)).toI == (0 : Int)) then some [(PV.b ((((r4).1.getD 1 PV.u)).toI == (0 : Int)))]
   else some [(PV.b false)]))).bind fun r5 =>
  (bif ((r5.getD 0 PV.u)).toB then (cW f_fix_narrowed [(PV.i (((r4).1.getD 0 PV.u)).toI), (PV.b false)] []).bind fun r6 =>
  (bif (!(((r6).1.getD 0 PV.u)).toB) then some ([(PV.i (0 : Int)), (PV.b false)], [])
  else some ([(PV.i (IntKind.wrap .i64 (((r4).1.getD 0 PV.u)).toI)), (PV.b true)], []))
  else (bif (decide ((((r4).1.getD 1 PV.u)).toI > (0 : Int))) then (bif ((IntKind.wrap .u64 ((((r4).1.getD 0 PV.u)).toI + (1 : Int))) == (0 : Int)) then some ([(PV.i (0 : Int)), (PV.b false)], [])
  else (cW f_fix_narrowed [(PV.i (IntKind.wrap .u64 ((((r4).1.getD 0 PV.u)).toI + (1 : Int)))), (PV.b true)] []).bind fun r7 =>
  (bif (!(((r7).1.getD 0 PV.u)).toB) then some ([(PV.i (0 : Int)), (PV.b false)], [])
  else some ([(PV.i (IntKind.wrap .i64 (IntKind.wrap .u64 ((0 : Int) - (IntKind.wrap .u64 ((((r4).1.getD 0 PV.u)).toI + (1 : Int))))))), (PV.b true)], [])))
  else (cW f_fix_narrowed [(PV.i (((r4).1.getD 0 PV.u)).toI), (PV.b true)] []).bind fun r8 =>
  (bif (!(((r8).1.getD 0 PV.u)).toB) then some ([(PV.i (0 : Int)), (PV.b false)], [])
  else some ([(PV.i (IntKind.wrap .i64 (IntKind.wrap .u64 ((0 : Int) - (((r4).1.getD 0 PV.u)).toI)))), (PV.b true)], [])))))) := by rw [cW_fix]; generalize cW = C; generalize rW = R; kernel_rfl
/- (celluloid/fix.wide).abs -/
theorem w__celluloid_fix_wide__abs (a1 : Int) (a2 : Int) : cW f__celluloid_fix_wide__abs [.i a1, .i a2] [] =
  (bif (decide (a1 ≥ (0 : Int))) then some ([(PV.i (IntKind.wrap .u64 a1)), (PV.i a2), (PV.b false)], [])
  else (cW f_math_bits_Sub64 [(PV.i (0 : Int)), (PV.i a2), (PV.i (0 : Int))] []).bind fun r1 =>
  (cW f_math_bits_Sub64 [(PV.i (0 : Int)), (PV.i (IntKind.wrap .u64 a1)), (PV.i (((r1).1.getD 1 PV.u)).toI)] []).bind fun r2 =>
  some ([(PV.i (((r2).1.getD 0 PV.u)).toI), (PV.i (((r1).1.getD 0 PV.u)).toI), (PV.b true)], [])) := by rw [cW_fix]; generalize cW = C; generalize rW = R; kernel_rfl
/- math/bits.Sub64 -/
theorem w_math_bits_Sub64 (a1 : Int) (a2 : Int) (a3 : Int) : cW f_math_bits_Sub64 [.i a1, .i a2, .i a3] [] =
  (bif Nat.ble a3.toNat 1 then some ([.i (Int.ofNat ((a1.toNat + 2 ^ 64 - a2.toNat - a3.toNat) % 2 ^ 64)), .i (Int.ofNat (if a1.toNat < a2.toNat + a3.toNat then 1 else 0))], []) else none) := by rw [cW_fix]; generalize cW = C; generalize rW = R; kernel_rfl
/- celluloid/celluloidlaw10.MorphSame -/
/- celluloid/celluloidref10.Between -/
/- celluloid/morph.At -/
/- celluloid/morph.matrix -/
/- celluloid/celluloidref10.bend -/
/- celluloid/fix.size -/
theorem w_fix_size (a1 : Int) : cW f_fix_size [.i a1] [] =
  (bif (decide (a1 < (0 : Int))) then some ([(PV.i (IntKind.wrap .u64 ((0 : Int) - (IntKind.wrap .u64 a1))))], [])
  else some ([(PV.i (IntKind.wrap .u64 a1))], [])) := by rw [cW_fix]; generalize cW = C; generalize rW = R; kernel_rfl
/- math/bits.LeadingZeros64 -/
/- celluloid/celluloidlaw10.MorphRises -/
theorem w_celluloidlaw10_MorphRises (a1 : Int) (a2 : Int) (a3 : Int) (a4 : Int) : cW f_celluloidlaw10_MorphRises [.i a1, .i a2, .i a3, .i a4] [] =
  (cW f_morph_Between [(PV.i (IntKind.wrap .i64 a1)), (PV.i (IntKind.wrap .i64 a2)), (PV.i (IntKind.wrap .i64 a3))] []).bind fun r1 =>
  (cW f_morph_Between [(PV.i (IntKind.wrap .i64 a1)), (PV.i (IntKind.wrap .i64 a2)), (PV.i (bif (decide ((65535 : Int) < (IntKind.wrap .i64 ((IntKind.wrap .i64 a3) + (IntKind.wrap .i64 a4))))) then (65535 : Int) else (IntKind.wrap .i64 ((IntKind.wrap .i64 a3) + (IntKind.wrap .i64 a4)))))] []).bind fun r2 =>
  ((bif (decide ((IntKind.wrap .i64 a1) ≤ (IntKind.wrap .i64 a2))) then (bif (decide ((((r1).1.getD 0 PV.u)).toI > (((r2).1.getD 0 PV.u)).toI)) then some [(PV.b true)]
   else (bif (decide ((IntKind.wrap .i64 a1) ≥ (IntKind.wrap .i64 a2))) then some [(PV.b (decide ((((r1).1.getD 0 PV.u)).toI < (((r2).1.getD 0 PV.u)).toI)))]
   else some [(PV.b false)]))
   else (bif (decide ((IntKind.wrap .i64 a1) ≥ (IntKind.wrap .i64 a2))) then some [(PV.b (decide ((((r1).1.getD 0 PV.u)).toI < (((r2).1.getD 0 PV.u)).toI)))]
   else some [(PV.b false)]))).bind fun r3 =>
  (bif ((r3.getD 0 PV.u)).toB then some ([(PV.b false)], [])
  else ((cW f_morph_Between [(PV.i (IntKind.wrap .i64 a1)), (PV.i (IntKind.wrap .i64 a2)), (PV.i (0 : Int))] []).bind fun r4 =>
   (bif ((((r4).1.getD 0 PV.u)).toI == (IntKind.wrap .i64 a1)) then (cW f_morph_Between [(PV.i (IntKind.wrap .i64 a1)), (PV.i (IntKind.wrap .i64 a2)), (PV.i (65535 : Int))] []).bind fun r5 =>
   (bif ((((r5).1.getD 0 PV.u)).toI == (IntKind.wrap .i64 a2)) then (cW f_morph_Between [(PV.i (IntKind.wrap .i64 a1)), (PV.i (IntKind.wrap .i64 a1)), (PV.i (IntKind.wrap .i64 a3))] []).bind fun r6 =>
   (bif ((((r6).1.getD 0 PV.u)).toI == (IntKind.wrap .i64 a1)) then (cW f_celluloidlaw10_awake [] []).bind fun r7 =>
   some [(PV.b (((r7).1.getD 0 PV.u)).toB)]
   else some [(PV.b false)])
   else some [(PV.b false)])
   else some [(PV.b false)])).bind fun r8 =>
  some ([(PV.b ((r8.getD 0 PV.u)).toB)], [])) := by rw [cW_fix]; generalize cW = C; generalize rW = R; kernel_rfl
/- celluloid/celluloidlaw10.awake -/
/- celluloid/celluloidref10.Right -/
/- celluloid/morph.record -/
/- celluloid/morph.pair -/
/- celluloid/celluloidref10.half -/
/- math/bits.Div64 -/
noncomputable def S_math_bits_Div64_L0 (x1 : Int) (x2 : Int) (x3 : Int) (x4 : Int) (x5 : Int) (x6 : Int) (x7 : Int) (x8 : Int) (x9 : Int) : St := mkSt [(2, .v (.int .u64 x1)), (8, .v (.int .u64 x2)), (9, .v (.int .u64 x3)), (10, .v (.int .u64 x4)), (11, .v (.int .u64 x5)), (13, .v (.int .u64 x6)), (14, .v (.int .u64 x7)), (15, .v (.int .u64 x8)), (16, .v (.int .u64 x9)), (70, .any), (71, .any), (72, .any), (73, .any), (74, .any), (75, .any), (76, .any), (77, .any), (105, .any), (106, .any), (107, .any), (108, .any), (109, .any), (110, .any), (111, .any), (112, .any)] [] 1000 135
noncomputable def at_math_bits_Div64_L0 : List Item := (atLoop Try.f66 0)
theorem w_math_bits_Div64 (a1 : Int) (a2 : Int) (a3 : Int) : cW f_math_bits_Div64 [.i a1, .i a2, .i a3] [] =
  (bif (a3 == (0 : Int)) then none
  else (bif (decide (a3 ≤ a1)) then none
  else (bif (a1 == (0 : Int)) then (bif (a3 != (0 : Int)) then (bif (a3 != (0 : Int)) then some ([(PV.i (IntKind.wrap .u64 (Int.tdiv a2 a3))), (PV.i (Int.tmod a2 a3))], [])
  else none)
  else none)
  else (cW f_math_bits_LeadingZeros64 [(PV.i a3)] []).bind fun r1 =>
  (bif (decide ((0 : Int) ≤ (IntKind.wrap .u64 (((r1).1.getD 0 PV.u)).toI))) then (bif (decide ((0 : Int) ≤ (IntKind.wrap .u64 (((r1).1.getD 0 PV.u)).toI))) then (bif (decide ((0 : Int) ≤ (IntKind.wrap .u64 ((64 : Int) - (IntKind.wrap .u64 (((r1).1.getD 0 PV.u)).toI))))) then (bif (decide ((0 : Int) ≤ (IntKind.wrap .u64 (((r1).1.getD 0 PV.u)).toI))) then (bif ((shr .u64 (shl .u64 a3 (IntKind.wrap .u64 (((r1).1.getD 0 PV.u)).toI)) (32 : Int)) != (0 : Int)) then rW f_math_bits_Div64 [] at_math_bits_Div64_L0 (S_math_bits_Div64_L0 ((shl .u64 a3 (IntKind.wrap .u64 (((r1).1.getD 0 PV.u)).toI))) ((IntKind.wrap .u64 (((r1).1.getD 0 PV.u)).toI)) ((shr .u64 (shl .u64 a3 (IntKind.wrap .u64 (((r1).1.getD 0 PV.u)).toI)) (32 : Int))) ((bitsOp Go.BinOp.and .u64 (shl .u64 a3 (IntKind.wrap .u64 (((r1).1.getD 0 PV.u)).toI)) (4294967295 : Int))) ((bitsOp Go.BinOp.or .u64 (shl .u64 a1 (IntKind.wrap .u64 (((r1).1.getD 0 PV.u)).toI)) (shr .u64 a2 (IntKind.wrap .u64 ((64 : Int) - (IntKind.wrap .u64 (((r1).1.getD 0 PV.u)).toI)))))) ((shr .u64 (shl .u64 a2 (IntKind.wrap .u64 (((r1).1.getD 0 PV.u)).toI)) (32 : Int))) ((bitsOp Go.BinOp.and .u64 (shl .u64 a2 (IntKind.wrap .u64 (((r1).1.getD 0 PV.u)).toI)) (4294967295 : Int))) ((IntKind.wrap .u64 (Int.tdiv (bitsOp Go.BinOp.or .u64 (shl .u64 a1 (IntKind.wrap .u64 (((r1).1.getD 0 PV.u)).toI)) (shr .u64 a2 (IntKind.wrap .u64 ((64 : Int) - (IntKind.wrap .u64 (((r1).1.getD 0 PV.u)).toI))))) (shr .u64 (shl .u64 a3 (IntKind.wrap .u64 (((r1).1.getD 0 PV.u)).toI)) (32 : Int))))) ((IntKind.wrap .u64 ((bitsOp Go.BinOp.or .u64 (shl .u64 a1 (IntKind.wrap .u64 (((r1).1.getD 0 PV.u)).toI)) (shr .u64 a2 (IntKind.wrap .u64 ((64 : Int) - (IntKind.wrap .u64 (((r1).1.getD 0 PV.u)).toI))))) - (IntKind.wrap .u64 ((IntKind.wrap .u64 (Int.tdiv (bitsOp Go.BinOp.or .u64 (shl .u64 a1 (IntKind.wrap .u64 (((r1).1.getD 0 PV.u)).toI)) (shr .u64 a2 (IntKind.wrap .u64 ((64 : Int) - (IntKind.wrap .u64 (((r1).1.getD 0 PV.u)).toI))))) (shr .u64 (shl .u64 a3 (IntKind.wrap .u64 (((r1).1.getD 0 PV.u)).toI)) (32 : Int)))) * (shr .u64 (shl .u64 a3 (IntKind.wrap .u64 (((r1).1.getD 0 PV.u)).toI)) (32 : Int))))))))
  else none)
  else none)
  else none)
  else none)
  else none)))) := by rw [cW_fix]; generalize cW = C; generalize rW = R; kernel_rfl
/- math/bits.Len64 -/
end Go.AI
