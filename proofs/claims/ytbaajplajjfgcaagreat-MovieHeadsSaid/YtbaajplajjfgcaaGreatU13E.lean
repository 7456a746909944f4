/- Equations over the answers with those that are given by hand. -/
import Derived.Test.YtbaajplajjfgcaaGreatU13M
set_option linter.unusedVariables false
set_option maxRecDepth 100000
namespace Go.AI
open Go Go.Proofs
theorem m_movie_Encode (a1 : Bool) (a2 : Int) (a3 : Int) (a4 : Int) (a5 : Int) (a6 : Int) (a7 : Int) (a8 : Int) (a9 : List (List PV)) : cM f_movie_Encode [.b a1, .i a2, .i a3, .i a4, .i a5, .i a6, .i a7, .i a8, .l a9] [] =
  (cM f_movie_Right [(PV.b a1), (PV.i a2), (PV.i a3), (PV.i a4), (PV.i a5), (PV.i a6), (PV.i a7), (PV.i a8), (PV.l a9)] []).bind fun r1 =>
  (bif (!(((r1).1.getD 0 PV.u)).toB) then some ([(PV.s []), (PV.i (1 : Int))], [])
  else (cM f_movie_inner [(PV.b a1), (PV.i a2), (PV.i a3), (PV.i a4), (PV.i a5), (PV.i a6), (PV.i a7), (PV.i a8), (PV.l a9)] []).bind fun r2 =>
  (cM f_bits_PutLittle [(PV.s []), (PV.i (0 : Int)), (PV.i (IntKind.wrap .i64 ((8 : Int) + (((List.length (((r2).1.getD 0 PV.u)).toS) : Nat) : Int)))), (PV.i (4 : Int))] []).bind fun r3 =>
  (bif (decide (((List.length [87, 83, (UInt8.ofNat (Int.toNat (IntKind.wrap .u8 a2)))]) + (List.length (((r3).1.getD 0 PV.u)).toS)) ≤ 1099511627776)) then (bif (!a1) then (bif (decide ((1 + (List.length ([87, 83, (UInt8.ofNat (Int.toNat (IntKind.wrap .u8 a2)))] ++ (((r3).1.getD 0 PV.u)).toS))) ≤ 1099511627776)) then (bif (decide (((List.length ([70] ++ ([87, 83, (UInt8.ofNat (Int.toNat (IntKind.wrap .u8 a2)))] ++ (((r3).1.getD 0 PV.u)).toS))) + (List.length (((r2).1.getD 0 PV.u)).toS)) ≤ 1099511627776)) then some ([(PV.s (([70] ++ ([87, 83, (UInt8.ofNat (Int.toNat (IntKind.wrap .u8 a2)))] ++ (((r3).1.getD 0 PV.u)).toS)) ++ (((r2).1.getD 0 PV.u)).toS)), (PV.i (0 : Int))], [])
  else none)
  else none)
  else (cM f_deflate_Close [(PV.s (((r2).1.getD 0 PV.u)).toS)] []).bind fun r4 =>
  (bif (decide ((1 + (List.length ([87, 83, (UInt8.ofNat (Int.toNat (IntKind.wrap .u8 a2)))] ++ (((r3).1.getD 0 PV.u)).toS))) ≤ 1099511627776)) then (bif (decide (((List.length ([67] ++ ([87, 83, (UInt8.ofNat (Int.toNat (IntKind.wrap .u8 a2)))] ++ (((r3).1.getD 0 PV.u)).toS))) + (List.length (((r4).1.getD 0 PV.u)).toS)) ≤ 1099511627776)) then some ([(PV.s (([67] ++ ([87, 83, (UInt8.ofNat (Int.toNat (IntKind.wrap .u8 a2)))] ++ (((r3).1.getD 0 PV.u)).toS)) ++ (((r4).1.getD 0 PV.u)).toS)), (PV.i (((r4).1.getD 1 PV.u)).toI)], [])
  else none)
  else none))
  else none)) := by rw [cM_fix]; generalize cM = C; generalize rM = R; kernel_rfl
end Go.AI
