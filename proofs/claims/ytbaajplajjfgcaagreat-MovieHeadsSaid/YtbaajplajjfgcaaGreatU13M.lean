/- Equations over the answers with those that are given by hand. -/
import Derived.Test.YtbaajplajjfgcaaGreatT23m
import Derived.Test.YtbaajplajjfgcaaGreatU05
import Derived.Test.YtbaajplajjfgcaaGreatU13
set_option linter.unusedVariables false
set_option maxRecDepth 100000
namespace Go.AI
open Go Go.Proofs
theorem m_pixel_Put (a1 : Int) (a2 : Int) (a3 : Int) (a4 : List (List PV)) : cM f_pixel_Put [.i a1, .i a2, .i a3, .l a4] [] =
  (cM f_pixel_Right [(PV.i a1), (PV.i a2), (PV.i a3), (PV.l a4)] []).bind fun r1 =>
  (bif (!(((r1).1.getD 0 PV.u)).toB) then some ([(PV.s []), (PV.i (1 : Int))], [])
  else (cM f_bits_PutLittle [(PV.s []), (PV.i (0 : Int)), (PV.i a1), (PV.i (2 : Int))] []).bind fun r2 =>
  (cM f_bits_PutBytes [(PV.s (((r2).1.getD 0 PV.u)).toS), (PV.i (((r2).1.getD 1 PV.u)).toI), (PV.s [5])] []).bind fun r3 =>
  (cM f_bits_PutLittle [(PV.s (((r3).1.getD 0 PV.u)).toS), (PV.i (((r3).1.getD 1 PV.u)).toI), (PV.i a2), (PV.i (2 : Int))] []).bind fun r4 =>
  (cM f_bits_PutLittle [(PV.s (((r4).1.getD 0 PV.u)).toS), (PV.i (((r4).1.getD 1 PV.u)).toI), (PV.i a3), (PV.i (2 : Int))] []).bind fun r5 =>
  rM f_pixel_Put [] at_pixel_Put_L0 (S_pixel_Put_L0 (a4) ((((List.length a4) : Nat) : Int)) ((0 : Int)) ([]) ((((r5).1.getD 0 PV.u)).toS) ((((r5).1.getD 1 PV.u)).toI))) := by rw [cM_fix]; generalize cM = C; generalize rM = R; kernel_rfl
theorem m_pixel_Put_L0 (x1 : List (List PV)) (x2 : Int) (x3 : Int) (x4 : List (List PV)) (x5 : List UInt8) (x6 : Int) : rM f_pixel_Put [] at_pixel_Put_L0 (S_pixel_Put_L0 x1 x2 x3 x4 x5 x6) =
  (bif (decide (x3 < x2)) then (bif (inB x3 (List.length x1)) then (bif ((decide ((((List.length x4) + (List.length (List.set (List.set (List.set (List.set [[(PV.i (0 : Int))], [(PV.i (0 : Int))], [(PV.i (0 : Int))], [(PV.i (0 : Int))]] 0 [(PV.i (IntKind.wrap .u8 (((elemAt x1 x3).getD 3 PV.u)).toI))]) 1 [(PV.i (IntKind.wrap .u8 (((elemAt x1 x3).getD 0 PV.u)).toI))]) 2 [(PV.i (IntKind.wrap .u8 (((elemAt x1 x3).getD 1 PV.u)).toI))]) 3 [(PV.i (IntKind.wrap .u8 (((elemAt x1 x3).getD 2 PV.u)).toI))]))) * 1) ≤ 140737488355328)) && (decide (((List.length x4) + (List.length (List.set (List.set (List.set (List.set [[(PV.i (0 : Int))], [(PV.i (0 : Int))], [(PV.i (0 : Int))], [(PV.i (0 : Int))]] 0 [(PV.i (IntKind.wrap .u8 (((elemAt x1 x3).getD 3 PV.u)).toI))]) 1 [(PV.i (IntKind.wrap .u8 (((elemAt x1 x3).getD 0 PV.u)).toI))]) 2 [(PV.i (IntKind.wrap .u8 (((elemAt x1 x3).getD 1 PV.u)).toI))]) 3 [(PV.i (IntKind.wrap .u8 (((elemAt x1 x3).getD 2 PV.u)).toI))]))) ≤ 4611686018427387904))) then rM f_pixel_Put [] at_pixel_Put_L0 (S_pixel_Put_L0 (x1) (x2) ((IntKind.wrap .i64 (x3 + (1 : Int)))) ((x4 ++ (List.set (List.set (List.set (List.set [[(PV.i (0 : Int))], [(PV.i (0 : Int))], [(PV.i (0 : Int))], [(PV.i (0 : Int))]] 0 [(PV.i (IntKind.wrap .u8 (((elemAt x1 x3).getD 3 PV.u)).toI))]) 1 [(PV.i (IntKind.wrap .u8 (((elemAt x1 x3).getD 0 PV.u)).toI))]) 2 [(PV.i (IntKind.wrap .u8 (((elemAt x1 x3).getD 1 PV.u)).toI))]) 3 [(PV.i (IntKind.wrap .u8 (((elemAt x1 x3).getD 2 PV.u)).toI))]))) (x5) (x6))
  else none)
  else none)
  else (cM f_deflate_Close [(PV.s (toBytes x4))] []).bind fun r6 =>
  (bif (decide (((List.length x5) + (List.length (((r6).1.getD 0 PV.u)).toS)) ≤ 1099511627776)) then some ([(PV.s (x5 ++ (((r6).1.getD 0 PV.u)).toS)), (PV.i (((r6).1.getD 1 PV.u)).toI)], [])
  else none)) := by rw [rM_fix]; generalize cM = C; generalize rM = R; kernel_rfl
theorem m_movie_raws (a1 : List (List PV)) : cM f_movie_raws [.l a1] [] =
  (bif (decide ((((List.length a1) : Nat) : Int) > (256 : Int))) then some ([(PV.l []), (PV.b false)], [])
  else rM f_movie_raws [] at_movie_raws_L0 (S_movie_raws_L0 (a1) ((((List.length a1) : Nat) : Int)) ((0 : Int)) ([]))) := by rw [cM_fix]; generalize cM = C; generalize rM = R; kernel_rfl
theorem m_movie_raws_L0 (x1 : List (List PV)) (x2 : Int) (x3 : Int) (x4 : List (List PV)) : rM f_movie_raws [] at_movie_raws_L0 (S_movie_raws_L0 x1 x2 x3 x4) =
  (bif (decide (x3 < x2)) then (bif (inB x3 (List.length x1)) then (cM f_movie_PutTag [(PV.i (((elemAt x1 x3).getD 0 PV.u)).toI), (PV.i (((elemAt x1 x3).getD 1 PV.u)).toI), (PV.i (((elemAt x1 x3).getD 2 PV.u)).toI), (PV.i (((elemAt x1 x3).getD 3 PV.u)).toI), (PV.i (((elemAt x1 x3).getD 4 PV.u)).toI), (PV.i (((elemAt x1 x3).getD 5 PV.u)).toI), (PV.i (((elemAt x1 x3).getD 6 PV.u)).toI), (PV.i (((elemAt x1 x3).getD 7 PV.u)).toI), (PV.i (((elemAt x1 x3).getD 8 PV.u)).toI), (PV.i (((elemAt x1 x3).getD 9 PV.u)).toI), (PV.i (((elemAt x1 x3).getD 10 PV.u)).toI), (PV.i (((elemAt x1 x3).getD 11 PV.u)).toI), (PV.i (((elemAt x1 x3).getD 12 PV.u)).toI), (PV.i (((elemAt x1 x3).getD 13 PV.u)).toI), (PV.i (((elemAt x1 x3).getD 14 PV.u)).toI), (PV.i (((elemAt x1 x3).getD 15 PV.u)).toI), (PV.i (((elemAt x1 x3).getD 16 PV.u)).toI), (PV.i (((elemAt x1 x3).getD 17 PV.u)).toI), (PV.i (((elemAt x1 x3).getD 18 PV.u)).toI), (PV.i (((elemAt x1 x3).getD 19 PV.u)).toI), (PV.i (((elemAt x1 x3).getD 20 PV.u)).toI), (PV.i (((elemAt x1 x3).getD 21 PV.u)).toI), (PV.i (((elemAt x1 x3).getD 22 PV.u)).toI), (PV.i (((elemAt x1 x3).getD 23 PV.u)).toI), (PV.i (((elemAt x1 x3).getD 24 PV.u)).toI), (PV.i (((elemAt x1 x3).getD 25 PV.u)).toI), (PV.i (((elemAt x1 x3).getD 26 PV.u)).toI), (PV.i (((elemAt x1 x3).getD 27 PV.u)).toI), (PV.i (((elemAt x1 x3).getD 28 PV.u)).toI), (PV.i (((elemAt x1 x3).getD 29 PV.u)).toI), (PV.l (((elemAt x1 x3).getD 30 PV.u)).toL), (PV.l (((elemAt x1 x3).getD 31 PV.u)).toL), (PV.l (((elemAt x1 x3).getD 32 PV.u)).toL), (PV.i (((elemAt x1 x3).getD 33 PV.u)).toI), (PV.i (((elemAt x1 x3).getD 34 PV.u)).toI), (PV.i (((elemAt x1 x3).getD 35 PV.u)).toI), (PV.i (((elemAt x1 x3).getD 36 PV.u)).toI), (PV.i (((elemAt x1 x3).getD 37 PV.u)).toI), (PV.i (((elemAt x1 x3).getD 38 PV.u)).toI), (PV.i (((elemAt x1 x3).getD 39 PV.u)).toI), (PV.i (((elemAt x1 x3).getD 40 PV.u)).toI), (PV.i (((elemAt x1 x3).getD 41 PV.u)).toI), (PV.l (((elemAt x1 x3).getD 42 PV.u)).toL), (PV.l (((elemAt x1 x3).getD 43 PV.u)).toL), (PV.l (((elemAt x1 x3).getD 44 PV.u)).toL), (PV.l (((elemAt x1 x3).getD 45 PV.u)).toL), (PV.l (((elemAt x1 x3).getD 46 PV.u)).toL), (PV.l (((elemAt x1 x3).getD 47 PV.u)).toL), (PV.i (((elemAt x1 x3).getD 48 PV.u)).toI), (PV.i (((elemAt x1 x3).getD 49 PV.u)).toI), (PV.i (((elemAt x1 x3).getD 50 PV.u)).toI), (PV.l (((elemAt x1 x3).getD 51 PV.u)).toL), (PV.i (((elemAt x1 x3).getD 52 PV.u)).toI), (PV.i (((elemAt x1 x3).getD 53 PV.u)).toI), (PV.l (((elemAt x1 x3).getD 54 PV.u)).toL)] []).bind fun r1 =>
  (bif ((((r1).1.getD 2 PV.u)).toI != (0 : Int)) then some ([(PV.l []), (PV.b false)], [])
  else (bif ((decide ((((List.length x4) + (List.length (List.set [[(PV.i (0 : Int)), (PV.s [])]] 0 [(PV.i (((r1).1.getD 0 PV.u)).toI), (PV.s (((r1).1.getD 1 PV.u)).toS)]))) * 24) ≤ 140737488355328)) && (decide (((List.length x4) + (List.length (List.set [[(PV.i (0 : Int)), (PV.s [])]] 0 [(PV.i (((r1).1.getD 0 PV.u)).toI), (PV.s (((r1).1.getD 1 PV.u)).toS)]))) ≤ 4611686018427387904))) then rM f_movie_raws [] at_movie_raws_L0 (S_movie_raws_L0 (x1) (x2) ((IntKind.wrap .i64 (x3 + (1 : Int)))) ((x4 ++ (List.set [[(PV.i (0 : Int)), (PV.s [])]] 0 [(PV.i (((r1).1.getD 0 PV.u)).toI), (PV.s (((r1).1.getD 1 PV.u)).toS)]))))
  else none))
  else none)
  else some ([(PV.l x4), (PV.b true)], [])) := by rw [rM_fix]; generalize cM = C; generalize rM = R; kernel_rfl
theorem m_movie_PutTag (a1 : Int) (a2 : Int) (a3 : Int) (a4 : Int) (a5 : Int) (a6 : Int) (a7 : Int) (a8 : Int) (a9 : Int) (a10 : Int) (a11 : Int) (a12 : Int) (a13 : Int) (a14 : Int) (a15 : Int) (a16 : Int) (a17 : Int) (a18 : Int) (a19 : Int) (a20 : Int) (a21 : Int) (a22 : Int) (a23 : Int) (a24 : Int) (a25 : Int) (a26 : Int) (a27 : Int) (a28 : Int) (a29 : Int) (a30 : Int) (a31 : List (List PV)) (a32 : List (List PV)) (a33 : List (List PV)) (a34 : Int) (a35 : Int) (a36 : Int) (a37 : Int) (a38 : Int) (a39 : Int) (a40 : Int) (a41 : Int) (a42 : Int) (a43 : List (List PV)) (a44 : List (List PV)) (a45 : List (List PV)) (a46 : List (List PV)) (a47 : List (List PV)) (a48 : List (List PV)) (a49 : Int) (a50 : Int) (a51 : Int) (a52 : List (List PV)) (a53 : Int) (a54 : Int) (a55 : List (List PV)) : cM f_movie_PutTag [.i a1, .i a2, .i a3, .i a4, .i a5, .i a6, .i a7, .i a8, .i a9, .i a10, .i a11, .i a12, .i a13, .i a14, .i a15, .i a16, .i a17, .i a18, .i a19, .i a20, .i a21, .i a22, .i a23, .i a24, .i a25, .i a26, .i a27, .i a28, .i a29, .i a30, .l a31, .l a32, .l a33, .i a34, .i a35, .i a36, .i a37, .i a38, .i a39, .i a40, .i a41, .i a42, .l a43, .l a44, .l a45, .l a46, .l a47, .l a48, .i a49, .i a50, .i a51, .l a52, .i a53, .i a54, .l a55] [] =
  (cM f_movie_RightTag [(PV.i a1), (PV.i a2), (PV.i a3), (PV.i a4), (PV.i a5), (PV.i a6), (PV.i a7), (PV.i a8), (PV.i a9), (PV.i a10), (PV.i a11), (PV.i a12), (PV.i a13), (PV.i a14), (PV.i a15), (PV.i a16), (PV.i a17), (PV.i a18), (PV.i a19), (PV.i a20), (PV.i a21), (PV.i a22), (PV.i a23), (PV.i a24), (PV.i a25), (PV.i a26), (PV.i a27), (PV.i a28), (PV.i a29), (PV.i a30), (PV.l a31), (PV.l a32), (PV.l a33), (PV.i a34), (PV.i a35), (PV.i a36), (PV.i a37), (PV.i a38), (PV.i a39), (PV.i a40), (PV.i a41), (PV.i a42), (PV.l a43), (PV.l a44), (PV.l a45), (PV.l a46), (PV.l a47), (PV.l a48), (PV.i a49), (PV.i a50), (PV.i a51), (PV.l a52), (PV.i a53), (PV.i a54), (PV.l a55)] []).bind fun r1 =>
  (bif (!(((r1).1.getD 0 PV.u)).toB) then some ([(PV.i (0 : Int)), (PV.s []), (PV.i (1 : Int))], [])
  else (bif (a1 == (26 : Int)) then (cM f_movie_put [(PV.i a7), (PV.i a8), (PV.i a9), (PV.i a10), (PV.i a11), (PV.i a12), (PV.i a13), (PV.i a14), (PV.i a15), (PV.i a16), (PV.i a17), (PV.i a18), (PV.i a19), (PV.i a20), (PV.i a21), (PV.i a22), (PV.i a23), (PV.i a24), (PV.i a25)] []).bind fun r2 =>
  some ([(PV.i a1), (PV.s (((r2).1.getD 0 PV.u)).toS), (PV.i (0 : Int))], [])
  else (bif (a1 == (28 : Int)) then (cM f_bits_PutLittle [(PV.s []), (PV.i (0 : Int)), (PV.i a2), (PV.i (2 : Int))] []).bind fun r3 =>
  some ([(PV.i a1), (PV.s (((r3).1.getD 0 PV.u)).toS), (PV.i (0 : Int))], [])
  else (bif (a1 == (9 : Int)) then (cM f_field_PutRGBA [(PV.s []), (PV.i (0 : Int)), (PV.i a3), (PV.i a4), (PV.i a5), (PV.i a6)] []).bind fun r4 =>
  (bif (okB (0 : Int) (3 : Int) (List.length (((r4).1.getD 0 PV.u)).toS)) then some ([(PV.i a1), (PV.s (cutL (0 : Int) (3 : Int) (((r4).1.getD 0 PV.u)).toS)), (PV.i (0 : Int))], [])
  else none)
  else (bif (a1 == (32 : Int)) then (cM f_shape_Put [(PV.s []), (PV.i (0 : Int)), (PV.i a26), (PV.i a27), (PV.i a28), (PV.i a29), (PV.i a30), (PV.l a31), (PV.l a32), (PV.l a33)] []).bind fun r5 =>
  some ([(PV.i a1), (PV.s (((r5).1.getD 0 PV.u)).toS), (PV.i (0 : Int))], [])
  else (bif (a1 == (46 : Int)) then (cM f_morph_Put [(PV.s []), (PV.i (0 : Int)), (PV.i a34), (PV.i a35), (PV.i a36), (PV.i a37), (PV.i a38), (PV.i a39), (PV.i a40), (PV.i a41), (PV.i a42), (PV.l a43), (PV.l a44), (PV.l a45), (PV.l a46), (PV.l a47), (PV.l a48)] []).bind fun r6 =>
  some ([(PV.i a1), (PV.s (((r6).1.getD 0 PV.u)).toS), (PV.i (0 : Int))], [])
  else (bif (a1 == (36 : Int)) then (cM f_pixel_Put [(PV.i a49), (PV.i a50), (PV.i a51), (PV.l a52)] []).bind fun r7 =>
  some ([(PV.i a1), (PV.s (((r7).1.getD 0 PV.u)).toS), (PV.i (0 : Int))], [])
  else (bif (a1 == (39 : Int)) then (cM f_bits_PutLittle [(PV.s []), (PV.i (0 : Int)), (PV.i a53), (PV.i (2 : Int))] []).bind fun r8 =>
  (cM f_bits_PutLittle [(PV.s (((r8).1.getD 0 PV.u)).toS), (PV.i (((r8).1.getD 1 PV.u)).toI), (PV.i a54), (PV.i (2 : Int))] []).bind fun r9 =>
  (cM f_movie_raws [(PV.l a55)] []).bind fun r10 =>
  (cM f_tag_Join [(PV.l (((r10).1.getD 0 PV.u)).toL)] []).bind fun r11 =>
  (bif (decide (((List.length (((r9).1.getD 0 PV.u)).toS) + (List.length (((r11).1.getD 0 PV.u)).toS)) ≤ 1099511627776)) then some ([(PV.i a1), (PV.s ((((r9).1.getD 0 PV.u)).toS ++ (((r11).1.getD 0 PV.u)).toS)), (PV.i (0 : Int))], [])
  else none)
  else some ([(PV.i a1), (PV.s []), (PV.i (0 : Int))], []))))))))) := by rw [cM_fix]; generalize cM = C; generalize rM = R; kernel_rfl
theorem m_movie_inner (a1 : Bool) (a2 : Int) (a3 : Int) (a4 : Int) (a5 : Int) (a6 : Int) (a7 : Int) (a8 : Int) (a9 : List (List PV)) : cM f_movie_inner [.b a1, .i a2, .i a3, .i a4, .i a5, .i a6, .i a7, .i a8, .l a9] [] =
  ((cM f_movie_within [(PV.i (0 : Int)), (PV.i (255 : Int)), (PV.l (List.set [[(PV.i (0 : Int))]] 0 [(PV.i a2)]))] []).bind fun r1 =>
   (bif (!(((r1).1.getD 0 PV.u)).toB) then some [(PV.b true)]
   else (cM f_field_RightRect [(PV.i a5), (PV.i a6), (PV.i a7), (PV.i a8)] []).bind fun r2 =>
   (bif (!(((r2).1.getD 0 PV.u)).toB) then some [(PV.b true)]
   else (cM f_movie_within [(PV.i (0 : Int)), (PV.i (65535 : Int)), (PV.l (List.set (List.set [[(PV.i (0 : Int))], [(PV.i (0 : Int))]] 0 [(PV.i a3)]) 1 [(PV.i a4)]))] []).bind fun r3 =>
   some [(PV.b (!(((r3).1.getD 0 PV.u)).toB))]))).bind fun r4 =>
  (bif ((r4.getD 0 PV.u)).toB then some ([(PV.s []), (PV.b false)], [])
  else (cM f_movie_raws [(PV.l a9)] []).bind fun r5 =>
  (bif (!(((r5).1.getD 1 PV.u)).toB) then some ([(PV.s []), (PV.b false)], [])
  else (cM f_field_PutRect [(PV.s []), (PV.i (0 : Int)), (PV.i a5), (PV.i a6), (PV.i a7), (PV.i a8)] []).bind fun r6 =>
  (cM f_bits_PutLittle [(PV.s (((r6).1.getD 0 PV.u)).toS), (PV.i (((r6).1.getD 1 PV.u)).toI), (PV.i a3), (PV.i (2 : Int))] []).bind fun r7 =>
  (cM f_bits_PutLittle [(PV.s (((r7).1.getD 0 PV.u)).toS), (PV.i (((r7).1.getD 1 PV.u)).toI), (PV.i a4), (PV.i (2 : Int))] []).bind fun r8 =>
  (cM f_tag_Join [(PV.l (((r5).1.getD 0 PV.u)).toL)] []).bind fun r9 =>
  (bif (decide (((List.length (((r8).1.getD 0 PV.u)).toS) + (List.length (((r9).1.getD 0 PV.u)).toS)) ≤ 1099511627776)) then some ([(PV.s ((((r8).1.getD 0 PV.u)).toS ++ (((r9).1.getD 0 PV.u)).toS)), (PV.b ((((r9).1.getD 1 PV.u)).toI == (0 : Int)))], [])
  else none))) := by rw [cM_fix]; generalize cM = C; generalize rM = R; kernel_rfl
theorem m_movie_Right (a1 : Bool) (a2 : Int) (a3 : Int) (a4 : Int) (a5 : Int) (a6 : Int) (a7 : Int) (a8 : Int) (a9 : List (List PV)) : cM f_movie_Right [.b a1, .i a2, .i a3, .i a4, .i a5, .i a6, .i a7, .i a8, .l a9] [] =
  (cM f_movie_inner [(PV.b a1), (PV.i a2), (PV.i a3), (PV.i a4), (PV.i a5), (PV.i a6), (PV.i a7), (PV.i a8), (PV.l a9)] []).bind fun r1 =>
  ((bif (((r1).1.getD 1 PV.u)).toB then some [(PV.b (decide ((((List.length (((r1).1.getD 0 PV.u)).toS) : Nat) : Int) ≤ (262144 : Int))))]
   else some [(PV.b false)])).bind fun r2 =>
  some ([(PV.b ((r2.getD 0 PV.u)).toB)], []) := by rw [cM_fix]; generalize cM = C; generalize rM = R; kernel_rfl
theorem m_deflate_Close (a1 : List UInt8) : cM f_deflate_Close [.s a1] [] =
  (cM f_deflate_Raw [(PV.s a1)] []).bind fun r1 =>
  (bif ((((r1).1.getD 1 PV.u)).toI != (0 : Int)) then some ([(PV.s []), (PV.i (((r1).1.getD 1 PV.u)).toI)], [])
  else (cM f_adler_Sum [(PV.s a1)] []).bind fun r2 =>
  (bif (decide ((2 + (List.length (((r1).1.getD 0 PV.u)).toS)) ≤ 1099511627776)) then (bif (decide (((List.length ([120, 156] ++ (((r1).1.getD 0 PV.u)).toS)) + (List.length (toBytes (List.set (List.set (List.set (List.set [[(PV.i (0 : Int))], [(PV.i (0 : Int))], [(PV.i (0 : Int))], [(PV.i (0 : Int))]] 0 [(PV.i (IntKind.wrap .u8 (shr .i64 (((r2).1.getD 0 PV.u)).toI (24 : Int))))]) 1 [(PV.i (IntKind.wrap .u8 (shr .i64 (((r2).1.getD 0 PV.u)).toI (16 : Int))))]) 2 [(PV.i (IntKind.wrap .u8 (shr .i64 (((r2).1.getD 0 PV.u)).toI (8 : Int))))]) 3 [(PV.i (IntKind.wrap .u8 (((r2).1.getD 0 PV.u)).toI))])))) ≤ 1099511627776)) then some ([(PV.s (([120, 156] ++ (((r1).1.getD 0 PV.u)).toS) ++ (toBytes (List.set (List.set (List.set (List.set [[(PV.i (0 : Int))], [(PV.i (0 : Int))], [(PV.i (0 : Int))], [(PV.i (0 : Int))]] 0 [(PV.i (IntKind.wrap .u8 (shr .i64 (((r2).1.getD 0 PV.u)).toI (24 : Int))))]) 1 [(PV.i (IntKind.wrap .u8 (shr .i64 (((r2).1.getD 0 PV.u)).toI (16 : Int))))]) 2 [(PV.i (IntKind.wrap .u8 (shr .i64 (((r2).1.getD 0 PV.u)).toI (8 : Int))))]) 3 [(PV.i (IntKind.wrap .u8 (((r2).1.getD 0 PV.u)).toI))])))), (PV.i (0 : Int))], [])
  else none)
  else none)) := by rw [cM_fix]; generalize cM = C; generalize rM = R; kernel_rfl
end Go.AI
