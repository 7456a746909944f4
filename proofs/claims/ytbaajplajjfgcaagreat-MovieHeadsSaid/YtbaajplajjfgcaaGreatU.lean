/- Equations of the program's functions: each says what the interpreter answers for a call, by the answers one level below. -/
import Derived.Test.YtbaajplajjfgcaaGreatAiM
import Derived.Test.YtbaajplajjfgcaaGreatProg
import Derived.KernelRfl
set_option linter.unusedVariables false
set_option maxRecDepth 100000
namespace Go.AI
open Go Go.Proofs
def lookA : List (Nat × Nat × Keep) → Nat → Nat → Option Keep
  | [], _, _ => none
  | (f, k, kp) :: l, f', k' => bif Nat.beq f f' && Nat.beq k k' then some kp else lookA l f' k'
def loopTab : List (Nat × Nat × Keep) := [(7, 0, { slots := [(1, .any), (4, .any), (7, .any), (78, .pl 60), (79, .any), (80, .any)], boxes := [(.n 1 1 0), (.n 2 15 0)], r := 1000, own := [((.n 1 1 0), 30), ((.n 1 1 0), 31), ((.n 1 1 0), 32), ((.n 1 1 0), 42), ((.n 1 1 0), 43), ((.n 1 1 0), 44), ((.n 1 1 0), 45), ((.n 1 1 0), 46), ((.n 1 1 0), 47), ((.n 1 1 0), 51), ((.n 1 1 0), 54), ((.n 2 15 0), 54)] }),
  (12, 0, { slots := [(1, .any), (3, .any), (6, .any), (8, .row 5), (31, .any), (32, .any)], boxes := [(.n 1 0 0), (.n 1 1 0)], r := 1000, own := [] }),
  (26, 0, { slots := [(2, .any), (3, .any), (4, .any), (6, .any), (42, .pl 151), (43, .any), (44, .any)], boxes := [(.n 1 0 0), (.n 1 1 0), (.n 1 2 0), (.n 6 5 0)], r := 1000, own := [] }),
  (26, 2, { slots := [(2, .any), (3, .any), (4, .any), (6, .any), (64, .pl 154), (65, .any), (66, .any)], boxes := [(.n 1 0 0), (.n 1 1 0), (.n 1 2 0), (.n 6 5 0)], r := 2000, own := [] }),
  (36, 0, { slots := [(0, .pl 151), (1, .pl 154), (5, .any)], boxes := [], r := 1000, own := [] }),
  (60, 0, { slots := [(2, .pl 154), (3, .any), (6, .any), (21, .pl 151), (22, .any), (23, .any)], boxes := [(.n 1 0 0), (.n 1 1 0)], r := 1000, own := [] }),
  (60, 2, { slots := [(3, .any), (6, .any), (35, .pl 154), (36, .any), (37, .any)], boxes := [(.n 1 0 0), (.n 1 1 0)], r := 2000, own := [] }),
  (111, 0, { slots := [(0, .pl 60), (1, .any), (7, .any), (8, .any)], boxes := [], r := 1000, own := [] }),
  (115, 1, { slots := [(2, .any), (4, .any), (28, .pl 230), (29, .any), (30, .any)], boxes := [(.n 1 0 0), (.n 1 2 0)], r := 1000, own := [] }),
  (154, 0, { slots := [(1, .any), (3, .any), (6, .any), (8, .row 5), (9, .any)], boxes := [(.n 1 0 0), (.n 1 1 0)], r := 1000, own := [] }),
  (4, 0, { slots := [(2, .any), (4, .any), (5, .any), (23, .pl 60), (24, .any), (25, .any)], boxes := [(.n 1 1 0), (.n 2 11 0)], r := 1000, own := [((.n 1 1 0), 8), ((.n 2 11 0), 8)] }),
  (27, 0, { slots := [(4, .any), (6, .row 5), (40, .pl 39), (41, .any), (42, .any)], boxes := [(.n 3 7 0)], r := 1000, own := [] }),
  (61, 0, { slots := [(10, .any), (12, .any), (30, .pl 120), (31, .any), (32, .any)], boxes := [(.n 1 1 0), (.n 3 3 0)], r := 1000, own := [] }),
  (69, 0, { slots := [(0, .any), (1, .any), (9, .pl 3), (10, .any), (11, .any)], boxes := [], r := 1000, own := [] }),
  (73, 0, { slots := [(0, .any), (1, .any), (7, .any), (8, .any)], boxes := [(.p 0)], r := 1000, own := [((.p 0), 0)] }),
  (77, 0, { slots := [(0, .any), (1, .any), (2, .any), (6, .any), (7, .any), (8, .any), (9, .any)], boxes := [(.p 0)], r := 1000, own := [((.p 0), 0)] }),
  (77, 2, { slots := [(0, .any), (2, .any), (6, .any), (7, .any), (8, .any), (41, .any)], boxes := [(.p 0)], r := 2000, own := [((.p 0), 0)] }),
  (120, 0, { slots := [(0, .pl 3), (1, .any), (7, .any), (8, .any)], boxes := [(.p 0), (.p 1)], r := 1000, own := [] }),
  (124, 0, { slots := [(0, .any), (1, .any), (2, .any), (7, .any)], boxes := [], r := 1000, own := [] }),
  (151, 0, { slots := [(3, .any), (6, .pl 3), (7, .any), (8, .any)], boxes := [], r := 1000, own := [] }),
  (14, 0, { slots := [(0, .pl 120), (1, .any), (5, .any)], boxes := [], r := 1000, own := [] }),
  (28, 0, { slots := [(4, .row 74), (12, .pl 60), (13, .any), (14, .any)], boxes := [], r := 1000, own := [] }),
  (78, 0, { slots := [(1, .any), (5, .any), (6, .any), (14, .any), (15, .any)], boxes := [], r := 1000, own := [] }),
  (105, 0, { slots := [(0, .any), (1, .any), (3, .any), (27, .pl 120), (28, .any), (29, .any)], boxes := [], r := 1000, own := [] }),
  (121, 0, { slots := [(3, .any), (6, .pl 3), (7, .any), (8, .any)], boxes := [], r := 1000, own := [] }),
  (125, 0, { slots := [(0, .any), (1, .any), (6, .any)], boxes := [(.p 0)], r := 1000, own := [((.p 0), 0)] }),
  (144, 1, { slots := [(1, .any), (3, .any), (68, .pl 230), (69, .any), (70, .any)], boxes := [(.n 1 0 0)], r := 1000, own := [] }),
  (152, 0, { slots := [(0, .any), (1, .any), (8, .pl 3), (9, .any), (10, .any)], boxes := [(.p 0)], r := 1000, own := [] }),
  (174, 0, { slots := [(0, .pl 154), (1, .any), (7, .any), (8, .any)], boxes := [], r := 1000, own := [] }),
  (184, 0, { slots := [(0, .pl 230), (1, .pl 230), (12, .any), (13, .any)], boxes := [], r := 1000, own := [] }),
  (63, 0, { slots := [(3, .any), (5, .any), (6, .any), (74, .pl 230), (75, .any), (76, .any)], boxes := [(.n 1 0 0), (.n 1 2 0), (.n 1 3 0)], r := 1000, own := [] }),
  (71, 0, { slots := [(0, .any), (6, .any), (15, .pl 3), (16, .any), (17, .any)], boxes := [(.p 0)], r := 1000, own := [] }),
  (75, 0, { slots := [(0, .any), (1, .any), (2, .pl 3), (8, .any), (9, .any), (10, .any)], boxes := [], r := 1000, own := [] }),
  (106, 0, { slots := [(1, .pl 151), (2, .any), (15, .pl 151), (16, .any), (17, .any)], boxes := [], r := 1000, own := [] }),
  (149, 0, { slots := [(0, .pl 39), (1, .any), (7, .any), (8, .any)], boxes := [], r := 1000, own := [] }),
  (153, 0, { slots := [(0, .any), (3, .any), (4, .any), (16, .pl 3), (17, .any), (18, .any)], boxes := [(.p 0), (.n 1 0 0)], r := 1000, own := [] }),
  (153, 2, { slots := [(0, .any), (39, .pl 3), (40, .any), (41, .any)], boxes := [(.p 0)], r := 2000, own := [] }),
  (171, 0, { slots := [(0, .pl 151), (1, .any), (7, .any), (8, .any)], boxes := [], r := 1000, own := [] }),
  (175, 0, { slots := [(2, .any), (3, .any), (23, .any), (24, .any)], boxes := [(.n 1 0 0), (.n 1 1 0)], r := 1000, own := [] }),
  (185, 0, { slots := [(0, .pl 154), (1, .pl 154), (12, .any), (13, .any)], boxes := [], r := 1000, own := [] })]
def cutTab : List (Nat × Nat × Keep) := []
def ann : Ann := { loop := lookA loopTab, cut := fun f k => bif Nat.beq f 29 || Nat.beq f 34 then some { slots := [], boxes := [.w 0], r := 0 } else lookA cutTab f k, ownT := fun t _ => Nat.beq t 174, ownA := fun f e => false, ownR := fun f e => false, wrT := fun f _ => false }
noncomputable abbrev call (k : Nat) := callAt Tryz.prog ann k
noncomputable abbrev run (k : Nat) := runAt Tryz.prog ann k
noncomputable def cW : CallF := callW Tryz.prog ann
noncomputable def rW : FuncId → List TypeId → List Item → St → Option Res := runW Tryz.prog ann
theorem cW_fix (f : FuncId) (args : List PV) (bs : List BX) : cW f args bs = stepC Tryz.prog ann cW rW f args bs := callW_fix _ _ f args bs
theorem rW_fix (f : FuncId) (pts : List TypeId) (t : List Item) (st : St) : rW f pts t st = stepR Tryz.prog ann cW rW f pts t st := runW_fix _ _ f pts t st
theorem Ans.c {f : FuncId} {ps : List PV} {bs : List BX} {r : Res} (h : Ans (fun k => call k f ps bs) r) : cW f ps bs = some r := h.w
theorem c_at (n : Nat) {f : FuncId} {ps : List PV} {bs : List BX} {r : Res} (h : callAt Tryz.prog ann n f ps bs = some r) : cW f ps bs = some r := (callW_iff _ _).2 ⟨n, h⟩
def f_celluloidlaw13_MovieHeads : Nat := 3
def f_celluloidlaw13_mref : Nat := 4
def f_celluloidlaw13_awake : Nat := 5
def f_movie_Encode : Nat := 6
def f_celluloidlaw13_tref : Nat := 7
def f_movie_Decode : Nat := 8
def f_movie_PutTag : Nat := 9
def f_movie_Right : Nat := 10
def f_movie_inner : Nat := 11
def f_bits_PutLittle : Nat := 12
def f_deflate_Close : Nat := 13
def f_celluloidref09_Small : Nat := 14
def f_celluloidref10_Small : Nat := 15
def f_movie_RightTag : Nat := 22
def f_movie_put : Nat := 23
def f_field_PutRGBA : Nat := 24
def f_shape_Put : Nat := 25
def f_morph_Put : Nat := 26
def f_pixel_Put : Nat := 27
def f_movie_raws : Nat := 28
def f_tag_Join : Nat := 29
def f_movie_within : Nat := 30
def f_field_RightRect : Nat := 31
def f_field_PutRect : Nat := 32
def f_bits_PutBytes : Nat := 33
def f_deflate_Raw : Nat := 34
def f_adler_Sum : Nat := 35
def f_celluloidref08_Small : Nat := 36
def f_movie_empty : Nat := 49
def f__celluloid_movie_Place__right : Nat := 50
def f_field_RightRGBA : Nat := 51
def f_shape_Right : Nat := 52
def f_morph_Right : Nat := 53
def f_pixel_Right : Nat := 54
def f_slices_ContainsFunc___celluloid_movie_Tag_celluloid_movie_Tag_ : Nat := 55
def f_movie_RightTag_1 : Nat := 56
def f_movie_step : Nat := 57
def f_field_PutMatrix : Nat := 58
def f_field_PutCx : Nat := 59
def f_style_Put : Nat := 60
def f_shape_PutRecords : Nat := 61
def f_morph_byteOf : Nat := 62
def f_morph_fill : Nat := 63
def f_tag_Put : Nat := 64
def f_slices_ContainsFunc___int_int_ : Nat := 67
def f_movie_within_1 : Nat := 68
def f_field_within : Nat := 69
def f_bits_PutAlign : Nat := 70
def f___celluloid_field_writer__signed : Nat := 71
def f___celluloid_field_writer__done : Nat := 72
def f___celluloid_deflate_writer__bits : Nat := 73
def f_deflate_at : Nat := 74
def f_deflate_best : Nat := 75
def f___celluloid_deflate_writer__symbol : Nat := 76
def f___celluloid_deflate_writer__run : Nat := 77
def f_adler_More : Nat := 78
def f_movie_noShape : Nat := 98
def f_movie_noMorph : Nat := 99
def f_movie_told : Nat := 100
def f_field_RightMatrix : Nat := 101
def f_field_RightCx : Nat := 102
def f_shape_within : Nat := 103
def f_style_Right : Nat := 104
def f_shape_RightRecords : Nat := 105
def f_slices_EqualFunc___celluloid_api_Fill___celluloid_api_Fill_celluloid_api_Fill_celluloid_api_Fill_ : Nat := 106
def f_morph_pair : Nat := 107
def f_slices_ContainsFunc___celluloid_api_RGBA_celluloid_api_RGBA_ : Nat := 108
def f_pixel_Right_1 : Nat := 109
def f_pixel_faint : Nat := 110
def f_slices_IndexFunc___celluloid_movie_Tag_celluloid_movie_Tag_ : Nat := 111
def f___celluloid_field_writer__flag : Nat := 112
def f_field_Plain : Nat := 113
def f_style_byteOf : Nat := 114
def f_style_put : Nat := 115
def f___celluloid_shape_writer__widths : Nat := 116
def f___celluloid_shape_writer__record : Nat := 117
def f___celluloid_shape_writer__plain : Nat := 118
def f_slices_IndexFunc___int_int_ : Nat := 120
def f_bits_Width : Nat := 121
def f___celluloid_field_writer__plain : Nat := 122
def f_bits_PutSigned : Nat := 123
def f_deflate_alike : Nat := 124
def f___celluloid_deflate_writer__code : Nat := 125
def f_deflate_lengthOf : Nat := 126
def f_deflate_distanceOf : Nat := 127
def f_adler_parts : Nat := 128
def f_shape_within_1 : Nat := 141
def f_slices_ContainsFunc___celluloid_api_Fill_celluloid_api_Fill_ : Nat := 142
def f_style_Right_1 : Nat := 143
def f_style_RightFill : Nat := 144
def f_slices_ContainsFunc___celluloid_api_Stroke_celluloid_api_Stroke_ : Nat := 145
def f_style_Right_2 : Nat := 146
def f_style_RightStroke : Nat := 147
def f_shape_sound : Nat := 148
def f_slices_IndexFunc___celluloid_api_RGBA_celluloid_api_RGBA_ : Nat := 149
def f_style_picture : Nat := 150
def f_bits_PlainWidth : Nat := 151
def f___celluloid_shape_writer__signed : Nat := 152
def f___celluloid_shape_writer__set : Nat := 153
def f_bits_PutPlain : Nat := 154
def f_math_bits_Len : Nat := 156
def f_style_gradient : Nat := 166
def f_slices_IndexFunc___celluloid_api_Fill_celluloid_api_Fill_ : Nat := 171
def f_style_SameFill : Nat := 172
def f_style_stop : Nat := 173
def f_slices_IndexFunc___celluloid_api_Stroke_celluloid_api_Stroke_ : Nat := 174
def f_shape_same : Nat := 175
def f_math_bits_Len64 : Nat := 177
def f_slices_Equal___celluloid_api_Stop_celluloid_api_Stop_ : Nat := 184
def f_slices_Equal___celluloid_api_Stroke_celluloid_api_Stroke_ : Nat := 185
def t_int : Nat := 3
def t_field_writer : Nat := 169
def t_deflate_writer : Nat := 174
def t_shape_writer : Nat := 227
/- celluloid/bits.PutLittle -/
noncomputable def S_bits_PutLittle_L0 (x1 : Int) (x2 : Int) (x3 : Int) (x4 : List (List PV)) (x5 : List UInt8) (x6 : Int) (x7 : List UInt8) (x8 : Int) : St := mkSt [(1, .v (.int .i64 x1)), (3, .v (.ptr (.n 1 0 0) 0)), (6, .v (.ptr (.n 1 1 0) 0)), (8, .v (.wr (.w 8))), (31, .v (.int .i64 x2)), (32, .v (.int .i64 x3))] [((.w 8), .row 5 x4), ((.n 1 0 0), .cells 80 [.str x5, .int .i64 x6]), ((.n 1 1 0), .cells 80 [.str x7, .int .i64 x8])] 1000 48
noncomputable def at_bits_PutLittle_L0 : List Item := (atLoop Tryz.f12 0)
theorem u_bits_PutLittle (k : Nat) (a1 : List UInt8) (a2 : Int) (a3 : Int) (a4 : Int) : call (k + 1) f_bits_PutLittle [.s a1, .i a2, .i a3, .i a4] [] =
  ((bif (decide (a4 < (1 : Int))) then some [(PV.b true)]
   else (bif (decide (a4 > (4 : Int))) then some [(PV.b true)]
   else (bif (decide (a3 < (0 : Int))) then some [(PV.b true)]
   else (bif (decide ((0 : Int) ≤ (IntKind.wrap .i64 ((8 : Int) * a4)))) then some [(PV.b ((shr .i64 a3 (IntKind.wrap .i64 ((8 : Int) * a4))) != (0 : Int)))]
   else none))))).bind fun r1 =>
  (bif ((r1.getD 0 PV.u)).toB then some ([(PV.s []), (PV.i (0 : Int)), (PV.i (1 : Int))], [])
  else (bif ((decide ((0 : Int) ≤ a4)) && ((decide (a4 ≤ a4)) && (decide (a4 ≤ (1073741824 : Int))))) then run k f_bits_PutLittle [] at_bits_PutLittle_L0 (S_bits_PutLittle_L0 (a3) ((((List.length (List.replicate (Int.toNat a4) [(PV.i (0 : Int))])) : Nat) : Int)) ((0 : Int)) ((List.replicate (Int.toNat a4) [(PV.i (0 : Int))])) (a1) (a2) ([]) ((0 : Int)))
  else none)) := by kernel_rfl
theorem u_bits_PutLittle_L0 (k : Nat) (x1 : Int) (x2 : Int) (x3 : Int) (x4 : List (List PV)) (x5 : List UInt8) (x6 : Int) (x7 : List UInt8) (x8 : Int) : run (k + 1) f_bits_PutLittle [] at_bits_PutLittle_L0 (S_bits_PutLittle_L0 x1 x2 x3 x4 x5 x6 x7 x8) =
  (bif (decide (x3 < x2)) then (bif (decide ((0 : Int) ≤ (IntKind.wrap .i64 ((8 : Int) * x3)))) then (bif (inB x3 (List.length x4)) then (bif (inB x3 (List.length x4)) then run k f_bits_PutLittle [] at_bits_PutLittle_L0 (S_bits_PutLittle_L0 (x1) (x2) ((IntKind.wrap .i64 (x3 + (1 : Int)))) ((List.set x4 (Int.toNat x3) (putAt (elemAt x4 x3) 0 [(PV.i (IntKind.wrap .u8 (shr .i64 x1 (IntKind.wrap .i64 ((8 : Int) * x3)))))]))) (x5) (x6) (x7) (x8))
  else none)
  else none)
  else none)
  else (call k f_bits_PutBytes [(PV.s x5), (PV.i x6), (PV.s (toBytes x4))] []).bind fun r2 =>
  some ([(PV.s (((r2).1.getD 0 PV.u)).toS), (PV.i (((r2).1.getD 1 PV.u)).toI), (PV.i (0 : Int))], [])) := by kernel_rfl
/- celluloid/field.RightRect -/
theorem u_field_RightRect (k : Nat) (a1 : Int) (a2 : Int) (a3 : Int) (a4 : Int) : call (k + 1) f_field_RightRect [.i a1, .i a2, .i a3, .i a4] [] =
  ((call k f_field_within [(PV.i (-1048576 : Int)), (PV.i (1048576 : Int)), (PV.l (List.set (List.set (List.set (List.set [[(PV.i (0 : Int))], [(PV.i (0 : Int))], [(PV.i (0 : Int))], [(PV.i (0 : Int))]] 0 [(PV.i a1)]) 1 [(PV.i a2)]) 2 [(PV.i a3)]) 3 [(PV.i a4)]))] []).bind fun r1 =>
   (bif (((r1).1.getD 0 PV.u)).toB then (bif (decide (a1 ≤ a2)) then some [(PV.b (decide (a3 ≤ a4)))]
   else some [(PV.b false)])
   else some [(PV.b false)])).bind fun r2 =>
  some ([(PV.b ((r2.getD 0 PV.u)).toB)], []) := by kernel_rfl
/- (*celluloid/field.writer).done -/
theorem u___celluloid_field_writer__done (k : Nat) (p0_1 : List UInt8) (p0_2 : Int) : call (k + 1) f___celluloid_field_writer__done [.u] [(t_field_writer, [.s p0_1, .i p0_2])] =
  (call k f_bits_PutAlign [(PV.s p0_1), (PV.i p0_2)] []).bind fun r1 =>
  some ([(PV.s (((r1).1.getD 0 PV.u)).toS), (PV.i (((r1).1.getD 1 PV.u)).toI)], [(t_field_writer, [(PV.s p0_1), (PV.i p0_2)])]) := by kernel_rfl
/- (*strings.Builder).copyCheck -/
/- celluloid/bits.PutSigned -/
theorem u_bits_PutSigned (k : Nat) (a1 : List UInt8) (a2 : Int) (a3 : Int) (a4 : Int) : call (k + 1) f_bits_PutSigned [.s a1, .i a2, .i a3, .i a4] [] =
  ((bif (decide (a4 < (0 : Int))) then some [(PV.b true)]
   else (bif (decide (a4 > (31 : Int))) then some [(PV.b true)]
   else (call k f_bits_Width [(PV.l (List.set [[(PV.i (0 : Int))]] 0 [(PV.i a3)]))] []).bind fun r1 =>
   some [(PV.b (decide ((((r1).1.getD 0 PV.u)).toI > a4)))]))).bind fun r2 =>
  (bif ((r2.getD 0 PV.u)).toB then some ([(PV.s []), (PV.i (0 : Int)), (PV.i (1 : Int))], [])
  else (bif (decide (a3 < (0 : Int))) then (bif (decide ((0 : Int) ≤ a4)) then (call k f_bits_PutPlain [(PV.s a1), (PV.i a2), (PV.i (IntKind.wrap .i64 (a3 + (shl .i64 (1 : Int) a4)))), (PV.i a4)] []).bind fun r3 =>
  some ([(PV.s (((r3).1.getD 0 PV.u)).toS), (PV.i (((r3).1.getD 1 PV.u)).toI), (PV.i (((r3).1.getD 2 PV.u)).toI)], [])
  else none)
  else (call k f_bits_PutPlain [(PV.s a1), (PV.i a2), (PV.i a3), (PV.i a4)] []).bind fun r4 =>
  some ([(PV.s (((r4).1.getD 0 PV.u)).toS), (PV.i (((r4).1.getD 1 PV.u)).toI), (PV.i (((r4).1.getD 2 PV.u)).toI)], []))) := by kernel_rfl
/- celluloid/bits.PutPlain -/
noncomputable def S_bits_PutPlain_L0 (x1 : Int) (x2 : Int) (x3 : List (List PV)) (x4 : List UInt8) (x5 : Int) (x6 : List UInt8) (x7 : Int) : St := mkSt [(1, .v (.int .i64 x1)), (3, .v (.ptr (.n 1 0 0) 0)), (6, .v (.ptr (.n 1 1 0) 0)), (8, .v (.wr (.w 8))), (9, .v (.int .i64 x2))] [((.w 8), .row 5 x3), ((.n 1 0 0), .cells 80 [.str x4, .int .i64 x5]), ((.n 1 1 0), .cells 80 [.str x6, .int .i64 x7])] 1000 96
noncomputable def at_bits_PutPlain_L0 : List Item := (atLoop Tryz.f154 0)
theorem u_bits_PutPlain (k : Nat) (a1 : List UInt8) (a2 : Int) (a3 : Int) (a4 : Int) : call (k + 1) f_bits_PutPlain [.s a1, .i a2, .i a3, .i a4] [] =
  ((bif (decide (a4 < (0 : Int))) then some [(PV.b true)]
   else (bif (decide (a4 > (31 : Int))) then some [(PV.b true)]
   else (bif (decide (a3 < (0 : Int))) then some [(PV.b true)]
   else (bif (decide ((0 : Int) ≤ a4)) then some [(PV.b ((shr .i64 a3 a4) != (0 : Int)))]
   else none))))).bind fun r1 =>
  (bif ((r1.getD 0 PV.u)).toB then some ([(PV.s []), (PV.i (0 : Int)), (PV.i (1 : Int))], [])
  else ((bif (decide (a2 < (0 : Int))) then some [(PV.b true)]
   else (bif (decide (a2 > (7 : Int))) then some [(PV.b true)]
   else (bif ((((List.length (ofBytes a1)) : Nat) : Int) == (0 : Int)) then some [(PV.b true)]
   else (bif (inB (IntKind.wrap .i64 ((((List.length (ofBytes a1)) : Nat) : Int) - (1 : Int))) (List.length (ofBytes a1))) then (bif (inB (IntKind.wrap .i64 ((((List.length (ofBytes a1)) : Nat) : Int) - (1 : Int))) (List.length (ofBytes a1))) then (bif (decide ((0 : Int) ≤ a2)) then some [(PV.b ((bitsOp Go.BinOp.and .u8 (((elemAt (ofBytes a1) (IntKind.wrap .i64 ((((List.length (ofBytes a1)) : Nat) : Int) - (1 : Int)))).getD 0 PV.u)).toI (IntKind.wrap .u8 ((shl .u8 (1 : Int) a2) - (1 : Int)))) != (0 : Int)))]
   else none)
   else none)
   else none))))).bind fun r2 =>
  (bif ((r2.getD 0 PV.u)).toB then run k f_bits_PutPlain [] at_bits_PutPlain_L0 (S_bits_PutPlain_L0 (a3) ((IntKind.wrap .i64 (a4 - (1 : Int)))) ((ofBytes a1)) (a1) ((0 : Int)) ([]) ((0 : Int)))
  else run k f_bits_PutPlain [] at_bits_PutPlain_L0 (S_bits_PutPlain_L0 (a3) ((IntKind.wrap .i64 (a4 - (1 : Int)))) ((ofBytes a1)) (a1) (a2) ([]) ((0 : Int))))) := by kernel_rfl
theorem u_bits_PutPlain_L0 (k : Nat) (x1 : Int) (x2 : Int) (x3 : List (List PV)) (x4 : List UInt8) (x5 : Int) (x6 : List UInt8) (x7 : Int) : run (k + 1) f_bits_PutPlain [] at_bits_PutPlain_L0 (S_bits_PutPlain_L0 x1 x2 x3 x4 x5 x6 x7) =
  (bif (decide (x2 ≥ (0 : Int))) then (bif (x5 == (0 : Int)) then (bif ((decide ((((List.length x3) + 1) * 1) ≤ 140737488355328)) && (decide (((List.length x3) + 1) ≤ 4611686018427387904))) then (bif (inB (IntKind.wrap .i64 ((((List.length (x3 ++ [[(PV.i (0 : Int))]])) : Nat) : Int) - (1 : Int))) (List.length (x3 ++ [[(PV.i (0 : Int))]]))) then (bif (inB (IntKind.wrap .i64 ((((List.length (x3 ++ [[(PV.i (0 : Int))]])) : Nat) : Int) - (1 : Int))) (List.length (x3 ++ [[(PV.i (0 : Int))]]))) then (bif (decide ((0 : Int) ≤ x2)) then (bif (inB (IntKind.wrap .i64 ((((List.length (x3 ++ [[(PV.i (0 : Int))]])) : Nat) : Int) - (1 : Int))) (List.length (x3 ++ [[(PV.i (0 : Int))]]))) then (bif (inB (IntKind.wrap .i64 ((((List.length (x3 ++ [[(PV.i (0 : Int))]])) : Nat) : Int) - (1 : Int))) (List.length (x3 ++ [[(PV.i (0 : Int))]]))) then run k f_bits_PutPlain [] at_bits_PutPlain_L0 (S_bits_PutPlain_L0 (x1) ((IntKind.wrap .i64 (x2 - (1 : Int)))) ((List.set (x3 ++ [[(PV.i (0 : Int))]]) (Int.toNat (IntKind.wrap .i64 ((((List.length (x3 ++ [[(PV.i (0 : Int))]])) : Nat) : Int) - (1 : Int)))) (putAt (elemAt (x3 ++ [[(PV.i (0 : Int))]]) (IntKind.wrap .i64 ((((List.length (x3 ++ [[(PV.i (0 : Int))]])) : Nat) : Int) - (1 : Int)))) 0 [(PV.i (bitsOp Go.BinOp.or .u8 (((elemAt (x3 ++ [[(PV.i (0 : Int))]]) (IntKind.wrap .i64 ((((List.length (x3 ++ [[(PV.i (0 : Int))]])) : Nat) : Int) - (1 : Int)))).getD 0 PV.u)).toI (shl .u8 (IntKind.wrap .u8 (bitsOp Go.BinOp.and .i64 (shr .i64 x1 x2) (1 : Int))) (7 : Int))))]))) (x4) ((7 : Int)) (x6) (x7))
  else none)
  else none)
  else none)
  else none)
  else none)
  else none)
  else (bif (inB (IntKind.wrap .i64 ((((List.length x3) : Nat) : Int) - (1 : Int))) (List.length x3)) then (bif (inB (IntKind.wrap .i64 ((((List.length x3) : Nat) : Int) - (1 : Int))) (List.length x3)) then (bif (decide ((0 : Int) ≤ x2)) then (bif (decide ((0 : Int) ≤ (IntKind.wrap .i64 (x5 - (1 : Int))))) then (bif (inB (IntKind.wrap .i64 ((((List.length x3) : Nat) : Int) - (1 : Int))) (List.length x3)) then (bif (inB (IntKind.wrap .i64 ((((List.length x3) : Nat) : Int) - (1 : Int))) (List.length x3)) then run k f_bits_PutPlain [] at_bits_PutPlain_L0 (S_bits_PutPlain_L0 (x1) ((IntKind.wrap .i64 (x2 - (1 : Int)))) ((List.set x3 (Int.toNat (IntKind.wrap .i64 ((((List.length x3) : Nat) : Int) - (1 : Int)))) (putAt (elemAt x3 (IntKind.wrap .i64 ((((List.length x3) : Nat) : Int) - (1 : Int)))) 0 [(PV.i (bitsOp Go.BinOp.or .u8 (((elemAt x3 (IntKind.wrap .i64 ((((List.length x3) : Nat) : Int) - (1 : Int)))).getD 0 PV.u)).toI (shl .u8 (IntKind.wrap .u8 (bitsOp Go.BinOp.and .i64 (shr .i64 x1 x2) (1 : Int))) (IntKind.wrap .i64 (x5 - (1 : Int))))))]))) (x4) ((IntKind.wrap .i64 (x5 - (1 : Int)))) (x6) (x7))
  else none)
  else none)
  else none)
  else none)
  else none)
  else none))
  else some ([(PV.s (toBytes x3)), (PV.i x5), (PV.i (0 : Int))], [])) := by kernel_rfl
/- math/bits.Len32 -/
/- celluloid/field.PutRect -/
theorem u_field_PutRect (k : Nat) (a1 : List UInt8) (a2 : Int) (a3 : Int) (a4 : Int) (a5 : Int) (a6 : Int) : call (k + 1) f_field_PutRect [.s a1, .i a2, .i a3, .i a4, .i a5, .i a6] [] =
  (call k f_field_RightRect [(PV.i a3), (PV.i a4), (PV.i a5), (PV.i a6)] []).bind fun r1 =>
  (bif (!(((r1).1.getD 0 PV.u)).toB) then some ([(PV.s []), (PV.i (0 : Int)), (PV.i (1 : Int))], [])
  else (call k f_bits_PutAlign [(PV.s a1), (PV.i a2)] []).bind fun r2 =>
  (call k f___celluloid_field_writer__signed [PV.u, (PV.i (5 : Int)), (PV.l (List.set (List.set (List.set (List.set [[(PV.i (0 : Int))], [(PV.i (0 : Int))], [(PV.i (0 : Int))], [(PV.i (0 : Int))]] 0 [(PV.i a3)]) 1 [(PV.i a4)]) 2 [(PV.i a5)]) 3 [(PV.i a6)]))] [(t_field_writer, [(PV.s (((r2).1.getD 0 PV.u)).toS), (PV.i (((r2).1.getD 1 PV.u)).toI)])]).bind fun r3 =>
  (call k f___celluloid_field_writer__done [PV.u] [(t_field_writer, [(PV.s (((((r3).2.getD 0 (0, []))).2.getD 0 PV.u)).toS), (PV.i (((((r3).2.getD 0 (0, []))).2.getD 1 PV.u)).toI)])]).bind fun r4 =>
  some ([(PV.s (((r4).1.getD 0 PV.u)).toS), (PV.i (((r4).1.getD 1 PV.u)).toI), (PV.i (0 : Int))], [])) := by kernel_rfl
/- (*strings.Builder).WriteString -/
/- celluloid/field.within -/
noncomputable def S_field_within_L0 (x1 : Int) (x2 : Int) (x3 : List (List PV)) (x4 : Int) (x5 : Int) : St := mkSt [(0, .v (.int .i64 x1)), (1, .v (.int .i64 x2)), (9, .v (.sl 3 x3)), (10, .v (.int .i64 x4)), (11, .v (.int .i64 x5))] [] 1000 24
noncomputable def at_field_within_L0 : List Item := (atLoop Tryz.f69 0)
theorem u_field_within (k : Nat) (a1 : Int) (a2 : Int) (a3 : List (List PV)) : call (k + 1) f_field_within [.i a1, .i a2, .l a3] [] =
  run k f_field_within [] at_field_within_L0 (S_field_within_L0 (a1) (a2) (a3) ((((List.length a3) : Nat) : Int)) ((0 : Int))) := by kernel_rfl
theorem u_field_within_L0 (k : Nat) (x1 : Int) (x2 : Int) (x3 : List (List PV)) (x4 : Int) (x5 : Int) : run (k + 1) f_field_within [] at_field_within_L0 (S_field_within_L0 x1 x2 x3 x4 x5) =
  (bif (decide (x5 < x4)) then (bif (inB x5 (List.length x3)) then ((bif (decide ((((elemAt x3 x5).getD 0 PV.u)).toI < x1)) then some [(PV.b true)]
   else some [(PV.b (decide ((((elemAt x3 x5).getD 0 PV.u)).toI > x2)))])).bind fun r1 =>
  (bif ((r1.getD 0 PV.u)).toB then some ([(PV.b false)], [])
  else run k f_field_within [] at_field_within_L0 (S_field_within_L0 (x1) (x2) (x3) (x4) ((IntKind.wrap .i64 (x5 + (1 : Int))))))
  else none)
  else some ([(PV.b true)], [])) := by kernel_rfl
/- (*celluloid/field.writer).flag -/
theorem u___celluloid_field_writer__flag (k : Nat) (a2 : Bool) (p0_1 : List UInt8) (p0_2 : Int) : call (k + 1) f___celluloid_field_writer__flag [.u, .b a2] [(t_field_writer, [.s p0_1, .i p0_2])] =
  (bif a2 then (call k f___celluloid_field_writer__plain [PV.u, (PV.i (1 : Int)), (PV.i (1 : Int))] [(t_field_writer, [(PV.s p0_1), (PV.i p0_2)])]).bind fun r1 =>
  some ([], [(t_field_writer, [(PV.s (((((r1).2.getD 0 (0, []))).2.getD 0 PV.u)).toS), (PV.i (((((r1).2.getD 0 (0, []))).2.getD 1 PV.u)).toI)])])
  else (call k f___celluloid_field_writer__plain [PV.u, (PV.i (0 : Int)), (PV.i (1 : Int))] [(t_field_writer, [(PV.s p0_1), (PV.i p0_2)])]).bind fun r2 =>
  some ([], [(t_field_writer, [(PV.s (((((r2).2.getD 0 (0, []))).2.getD 0 PV.u)).toS), (PV.i (((((r2).2.getD 0 (0, []))).2.getD 1 PV.u)).toI)])])) := by kernel_rfl
/- celluloid/bits.PlainWidth -/
noncomputable def S_bits_PlainWidth_L0 (x1 : Int) (x2 : List (List PV)) (x3 : Int) (x4 : Int) : St := mkSt [(3, .v (.int .i64 x1)), (6, .v (.sl 3 x2)), (7, .v (.int .i64 x3)), (8, .v (.int .i64 x4))] [] 1000 20
noncomputable def at_bits_PlainWidth_L0 : List Item := (atLoop Tryz.f151 0)
theorem u_bits_PlainWidth (k : Nat) (a1 : List (List PV)) : call (k + 1) f_bits_PlainWidth [.l a1] [] =
  run k f_bits_PlainWidth [] at_bits_PlainWidth_L0 (S_bits_PlainWidth_L0 ((0 : Int)) (a1) ((((List.length a1) : Nat) : Int)) ((0 : Int))) := by kernel_rfl
theorem u_bits_PlainWidth_L0 (k : Nat) (x1 : Int) (x2 : List (List PV)) (x3 : Int) (x4 : Int) : run (k + 1) f_bits_PlainWidth [] at_bits_PlainWidth_L0 (S_bits_PlainWidth_L0 x1 x2 x3 x4) =
  (bif (decide (x4 < x3)) then (bif (inB x4 (List.length x2)) then (call k f_math_bits_Len [(PV.i (IntKind.wrap .u64 (bif (decide ((0 : Int) > (((elemAt x2 x4).getD 0 PV.u)).toI)) then (0 : Int) else (((elemAt x2 x4).getD 0 PV.u)).toI)))] []).bind fun r1 =>
  run k f_bits_PlainWidth [] at_bits_PlainWidth_L0 (S_bits_PlainWidth_L0 ((bif (decide ((((r1).1.getD 0 PV.u)).toI > x1)) then (((r1).1.getD 0 PV.u)).toI else x1)) (x2) (x3) ((IntKind.wrap .i64 (x4 + (1 : Int)))))
  else none)
  else some ([(PV.i x1)], [])) := by kernel_rfl
/- math/bits.Len -/
theorem u_math_bits_Len (k : Nat) (a1 : Int) : call (k + 1) f_math_bits_Len [.i a1] [] =
  (call k f_math_bits_Len64 [(PV.i a1)] []).bind fun r1 =>
  some ([(PV.i (((r1).1.getD 0 PV.u)).toI)], []) := by kernel_rfl
/- math/bits.Len64 -/
theorem u_math_bits_Len64 (k : Nat) (a1 : Int) : call (k + 1) f_math_bits_Len64 [.i a1] [] =
  (bif (decide (a1 ≥ (4294967296 : Int))) then (bif (decide ((shr .u64 a1 (32 : Int)) ≥ (65536 : Int))) then (bif (decide ((shr .u64 (shr .u64 a1 (32 : Int)) (16 : Int)) ≥ (256 : Int))) then (bif (inB (IntKind.wrap .u8 (shr .u64 (shr .u64 (shr .u64 a1 (32 : Int)) (16 : Int)) (8 : Int))) 256) then some ([(PV.i (IntKind.wrap .i64 ((56 : Int) + (IntKind.wrap .i64 (bt [0, 1, 2, 2, 3, 3, 3, 3, 4, 4, 4, 4, 4, 4, 4, 4, 5, 5, 5, 5, 5, 5, 5, 5, 5, 5, 5, 5, 5, 5, 5, 5, 6, 6, 6, 6, 6, 6, 6, 6, 6, 6, 6, 6, 6, 6, 6, 6, 6, 6, 6, 6, 6, 6, 6, 6, 6, 6, 6, 6, 6, 6, 6, 6, 7, 7, 7, 7, 7, 7, 7, 7, 7, 7, 7, 7, 7, 7, 7, 7, 7, 7, 7, 7, 7, 7, 7, 7, 7, 7, 7, 7, 7, 7, 7, 7, 7, 7, 7, 7, 7, 7, 7, 7, 7, 7, 7, 7, 7, 7, 7, 7, 7, 7, 7, 7, 7, 7, 7, 7, 7, 7, 7, 7, 7, 7, 7, 7, 8, 8, 8, 8, 8, 8, 8, 8, 8, 8, 8, 8, 8, 8, 8, 8, 8, 8, 8, 8, 8, 8, 8, 8, 8, 8, 8, 8, 8, 8, 8, 8, 8, 8, 8, 8, 8, 8, 8, 8, 8, 8, 8, 8, 8, 8, 8, 8, 8, 8, 8, 8, 8, 8, 8, 8, 8, 8, 8, 8, 8, 8, 8, 8, 8, 8, 8, 8, 8, 8, 8, 8, 8, 8, 8, 8, 8, 8, 8, 8, 8, 8, 8, 8, 8, 8, 8, 8, 8, 8, 8, 8, 8, 8, 8, 8, 8, 8, 8, 8, 8, 8, 8, 8, 8, 8, 8, 8, 8, 8, 8, 8, 8, 8, 8, 8, 8, 8, 8, 8, 8, 8, 8, 8, 8, 8, 8, 8] (IntKind.wrap .u8 (shr .u64 (shr .u64 (shr .u64 a1 (32 : Int)) (16 : Int)) (8 : Int))))))))], [])
  else none)
  else (bif (inB (IntKind.wrap .u8 (shr .u64 (shr .u64 a1 (32 : Int)) (16 : Int))) 256) then some ([(PV.i (IntKind.wrap .i64 ((48 : Int) + (IntKind.wrap .i64 (bt [0, 1, 2, 2, 3, 3, 3, 3, 4, 4, 4, 4, 4, 4, 4, 4, 5, 5, 5, 5, 5, 5, 5, 5, 5, 5, 5, 5, 5, 5, 5, 5, 6, 6, 6, 6, 6, 6, 6, 6, 6, 6, 6, 6, 6, 6, 6, 6, 6, 6, 6, 6, 6, 6, 6, 6, 6, 6, 6, 6, 6, 6, 6, 6, 7, 7, 7, 7, 7, 7, 7, 7, 7, 7, 7, 7, 7, 7, 7, 7, 7, 7, 7, 7, 7, 7, 7, 7, 7, 7, 7, 7, 7, 7, 7, 7, 7, 7, 7, 7, 7, 7, 7, 7, 7, 7, 7, 7, 7, 7, 7, 7, 7, 7, 7, 7, 7, 7, 7, 7, 7, 7, 7, 7, 7, 7, 7, 7, 8, 8, 8, 8, 8, 8, 8, 8, 8, 8, 8, 8, 8, 8, 8, 8, 8, 8, 8, 8, 8, 8, 8, 8, 8, 8, 8, 8, 8, 8, 8, 8, 8, 8, 8, 8, 8, 8, 8, 8, 8, 8, 8, 8, 8, 8, 8, 8, 8, 8, 8, 8, 8, 8, 8, 8, 8, 8, 8, 8, 8, 8, 8, 8, 8, 8, 8, 8, 8, 8, 8, 8, 8, 8, 8, 8, 8, 8, 8, 8, 8, 8, 8, 8, 8, 8, 8, 8, 8, 8, 8, 8, 8, 8, 8, 8, 8, 8, 8, 8, 8, 8, 8, 8, 8, 8, 8, 8, 8, 8, 8, 8, 8, 8, 8, 8, 8, 8, 8, 8, 8, 8, 8, 8, 8, 8, 8, 8] (IntKind.wrap .u8 (shr .u64 (shr .u64 a1 (32 : Int)) (16 : Int))))))))], [])
  else none))
  else (bif (decide ((shr .u64 a1 (32 : Int)) ≥ (256 : Int))) then (bif (inB (IntKind.wrap .u8 (shr .u64 (shr .u64 a1 (32 : Int)) (8 : Int))) 256) then some ([(PV.i (IntKind.wrap .i64 ((40 : Int) + (IntKind.wrap .i64 (bt [0, 1, 2, 2, 3, 3, 3, 3, 4, 4, 4, 4, 4, 4, 4, 4, 5, 5, 5, 5, 5, 5, 5, 5, 5, 5, 5, 5, 5, 5, 5, 5, 6, 6, 6, 6, 6, 6, 6, 6, 6, 6, 6, 6, 6, 6, 6, 6, 6, 6, 6, 6, 6, 6, 6, 6, 6, 6, 6, 6, 6, 6, 6, 6, 7, 7, 7, 7, 7, 7, 7, 7, 7, 7, 7, 7, 7, 7, 7, 7, 7, 7, 7, 7, 7, 7, 7, 7, 7, 7, 7, 7, 7, 7, 7, 7, 7, 7, 7, 7, 7, 7, 7, 7, 7, 7, 7, 7, 7, 7, 7, 7, 7, 7, 7, 7, 7, 7, 7, 7, 7, 7, 7, 7, 7, 7, 7, 7, 8, 8, 8, 8, 8, 8, 8, 8, 8, 8, 8, 8, 8, 8, 8, 8, 8, 8, 8, 8, 8, 8, 8, 8, 8, 8, 8, 8, 8, 8, 8, 8, 8, 8, 8, 8, 8, 8, 8, 8, 8, 8, 8, 8, 8, 8, 8, 8, 8, 8, 8, 8, 8, 8, 8, 8, 8, 8, 8, 8, 8, 8, 8, 8, 8, 8, 8, 8, 8, 8, 8, 8, 8, 8, 8, 8, 8, 8, 8, 8, 8, 8, 8, 8, 8, 8, 8, 8, 8, 8, 8, 8, 8, 8, 8, 8, 8, 8, 8, 8, 8, 8, 8, 8, 8, 8, 8, 8, 8, 8, 8, 8, 8, 8, 8, 8, 8, 8, 8, 8, 8, 8, 8, 8, 8, 8, 8, 8] (IntKind.wrap .u8 (shr .u64 (shr .u64 a1 (32 : Int)) (8 : Int))))))))], [])
  else none)
  else (bif (inB (IntKind.wrap .u8 (shr .u64 a1 (32 : Int))) 256) then some ([(PV.i (IntKind.wrap .i64 ((32 : Int) + (IntKind.wrap .i64 (bt [0, 1, 2, 2, 3, 3, 3, 3, 4, 4, 4, 4, 4, 4, 4, 4, 5, 5, 5, 5, 5, 5, 5, 5, 5, 5, 5, 5, 5, 5, 5, 5, 6, 6, 6, 6, 6, 6, 6, 6, 6, 6, 6, 6, 6, 6, 6, 6, 6, 6, 6, 6, 6, 6, 6, 6, 6, 6, 6, 6, 6, 6, 6, 6, 7, 7, 7, 7, 7, 7, 7, 7, 7, 7, 7, 7, 7, 7, 7, 7, 7, 7, 7, 7, 7, 7, 7, 7, 7, 7, 7, 7, 7, 7, 7, 7, 7, 7, 7, 7, 7, 7, 7, 7, 7, 7, 7, 7, 7, 7, 7, 7, 7, 7, 7, 7, 7, 7, 7, 7, 7, 7, 7, 7, 7, 7, 7, 7, 8, 8, 8, 8, 8, 8, 8, 8, 8, 8, 8, 8, 8, 8, 8, 8, 8, 8, 8, 8, 8, 8, 8, 8, 8, 8, 8, 8, 8, 8, 8, 8, 8, 8, 8, 8, 8, 8, 8, 8, 8, 8, 8, 8, 8, 8, 8, 8, 8, 8, 8, 8, 8, 8, 8, 8, 8, 8, 8, 8, 8, 8, 8, 8, 8, 8, 8, 8, 8, 8, 8, 8, 8, 8, 8, 8, 8, 8, 8, 8, 8, 8, 8, 8, 8, 8, 8, 8, 8, 8, 8, 8, 8, 8, 8, 8, 8, 8, 8, 8, 8, 8, 8, 8, 8, 8, 8, 8, 8, 8, 8, 8, 8, 8, 8, 8, 8, 8, 8, 8, 8, 8, 8, 8, 8, 8, 8, 8] (IntKind.wrap .u8 (shr .u64 a1 (32 : Int))))))))], [])
  else none)))
  else (bif (decide (a1 ≥ (65536 : Int))) then (bif (decide ((shr .u64 a1 (16 : Int)) ≥ (256 : Int))) then (bif (inB (IntKind.wrap .u8 (shr .u64 (shr .u64 a1 (16 : Int)) (8 : Int))) 256) then some ([(PV.i (IntKind.wrap .i64 ((24 : Int) + (IntKind.wrap .i64 (bt [0, 1, 2, 2, 3, 3, 3, 3, 4, 4, 4, 4, 4, 4, 4, 4, 5, 5, 5, 5, 5, 5, 5, 5, 5, 5, 5, 5, 5, 5, 5, 5, 6, 6, 6, 6, 6, 6, 6, 6, 6, 6, 6, 6, 6, 6, 6, 6, 6, 6, 6, 6, 6, 6, 6, 6, 6, 6, 6, 6, 6, 6, 6, 6, 7, 7, 7, 7, 7, 7, 7, 7, 7, 7, 7, 7, 7, 7, 7, 7, 7, 7, 7, 7, 7, 7, 7, 7, 7, 7, 7, 7, 7, 7, 7, 7, 7, 7, 7, 7, 7, 7, 7, 7, 7, 7, 7, 7, 7, 7, 7, 7, 7, 7, 7, 7, 7, 7, 7, 7, 7, 7, 7, 7, 7, 7, 7, 7, 8, 8, 8, 8, 8, 8, 8, 8, 8, 8, 8, 8, 8, 8, 8, 8, 8, 8, 8, 8, 8, 8, 8, 8, 8, 8, 8, 8, 8, 8, 8, 8, 8, 8, 8, 8, 8, 8, 8, 8, 8, 8, 8, 8, 8, 8, 8, 8, 8, 8, 8, 8, 8, 8, 8, 8, 8, 8, 8, 8, 8, 8, 8, 8, 8, 8, 8, 8, 8, 8, 8, 8, 8, 8, 8, 8, 8, 8, 8, 8, 8, 8, 8, 8, 8, 8, 8, 8, 8, 8, 8, 8, 8, 8, 8, 8, 8, 8, 8, 8, 8, 8, 8, 8, 8, 8, 8, 8, 8, 8, 8, 8, 8, 8, 8, 8, 8, 8, 8, 8, 8, 8, 8, 8, 8, 8, 8, 8] (IntKind.wrap .u8 (shr .u64 (shr .u64 a1 (16 : Int)) (8 : Int))))))))], [])
  else none)
  else (bif (inB (IntKind.wrap .u8 (shr .u64 a1 (16 : Int))) 256) then some ([(PV.i (IntKind.wrap .i64 ((16 : Int) + (IntKind.wrap .i64 (bt [0, 1, 2, 2, 3, 3, 3, 3, 4, 4, 4, 4, 4, 4, 4, 4, 5, 5, 5, 5, 5, 5, 5, 5, 5, 5, 5, 5, 5, 5, 5, 5, 6, 6, 6, 6, 6, 6, 6, 6, 6, 6, 6, 6, 6, 6, 6, 6, 6, 6, 6, 6, 6, 6, 6, 6, 6, 6, 6, 6, 6, 6, 6, 6, 7, 7, 7, 7, 7, 7, 7, 7, 7, 7, 7, 7, 7, 7, 7, 7, 7, 7, 7, 7, 7, 7, 7, 7, 7, 7, 7, 7, 7, 7, 7, 7, 7, 7, 7, 7, 7, 7, 7, 7, 7, 7, 7, 7, 7, 7, 7, 7, 7, 7, 7, 7, 7, 7, 7, 7, 7, 7, 7, 7, 7, 7, 7, 7, 8, 8, 8, 8, 8, 8, 8, 8, 8, 8, 8, 8, 8, 8, 8, 8, 8, 8, 8, 8, 8, 8, 8, 8, 8, 8, 8, 8, 8, 8, 8, 8, 8, 8, 8, 8, 8, 8, 8, 8, 8, 8, 8, 8, 8, 8, 8, 8, 8, 8, 8, 8, 8, 8, 8, 8, 8, 8, 8, 8, 8, 8, 8, 8, 8, 8, 8, 8, 8, 8, 8, 8, 8, 8, 8, 8, 8, 8, 8, 8, 8, 8, 8, 8, 8, 8, 8, 8, 8, 8, 8, 8, 8, 8, 8, 8, 8, 8, 8, 8, 8, 8, 8, 8, 8, 8, 8, 8, 8, 8, 8, 8, 8, 8, 8, 8, 8, 8, 8, 8, 8, 8, 8, 8, 8, 8, 8, 8] (IntKind.wrap .u8 (shr .u64 a1 (16 : Int))))))))], [])
  else none))
  else (bif (decide (a1 ≥ (256 : Int))) then (bif (inB (IntKind.wrap .u8 (shr .u64 a1 (8 : Int))) 256) then some ([(PV.i (IntKind.wrap .i64 ((8 : Int) + (IntKind.wrap .i64 (bt [0, 1, 2, 2, 3, 3, 3, 3, 4, 4, 4, 4, 4, 4, 4, 4, 5, 5, 5, 5, 5, 5, 5, 5, 5, 5, 5, 5, 5, 5, 5, 5, 6, 6, 6, 6, 6, 6, 6, 6, 6, 6, 6, 6, 6, 6, 6, 6, 6, 6, 6, 6, 6, 6, 6, 6, 6, 6, 6, 6, 6, 6, 6, 6, 7, 7, 7, 7, 7, 7, 7, 7, 7, 7, 7, 7, 7, 7, 7, 7, 7, 7, 7, 7, 7, 7, 7, 7, 7, 7, 7, 7, 7, 7, 7, 7, 7, 7, 7, 7, 7, 7, 7, 7, 7, 7, 7, 7, 7, 7, 7, 7, 7, 7, 7, 7, 7, 7, 7, 7, 7, 7, 7, 7, 7, 7, 7, 7, 8, 8, 8, 8, 8, 8, 8, 8, 8, 8, 8, 8, 8, 8, 8, 8, 8, 8, 8, 8, 8, 8, 8, 8, 8, 8, 8, 8, 8, 8, 8, 8, 8, 8, 8, 8, 8, 8, 8, 8, 8, 8, 8, 8, 8, 8, 8, 8, 8, 8, 8, 8, 8, 8, 8, 8, 8, 8, 8, 8, 8, 8, 8, 8, 8, 8, 8, 8, 8, 8, 8, 8, 8, 8, 8, 8, 8, 8, 8, 8, 8, 8, 8, 8, 8, 8, 8, 8, 8, 8, 8, 8, 8, 8, 8, 8, 8, 8, 8, 8, 8, 8, 8, 8, 8, 8, 8, 8, 8, 8, 8, 8, 8, 8, 8, 8, 8, 8, 8, 8, 8, 8, 8, 8, 8, 8, 8, 8] (IntKind.wrap .u8 (shr .u64 a1 (8 : Int))))))))], [])
  else none)
  else (bif (inB (IntKind.wrap .u8 a1) 256) then some ([(PV.i (IntKind.wrap .i64 ((0 : Int) + (IntKind.wrap .i64 (bt [0, 1, 2, 2, 3, 3, 3, 3, 4, 4, 4, 4, 4, 4, 4, 4, 5, 5, 5, 5, 5, 5, 5, 5, 5, 5, 5, 5, 5, 5, 5, 5, 6, 6, 6, 6, 6, 6, 6, 6, 6, 6, 6, 6, 6, 6, 6, 6, 6, 6, 6, 6, 6, 6, 6, 6, 6, 6, 6, 6, 6, 6, 6, 6, 7, 7, 7, 7, 7, 7, 7, 7, 7, 7, 7, 7, 7, 7, 7, 7, 7, 7, 7, 7, 7, 7, 7, 7, 7, 7, 7, 7, 7, 7, 7, 7, 7, 7, 7, 7, 7, 7, 7, 7, 7, 7, 7, 7, 7, 7, 7, 7, 7, 7, 7, 7, 7, 7, 7, 7, 7, 7, 7, 7, 7, 7, 7, 7, 8, 8, 8, 8, 8, 8, 8, 8, 8, 8, 8, 8, 8, 8, 8, 8, 8, 8, 8, 8, 8, 8, 8, 8, 8, 8, 8, 8, 8, 8, 8, 8, 8, 8, 8, 8, 8, 8, 8, 8, 8, 8, 8, 8, 8, 8, 8, 8, 8, 8, 8, 8, 8, 8, 8, 8, 8, 8, 8, 8, 8, 8, 8, 8, 8, 8, 8, 8, 8, 8, 8, 8, 8, 8, 8, 8, 8, 8, 8, 8, 8, 8, 8, 8, 8, 8, 8, 8, 8, 8, 8, 8, 8, 8, 8, 8, 8, 8, 8, 8, 8, 8, 8, 8, 8, 8, 8, 8, 8, 8, 8, 8, 8, 8, 8, 8, 8, 8, 8, 8, 8, 8, 8, 8, 8, 8, 8, 8] (IntKind.wrap .u8 a1))))))], [])
  else none)))) := by kernel_rfl
/- celluloid/field.PutRGBA -/
theorem u_field_PutRGBA (k : Nat) (a1 : List UInt8) (a2 : Int) (a3 : Int) (a4 : Int) (a5 : Int) (a6 : Int) : call (k + 1) f_field_PutRGBA [.s a1, .i a2, .i a3, .i a4, .i a5, .i a6] [] =
  (call k f_field_RightRGBA [(PV.i a3), (PV.i a4), (PV.i a5), (PV.i a6)] []).bind fun r1 =>
  (bif (!(((r1).1.getD 0 PV.u)).toB) then some ([(PV.s []), (PV.i (0 : Int)), (PV.i (1 : Int))], [])
  else (call k f_bits_PutBytes [(PV.s a1), (PV.i a2), (PV.s (toBytes (List.set (List.set (List.set (List.set [[(PV.i (0 : Int))], [(PV.i (0 : Int))], [(PV.i (0 : Int))], [(PV.i (0 : Int))]] 0 [(PV.i (IntKind.wrap .u8 a3))]) 1 [(PV.i (IntKind.wrap .u8 a4))]) 2 [(PV.i (IntKind.wrap .u8 a5))]) 3 [(PV.i (IntKind.wrap .u8 a6))])))] []).bind fun r2 =>
  some ([(PV.s (((r2).1.getD 0 PV.u)).toS), (PV.i (((r2).1.getD 1 PV.u)).toI), (PV.i (0 : Int))], [])) := by kernel_rfl
/- celluloid/bits.PutBytes -/
theorem u_bits_PutBytes (k : Nat) (a1 : List UInt8) (a2 : Int) (a3 : List UInt8) : call (k + 1) f_bits_PutBytes [.s a1, .i a2, .s a3] [] =
  (bif (decide (((List.length a1) + (List.length a3)) ≤ 1099511627776)) then some ([(PV.s (a1 ++ a3)), (PV.i (0 : Int))], [])
  else none) := by kernel_rfl
/- celluloid/field.PutMatrix -/
theorem u_field_PutMatrix (k : Nat) (a1 : List UInt8) (a2 : Int) (a3 : Int) (a4 : Int) (a5 : Int) (a6 : Int) (a7 : Int) (a8 : Int) : call (k + 1) f_field_PutMatrix [.s a1, .i a2, .i a3, .i a4, .i a5, .i a6, .i a7, .i a8] [] =
  (call k f_field_RightMatrix [(PV.i a3), (PV.i a4), (PV.i a5), (PV.i a6), (PV.i a7), (PV.i a8)] []).bind fun r1 =>
  (bif (!(((r1).1.getD 0 PV.u)).toB) then some ([(PV.s []), (PV.i (0 : Int)), (PV.i (1 : Int))], [])
  else (call k f_bits_PutAlign [(PV.s a1), (PV.i a2)] []).bind fun r2 =>
  ((bif (a3 != (65536 : Int)) then (bif (a4 != (0 : Int)) then some [(PV.b true), (PV.b true)]
   else some [(PV.b true), (PV.b (a5 != (0 : Int)))])
   else (bif (a4 != (0 : Int)) then some [(PV.b (a6 != (65536 : Int))), (PV.b true)]
   else some [(PV.b (a6 != (65536 : Int))), (PV.b (a5 != (0 : Int)))]))).bind fun r3 =>
  (call k f___celluloid_field_writer__flag [PV.u, (PV.b ((r3.getD 0 PV.u)).toB)] [(t_field_writer, [(PV.s (((r2).1.getD 0 PV.u)).toS), (PV.i (((r2).1.getD 1 PV.u)).toI)])]).bind fun r4 =>
  (bif ((r3.getD 0 PV.u)).toB then (call k f___celluloid_field_writer__signed [PV.u, (PV.i (5 : Int)), (PV.l (List.set (List.set [[(PV.i (0 : Int))], [(PV.i (0 : Int))]] 0 [(PV.i a3)]) 1 [(PV.i a6)]))] [(t_field_writer, [(PV.s (((((r4).2.getD 0 (0, []))).2.getD 0 PV.u)).toS), (PV.i (((((r4).2.getD 0 (0, []))).2.getD 1 PV.u)).toI)])]).bind fun r5 =>
  (call k f___celluloid_field_writer__flag [PV.u, (PV.b ((r3.getD 1 PV.u)).toB)] [(t_field_writer, [(PV.s (((((r5).2.getD 0 (0, []))).2.getD 0 PV.u)).toS), (PV.i (((((r5).2.getD 0 (0, []))).2.getD 1 PV.u)).toI)])]).bind fun r6 =>
  (bif ((r3.getD 1 PV.u)).toB then (call k f___celluloid_field_writer__signed [PV.u, (PV.i (5 : Int)), (PV.l (List.set (List.set [[(PV.i (0 : Int))], [(PV.i (0 : Int))]] 0 [(PV.i a4)]) 1 [(PV.i a5)]))] [(t_field_writer, [(PV.s (((((r6).2.getD 0 (0, []))).2.getD 0 PV.u)).toS), (PV.i (((((r6).2.getD 0 (0, []))).2.getD 1 PV.u)).toI)])]).bind fun r7 =>
  (call k f___celluloid_field_writer__signed [PV.u, (PV.i (5 : Int)), (PV.l (List.set (List.set [[(PV.i (0 : Int))], [(PV.i (0 : Int))]] 0 [(PV.i a7)]) 1 [(PV.i a8)]))] [(t_field_writer, [(PV.s (((((r7).2.getD 0 (0, []))).2.getD 0 PV.u)).toS), (PV.i (((((r7).2.getD 0 (0, []))).2.getD 1 PV.u)).toI)])]).bind fun r8 =>
  (call k f___celluloid_field_writer__done [PV.u] [(t_field_writer, [(PV.s (((((r8).2.getD 0 (0, []))).2.getD 0 PV.u)).toS), (PV.i (((((r8).2.getD 0 (0, []))).2.getD 1 PV.u)).toI)])]).bind fun r9 =>
  some ([(PV.s (((r9).1.getD 0 PV.u)).toS), (PV.i (((r9).1.getD 1 PV.u)).toI), (PV.i (0 : Int))], [])
  else (call k f___celluloid_field_writer__signed [PV.u, (PV.i (5 : Int)), (PV.l (List.set (List.set [[(PV.i (0 : Int))], [(PV.i (0 : Int))]] 0 [(PV.i a7)]) 1 [(PV.i a8)]))] [(t_field_writer, [(PV.s (((((r6).2.getD 0 (0, []))).2.getD 0 PV.u)).toS), (PV.i (((((r6).2.getD 0 (0, []))).2.getD 1 PV.u)).toI)])]).bind fun r10 =>
  (call k f___celluloid_field_writer__done [PV.u] [(t_field_writer, [(PV.s (((((r10).2.getD 0 (0, []))).2.getD 0 PV.u)).toS), (PV.i (((((r10).2.getD 0 (0, []))).2.getD 1 PV.u)).toI)])]).bind fun r11 =>
  some ([(PV.s (((r11).1.getD 0 PV.u)).toS), (PV.i (((r11).1.getD 1 PV.u)).toI), (PV.i (0 : Int))], []))
  else (call k f___celluloid_field_writer__flag [PV.u, (PV.b ((r3.getD 1 PV.u)).toB)] [(t_field_writer, [(PV.s (((((r4).2.getD 0 (0, []))).2.getD 0 PV.u)).toS), (PV.i (((((r4).2.getD 0 (0, []))).2.getD 1 PV.u)).toI)])]).bind fun r12 =>
  (bif ((r3.getD 1 PV.u)).toB then (call k f___celluloid_field_writer__signed [PV.u, (PV.i (5 : Int)), (PV.l (List.set (List.set [[(PV.i (0 : Int))], [(PV.i (0 : Int))]] 0 [(PV.i a4)]) 1 [(PV.i a5)]))] [(t_field_writer, [(PV.s (((((r12).2.getD 0 (0, []))).2.getD 0 PV.u)).toS), (PV.i (((((r12).2.getD 0 (0, []))).2.getD 1 PV.u)).toI)])]).bind fun r13 =>
  (call k f___celluloid_field_writer__signed [PV.u, (PV.i (5 : Int)), (PV.l (List.set (List.set [[(PV.i (0 : Int))], [(PV.i (0 : Int))]] 0 [(PV.i a7)]) 1 [(PV.i a8)]))] [(t_field_writer, [(PV.s (((((r13).2.getD 0 (0, []))).2.getD 0 PV.u)).toS), (PV.i (((((r13).2.getD 0 (0, []))).2.getD 1 PV.u)).toI)])]).bind fun r14 =>
  (call k f___celluloid_field_writer__done [PV.u] [(t_field_writer, [(PV.s (((((r14).2.getD 0 (0, []))).2.getD 0 PV.u)).toS), (PV.i (((((r14).2.getD 0 (0, []))).2.getD 1 PV.u)).toI)])]).bind fun r15 =>
  some ([(PV.s (((r15).1.getD 0 PV.u)).toS), (PV.i (((r15).1.getD 1 PV.u)).toI), (PV.i (0 : Int))], [])
  else (call k f___celluloid_field_writer__signed [PV.u, (PV.i (5 : Int)), (PV.l (List.set (List.set [[(PV.i (0 : Int))], [(PV.i (0 : Int))]] 0 [(PV.i a7)]) 1 [(PV.i a8)]))] [(t_field_writer, [(PV.s (((((r12).2.getD 0 (0, []))).2.getD 0 PV.u)).toS), (PV.i (((((r12).2.getD 0 (0, []))).2.getD 1 PV.u)).toI)])]).bind fun r16 =>
  (call k f___celluloid_field_writer__done [PV.u] [(t_field_writer, [(PV.s (((((r16).2.getD 0 (0, []))).2.getD 0 PV.u)).toS), (PV.i (((((r16).2.getD 0 (0, []))).2.getD 1 PV.u)).toI)])]).bind fun r17 =>
  some ([(PV.s (((r17).1.getD 0 PV.u)).toS), (PV.i (((r17).1.getD 1 PV.u)).toI), (PV.i (0 : Int))], [])))) := by kernel_rfl
/- (*strings.Builder).String -/
/- celluloid/bits.PutAlign -/
theorem u_bits_PutAlign (k : Nat) (a1 : List UInt8) (a2 : Int) : call (k + 1) f_bits_PutAlign [.s a1, .i a2] [] =
  some ([(PV.s a1), (PV.i (0 : Int))], []) := by kernel_rfl
/- celluloid/field.RightMatrix -/
theorem u_field_RightMatrix (k : Nat) (a1 : Int) (a2 : Int) (a3 : Int) (a4 : Int) (a5 : Int) (a6 : Int) : call (k + 1) f_field_RightMatrix [.i a1, .i a2, .i a3, .i a4, .i a5, .i a6] [] =
  ((call k f_field_within [(PV.i (-4194304 : Int)), (PV.i (4194304 : Int)), (PV.l (List.set (List.set (List.set (List.set [[(PV.i (0 : Int))], [(PV.i (0 : Int))], [(PV.i (0 : Int))], [(PV.i (0 : Int))]] 0 [(PV.i a1)]) 1 [(PV.i a2)]) 2 [(PV.i a3)]) 3 [(PV.i a4)]))] []).bind fun r1 =>
   (bif (((r1).1.getD 0 PV.u)).toB then (call k f_field_within [(PV.i (-1048576 : Int)), (PV.i (1048576 : Int)), (PV.l (List.set (List.set [[(PV.i (0 : Int))], [(PV.i (0 : Int))]] 0 [(PV.i a5)]) 1 [(PV.i a6)]))] []).bind fun r2 =>
   some [(PV.b (((r2).1.getD 0 PV.u)).toB)]
   else some [(PV.b false)])).bind fun r3 =>
  some ([(PV.b ((r3.getD 0 PV.u)).toB)], []) := by kernel_rfl
/- celluloid/field.Plain -/
theorem u_field_Plain (k : Nat)  : call (k + 1) f_field_Plain [] [] =
  some ([(PV.i (256 : Int)), (PV.i (256 : Int)), (PV.i (256 : Int)), (PV.i (256 : Int)), (PV.i (0 : Int)), (PV.i (0 : Int)), (PV.i (0 : Int)), (PV.i (0 : Int))], []) := by kernel_rfl
/- celluloid/bits.Width -/
noncomputable def S_bits_Width_L0 (x1 : Int) (x2 : List (List PV)) (x3 : Int) (x4 : Int) : St := mkSt [(3, .v (.int .i64 x1)), (6, .v (.sl 3 x2)), (7, .v (.int .i64 x3)), (8, .v (.int .i64 x4))] [] 1000 26
noncomputable def at_bits_Width_L0 : List Item := (atLoop Tryz.f121 0)
theorem u_bits_Width (k : Nat) (a1 : List (List PV)) : call (k + 1) f_bits_Width [.l a1] [] =
  run k f_bits_Width [] at_bits_Width_L0 (S_bits_Width_L0 ((0 : Int)) (a1) ((((List.length a1) : Nat) : Int)) ((0 : Int))) := by kernel_rfl
theorem u_bits_Width_L0 (k : Nat) (x1 : Int) (x2 : List (List PV)) (x3 : Int) (x4 : Int) : run (k + 1) f_bits_Width [] at_bits_Width_L0 (S_bits_Width_L0 x1 x2 x3 x4) =
  (bif (decide (x4 < x3)) then (bif (inB x4 (List.length x2)) then (bif (decide ((((elemAt x2 x4).getD 0 PV.u)).toI < (0 : Int))) then (call k f_math_bits_Len [(PV.i (IntKind.wrap .u64 (bitsOp Go.BinOp.xor .i64 (-1 : Int) (((elemAt x2 x4).getD 0 PV.u)).toI)))] []).bind fun r1 =>
  run k f_bits_Width [] at_bits_Width_L0 (S_bits_Width_L0 ((bif (decide ((IntKind.wrap .i64 ((((r1).1.getD 0 PV.u)).toI + (1 : Int))) > x1)) then (IntKind.wrap .i64 ((((r1).1.getD 0 PV.u)).toI + (1 : Int))) else x1)) (x2) (x3) ((IntKind.wrap .i64 (x4 + (1 : Int)))))
  else (bif ((((elemAt x2 x4).getD 0 PV.u)).toI == (0 : Int)) then run k f_bits_Width [] at_bits_Width_L0 (S_bits_Width_L0 (x1) (x2) (x3) ((IntKind.wrap .i64 (x4 + (1 : Int)))))
  else (call k f_math_bits_Len [(PV.i (IntKind.wrap .u64 (((elemAt x2 x4).getD 0 PV.u)).toI))] []).bind fun r2 =>
  run k f_bits_Width [] at_bits_Width_L0 (S_bits_Width_L0 ((bif (decide ((IntKind.wrap .i64 ((((r2).1.getD 0 PV.u)).toI + (1 : Int))) > x1)) then (IntKind.wrap .i64 ((((r2).1.getD 0 PV.u)).toI + (1 : Int))) else x1)) (x2) (x3) ((IntKind.wrap .i64 (x4 + (1 : Int)))))))
  else none)
  else some ([(PV.i x1)], [])) := by kernel_rfl
/- celluloid/field.Same -/
/- celluloid/field.RightRGBA -/
theorem u_field_RightRGBA (k : Nat) (a1 : Int) (a2 : Int) (a3 : Int) (a4 : Int) : call (k + 1) f_field_RightRGBA [.i a1, .i a2, .i a3, .i a4] [] =
  (call k f_field_within [(PV.i (0 : Int)), (PV.i (255 : Int)), (PV.l (List.set (List.set (List.set (List.set [[(PV.i (0 : Int))], [(PV.i (0 : Int))], [(PV.i (0 : Int))], [(PV.i (0 : Int))]] 0 [(PV.i a1)]) 1 [(PV.i a2)]) 2 [(PV.i a3)]) 3 [(PV.i a4)]))] []).bind fun r1 =>
  some ([(PV.b (((r1).1.getD 0 PV.u)).toB)], []) := by kernel_rfl
/- celluloid/field.PutCx -/
theorem u_field_PutCx (k : Nat) (a1 : List UInt8) (a2 : Int) (a3 : Int) (a4 : Int) (a5 : Int) (a6 : Int) (a7 : Int) (a8 : Int) (a9 : Int) (a10 : Int) : call (k + 1) f_field_PutCx [.s a1, .i a2, .i a3, .i a4, .i a5, .i a6, .i a7, .i a8, .i a9, .i a10] [] =
  (call k f_field_RightCx [(PV.i a3), (PV.i a4), (PV.i a5), (PV.i a6), (PV.i a7), (PV.i a8), (PV.i a9), (PV.i a10)] []).bind fun r1 =>
  (bif (!(((r1).1.getD 0 PV.u)).toB) then some ([(PV.s []), (PV.i (0 : Int)), (PV.i (1 : Int))], [])
  else (call k f_bits_PutAlign [(PV.s a1), (PV.i a2)] []).bind fun r2 =>
  (call k f_field_Plain [] []).bind fun r3 =>
  (call k f_field_Plain [] []).bind fun r4 =>
  (bif (!((a3 == (((r4).1.getD 0 PV.u)).toI) && ((a4 == (((r4).1.getD 1 PV.u)).toI) && ((a5 == (((r4).1.getD 2 PV.u)).toI) && (a6 == (((r4).1.getD 3 PV.u)).toI))))) then (bif (!((a7 == (((r3).1.getD 4 PV.u)).toI) && ((a8 == (((r3).1.getD 5 PV.u)).toI) && ((a9 == (((r3).1.getD 6 PV.u)).toI) && (a10 == (((r3).1.getD 7 PV.u)).toI))))) then (call k f___celluloid_field_writer__flag [PV.u, (PV.b (!((a7 == (((r3).1.getD 4 PV.u)).toI) && ((a8 == (((r3).1.getD 5 PV.u)).toI) && ((a9 == (((r3).1.getD 6 PV.u)).toI) && (a10 == (((r3).1.getD 7 PV.u)).toI))))))] [(t_field_writer, [(PV.s (((r2).1.getD 0 PV.u)).toS), (PV.i (((r2).1.getD 1 PV.u)).toI)])]).bind fun r5 =>
  (call k f___celluloid_field_writer__flag [PV.u, (PV.b (!((a3 == (((r4).1.getD 0 PV.u)).toI) && ((a4 == (((r4).1.getD 1 PV.u)).toI) && ((a5 == (((r4).1.getD 2 PV.u)).toI) && (a6 == (((r4).1.getD 3 PV.u)).toI))))))] [(t_field_writer, [(PV.s (((((r5).2.getD 0 (0, []))).2.getD 0 PV.u)).toS), (PV.i (((((r5).2.getD 0 (0, []))).2.getD 1 PV.u)).toI)])]).bind fun r6 =>
  (call k f___celluloid_field_writer__signed [PV.u, (PV.i (4 : Int)), (PV.l [[(PV.i a3)], [(PV.i a4)], [(PV.i a5)], [(PV.i a6)], [(PV.i a7)], [(PV.i a8)], [(PV.i a9)], [(PV.i a10)]])] [(t_field_writer, [(PV.s (((((r6).2.getD 0 (0, []))).2.getD 0 PV.u)).toS), (PV.i (((((r6).2.getD 0 (0, []))).2.getD 1 PV.u)).toI)])]).bind fun r7 =>
  (call k f___celluloid_field_writer__done [PV.u] [(t_field_writer, [(PV.s (((((r7).2.getD 0 (0, []))).2.getD 0 PV.u)).toS), (PV.i (((((r7).2.getD 0 (0, []))).2.getD 1 PV.u)).toI)])]).bind fun r8 =>
  some ([(PV.s (((r8).1.getD 0 PV.u)).toS), (PV.i (((r8).1.getD 1 PV.u)).toI), (PV.i (0 : Int))], [])
  else (call k f___celluloid_field_writer__flag [PV.u, (PV.b (!((a7 == (((r3).1.getD 4 PV.u)).toI) && ((a8 == (((r3).1.getD 5 PV.u)).toI) && ((a9 == (((r3).1.getD 6 PV.u)).toI) && (a10 == (((r3).1.getD 7 PV.u)).toI))))))] [(t_field_writer, [(PV.s (((r2).1.getD 0 PV.u)).toS), (PV.i (((r2).1.getD 1 PV.u)).toI)])]).bind fun r9 =>
  (call k f___celluloid_field_writer__flag [PV.u, (PV.b (!((a3 == (((r4).1.getD 0 PV.u)).toI) && ((a4 == (((r4).1.getD 1 PV.u)).toI) && ((a5 == (((r4).1.getD 2 PV.u)).toI) && (a6 == (((r4).1.getD 3 PV.u)).toI))))))] [(t_field_writer, [(PV.s (((((r9).2.getD 0 (0, []))).2.getD 0 PV.u)).toS), (PV.i (((((r9).2.getD 0 (0, []))).2.getD 1 PV.u)).toI)])]).bind fun r10 =>
  (call k f___celluloid_field_writer__signed [PV.u, (PV.i (4 : Int)), (PV.l [[(PV.i a3)], [(PV.i a4)], [(PV.i a5)], [(PV.i a6)]])] [(t_field_writer, [(PV.s (((((r10).2.getD 0 (0, []))).2.getD 0 PV.u)).toS), (PV.i (((((r10).2.getD 0 (0, []))).2.getD 1 PV.u)).toI)])]).bind fun r11 =>
  (call k f___celluloid_field_writer__done [PV.u] [(t_field_writer, [(PV.s (((((r11).2.getD 0 (0, []))).2.getD 0 PV.u)).toS), (PV.i (((((r11).2.getD 0 (0, []))).2.getD 1 PV.u)).toI)])]).bind fun r12 =>
  some ([(PV.s (((r12).1.getD 0 PV.u)).toS), (PV.i (((r12).1.getD 1 PV.u)).toI), (PV.i (0 : Int))], []))
  else (bif (!((a7 == (((r3).1.getD 4 PV.u)).toI) && ((a8 == (((r3).1.getD 5 PV.u)).toI) && ((a9 == (((r3).1.getD 6 PV.u)).toI) && (a10 == (((r3).1.getD 7 PV.u)).toI))))) then (call k f___celluloid_field_writer__flag [PV.u, (PV.b (!((a7 == (((r3).1.getD 4 PV.u)).toI) && ((a8 == (((r3).1.getD 5 PV.u)).toI) && ((a9 == (((r3).1.getD 6 PV.u)).toI) && (a10 == (((r3).1.getD 7 PV.u)).toI))))))] [(t_field_writer, [(PV.s (((r2).1.getD 0 PV.u)).toS), (PV.i (((r2).1.getD 1 PV.u)).toI)])]).bind fun r13 =>
  (call k f___celluloid_field_writer__flag [PV.u, (PV.b (!((a3 == (((r4).1.getD 0 PV.u)).toI) && ((a4 == (((r4).1.getD 1 PV.u)).toI) && ((a5 == (((r4).1.getD 2 PV.u)).toI) && (a6 == (((r4).1.getD 3 PV.u)).toI))))))] [(t_field_writer, [(PV.s (((((r13).2.getD 0 (0, []))).2.getD 0 PV.u)).toS), (PV.i (((((r13).2.getD 0 (0, []))).2.getD 1 PV.u)).toI)])]).bind fun r14 =>
  (call k f___celluloid_field_writer__signed [PV.u, (PV.i (4 : Int)), (PV.l [[(PV.i a7)], [(PV.i a8)], [(PV.i a9)], [(PV.i a10)]])] [(t_field_writer, [(PV.s (((((r14).2.getD 0 (0, []))).2.getD 0 PV.u)).toS), (PV.i (((((r14).2.getD 0 (0, []))).2.getD 1 PV.u)).toI)])]).bind fun r15 =>
  (call k f___celluloid_field_writer__done [PV.u] [(t_field_writer, [(PV.s (((((r15).2.getD 0 (0, []))).2.getD 0 PV.u)).toS), (PV.i (((((r15).2.getD 0 (0, []))).2.getD 1 PV.u)).toI)])]).bind fun r16 =>
  some ([(PV.s (((r16).1.getD 0 PV.u)).toS), (PV.i (((r16).1.getD 1 PV.u)).toI), (PV.i (0 : Int))], [])
  else (call k f___celluloid_field_writer__flag [PV.u, (PV.b (!((a7 == (((r3).1.getD 4 PV.u)).toI) && ((a8 == (((r3).1.getD 5 PV.u)).toI) && ((a9 == (((r3).1.getD 6 PV.u)).toI) && (a10 == (((r3).1.getD 7 PV.u)).toI))))))] [(t_field_writer, [(PV.s (((r2).1.getD 0 PV.u)).toS), (PV.i (((r2).1.getD 1 PV.u)).toI)])]).bind fun r17 =>
  (call k f___celluloid_field_writer__flag [PV.u, (PV.b (!((a3 == (((r4).1.getD 0 PV.u)).toI) && ((a4 == (((r4).1.getD 1 PV.u)).toI) && ((a5 == (((r4).1.getD 2 PV.u)).toI) && (a6 == (((r4).1.getD 3 PV.u)).toI))))))] [(t_field_writer, [(PV.s (((((r17).2.getD 0 (0, []))).2.getD 0 PV.u)).toS), (PV.i (((((r17).2.getD 0 (0, []))).2.getD 1 PV.u)).toI)])]).bind fun r18 =>
  (call k f___celluloid_field_writer__signed [PV.u, (PV.i (4 : Int)), (PV.l [])] [(t_field_writer, [(PV.s (((((r18).2.getD 0 (0, []))).2.getD 0 PV.u)).toS), (PV.i (((((r18).2.getD 0 (0, []))).2.getD 1 PV.u)).toI)])]).bind fun r19 =>
  (call k f___celluloid_field_writer__done [PV.u] [(t_field_writer, [(PV.s (((((r19).2.getD 0 (0, []))).2.getD 0 PV.u)).toS), (PV.i (((((r19).2.getD 0 (0, []))).2.getD 1 PV.u)).toI)])]).bind fun r20 =>
  some ([(PV.s (((r20).1.getD 0 PV.u)).toS), (PV.i (((r20).1.getD 1 PV.u)).toI), (PV.i (0 : Int))], [])))) := by kernel_rfl
/- (*celluloid/field.writer).signed -/
noncomputable def S___celluloid_field_writer__signed_L0 (x1 : Int) (x2 : List (List PV)) (x3 : Int) (x4 : Int) (x5 : List UInt8) (x6 : Int) : St := mkSt [(0, .v (.ptr (.p 0) 0)), (6, .v (.int .i64 x1)), (15, .v (.sl 3 x2)), (16, .v (.int .i64 x3)), (17, .v (.int .i64 x4))] [((.p 0), .cells 169 [.str x5, .int .i64 x6])] 1000 35
noncomputable def at___celluloid_field_writer__signed_L0 : List Item := (atLoop Tryz.f71 0)
theorem u___celluloid_field_writer__signed (k : Nat) (a2 : Int) (a3 : List (List PV)) (p0_1 : List UInt8) (p0_2 : Int) : call (k + 1) f___celluloid_field_writer__signed [.u, .i a2, .l a3] [(t_field_writer, [.s p0_1, .i p0_2])] =
  (call k f_bits_Width [(PV.l a3)] []).bind fun r1 =>
  (call k f___celluloid_field_writer__plain [PV.u, (PV.i (((r1).1.getD 0 PV.u)).toI), (PV.i a2)] [(t_field_writer, [(PV.s p0_1), (PV.i p0_2)])]).bind fun r2 =>
  run k f___celluloid_field_writer__signed [t_field_writer] at___celluloid_field_writer__signed_L0 (S___celluloid_field_writer__signed_L0 ((((r1).1.getD 0 PV.u)).toI) (a3) ((((List.length a3) : Nat) : Int)) ((0 : Int)) ((((((r2).2.getD 0 (0, []))).2.getD 0 PV.u)).toS) ((((((r2).2.getD 0 (0, []))).2.getD 1 PV.u)).toI)) := by kernel_rfl
theorem u___celluloid_field_writer__signed_L0 (k : Nat) (x1 : Int) (x2 : List (List PV)) (x3 : Int) (x4 : Int) (x5 : List UInt8) (x6 : Int) : run (k + 1) f___celluloid_field_writer__signed [t_field_writer] at___celluloid_field_writer__signed_L0 (S___celluloid_field_writer__signed_L0 x1 x2 x3 x4 x5 x6) =
  (bif (decide (x4 < x3)) then (bif (inB x4 (List.length x2)) then (call k f_bits_PutSigned [(PV.s x5), (PV.i x6), (PV.i (((elemAt x2 x4).getD 0 PV.u)).toI), (PV.i x1)] []).bind fun r3 =>
  run k f___celluloid_field_writer__signed [t_field_writer] at___celluloid_field_writer__signed_L0 (S___celluloid_field_writer__signed_L0 (x1) (x2) (x3) ((IntKind.wrap .i64 (x4 + (1 : Int)))) ((((r3).1.getD 0 PV.u)).toS) ((((r3).1.getD 1 PV.u)).toI))
  else none)
  else some ([], [(t_field_writer, [(PV.s x5), (PV.i x6)])])) := by kernel_rfl
/- celluloid/field.RightCx -/
theorem u_field_RightCx (k : Nat) (a1 : Int) (a2 : Int) (a3 : Int) (a4 : Int) (a5 : Int) (a6 : Int) (a7 : Int) (a8 : Int) : call (k + 1) f_field_RightCx [.i a1, .i a2, .i a3, .i a4, .i a5, .i a6, .i a7, .i a8] [] =
  (call k f_field_within [(PV.i (-512 : Int)), (PV.i (512 : Int)), (PV.l [[(PV.i a1)], [(PV.i a2)], [(PV.i a3)], [(PV.i a4)]])] []).bind fun r1 =>
  (bif (((r1).1.getD 0 PV.u)).toB then (call k f_field_within [(PV.i (-255 : Int)), (PV.i (255 : Int)), (PV.l [[(PV.i a5)], [(PV.i a6)], [(PV.i a7)], [(PV.i a8)]])] []).bind fun r2 =>
  some ([(PV.b (((r2).1.getD 0 PV.u)).toB)], [])
  else some ([(PV.b false)], [])) := by kernel_rfl
/- (*celluloid/field.writer).plain -/
theorem u___celluloid_field_writer__plain (k : Nat) (a2 : Int) (a3 : Int) (p0_1 : List UInt8) (p0_2 : Int) : call (k + 1) f___celluloid_field_writer__plain [.u, .i a2, .i a3] [(t_field_writer, [.s p0_1, .i p0_2])] =
  (call k f_bits_PutPlain [(PV.s p0_1), (PV.i p0_2), (PV.i a2), (PV.i a3)] []).bind fun r1 =>
  some ([], [(t_field_writer, [(PV.s (((r1).1.getD 0 PV.u)).toS), (PV.i (((r1).1.getD 1 PV.u)).toI)])]) := by kernel_rfl
end Go.AI
