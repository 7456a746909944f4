/- Equations of the program's functions: each says what the interpreter answers for a call, by the answers one level below. -/
import Derived.Test.YtkclfiliefadlaaAiM
import Derived.Test.YtkclfiliefadlaaProg
import Derived.KernelRfl
set_option linter.unusedVariables false
set_option maxRecDepth 100000
namespace Go.AI
open Go Go.Proofs
def lookA : List (Nat × Nat × Keep) → Nat → Nat → Option Keep
  | [], _, _ => none
  | (f, k, kp) :: l, f', k' => bif Nat.beq f f' && Nat.beq k k' then some kp else lookA l f' k'
def loopTab : List (Nat × Nat × Keep) := [(7, 0, { slots := [(1, .any), (2, .any), (5, .any), (7, .any), (9, .any), (10, .any), (74, .any), (75, .any), (84, .any), (85, .any), (86, .any), (87, .any), (88, .any), (91, .any), (92, .any), (93, .any), (94, .any), (95, .any), (96, .any), (97, .any), (98, .any), (99, .any), (100, .any), (101, .any), (104, .any), (105, .any), (106, .any), (107, .any), (108, .any), (109, .any), (110, .any), (111, .any), (112, .any), (113, .any), (114, .any), (122, .any), (123, .any), (126, .any), (136, .any), (137, .any), (138, .any), (139, .any), (140, .any), (141, .any), (142, .any), (145, .any), (146, .any), (147, .any), (148, .any), (149, .any), (150, .any), (151, .any), (183, .any), (184, .any), (185, .any), (186, .any), (187, .any), (188, .any), (189, .any), (190, .any), (193, .any), (194, .any), (195, .any), (196, .any), (197, .any), (198, .any), (199, .any), (200, .any), (203, .any), (204, .any), (205, .any), (206, .any), (207, .any), (208, .any), (209, .any), (210, .any), (213, .any), (214, .any), (215, .any), (216, .any), (217, .any), (218, .any), (219, .any), (220, .any), (223, .any), (224, .any), (225, .any), (226, .any), (227, .any), (228, .any), (229, .any), (230, .any), (243, .any), (244, .any), (245, .any), (246, .any), (247, .any), (248, .any), (254, .any)], boxes := [(.n 1 0 0), (.n 3 5 0), (.n 4 5 0), (.n 5 6 0)], r := 1000, own := [] }),
  (7, 2, { slots := [(2, .any), (5, .any), (7, .any), (9, .any), (155, .any), (156, .any), (183, .any), (184, .any), (185, .any), (186, .any), (187, .any), (188, .any), (189, .any), (190, .any), (193, .any), (194, .any), (195, .any), (196, .any), (197, .any), (198, .any), (199, .any), (200, .any), (203, .any), (204, .any), (205, .any), (206, .any), (207, .any), (208, .any), (209, .any), (210, .any), (213, .any), (214, .any), (215, .any), (216, .any), (217, .any), (218, .any), (219, .any), (220, .any), (223, .any), (224, .any), (225, .any), (226, .any), (227, .any), (228, .any), (229, .any), (230, .any), (243, .any), (244, .any), (245, .any), (246, .any), (247, .any), (248, .any), (254, .any)], boxes := [(.n 1 0 0), (.n 3 5 0), (.n 4 5 0), (.n 5 6 0)], r := 2000, own := [] }),
  (31, 0, { slots := [(0, .pl 46), (1, .pl 46), (5, .any), (33, .any), (34, .any), (35, .any), (36, .any), (37, .any), (40, .any), (41, .any), (42, .any), (43, .any), (44, .any), (47, .any), (48, .any), (49, .any), (50, .any), (51, .any), (54, .any), (55, .any), (56, .any), (57, .any), (58, .any), (61, .any), (62, .any), (63, .any), (64, .any), (65, .any), (68, .any), (69, .any), (70, .any), (71, .any), (72, .any), (75, .any), (76, .any), (77, .any), (78, .any), (79, .any)], boxes := [], r := 1000, own := [] }),
  (39, 0, { slots := [(2, .any), (3, .any), (23, .any), (24, .any), (46, .any), (47, .any), (48, .any), (49, .any), (50, .any), (53, .any), (54, .any), (55, .any), (56, .any), (57, .any), (60, .any), (61, .any), (62, .any), (63, .any), (64, .any), (67, .any), (68, .any), (69, .any), (70, .any), (71, .any), (74, .any), (75, .any), (76, .any), (77, .any), (78, .any), (81, .any), (82, .any), (83, .any), (84, .any), (85, .any), (88, .any), (89, .any), (90, .any), (91, .any), (92, .any)], boxes := [(.n 1 0 0), (.n 1 1 0)], r := 1000, own := [] }),
  (71, 0, { slots := [(0, .pl 66), (1, .any), (7, .any), (8, .any)], boxes := [], r := 1000, own := [] }),
  (16, 0, { slots := [(1, .any), (2, .any), (4, .any), (6, .any), (7, .any)], boxes := [(.n 1 0 0), (.n 1 1 0), (.n 2 3 0)], r := 1000, own := [((.n 1 1 0), 5), ((.n 1 1 0), 6), ((.n 1 1 0), 7), ((.n 2 3 0), 5), ((.n 2 3 0), 6), ((.n 2 3 0), 7)] }),
  (16, 2, { slots := [(1, .any), (2, .any), (4, .any), (6, .any), (7, .any), (8, .any), (9, .any), (12, .any), (13, .any)], boxes := [(.n 1 0 0), (.n 1 1 0), (.n 2 3 0), (.n 1001 10 0), (.n 1001 11 0), (.n 1003 1 0)], r := 2000, own := [((.n 1 1 0), 5), ((.n 1 1 0), 6), ((.n 1 1 0), 7), ((.n 2 3 0), 5), ((.n 2 3 0), 6), ((.n 2 3 0), 7), ((.n 1003 1 0), 12)] }),
  (16, 4, { slots := [(1, .any), (2, .any), (4, .any), (6, .any), (14, .any)], boxes := [(.n 1 0 0), (.n 1 1 0), (.n 2 3 0)], r := 3000, own := [((.n 1 1 0), 5), ((.n 1 1 0), 6), ((.n 1 1 0), 7), ((.n 2 3 0), 5), ((.n 2 3 0), 6), ((.n 2 3 0), 7)] }),
  (16, 6, { slots := [(1, .any), (2, .any), (4, .any), (6, .any), (17, .any), (18, .any)], boxes := [(.n 1 0 0), (.n 1 1 0), (.n 2 3 0)], r := 4000, own := [((.n 1 1 0), 5), ((.n 1 1 0), 6), ((.n 1 1 0), 7), ((.n 2 3 0), 5), ((.n 2 3 0), 6), ((.n 2 3 0), 7)] }),
  (28, 0, { slots := [(0, .pl 66), (1, .pl 54), (5, .any), (35, .any), (36, .any), (37, .any)], boxes := [], r := 1000, own := [] }),
  (28, 2, { slots := [(0, .pl 66), (1, .pl 54), (6, .any), (35, .any), (36, .any), (37, .any)], boxes := [], r := 2000, own := [] }),
  (56, 1, { slots := [(1, .any), (3, .any), (68, .pl 70), (69, .any), (70, .any), (85, .any), (86, .any), (87, .any), (90, .any), (91, .any), (92, .any), (95, .any), (96, .any), (97, .any), (98, .any), (101, .any), (102, .any), (103, .any), (104, .any)], boxes := [(.n 1 0 0)], r := 1000, own := [] }),
  (68, 0, { slots := [(13, .pl 3), (14, .any), (15, .any), (22, .any), (23, .any)], boxes := [], r := 1000, own := [] }),
  (5, 0, { slots := [(1, .any), (2, .any), (5, .any), (6, .any), (32, .any), (33, .any), (72, .any), (73, .any), (76, .any), (77, .any), (80, .any), (86, .any)], boxes := [(.n 1 0 0), (.n 2 17 0)], r := 1000, own := [((.n 2 17 0), 14)] }),
  (13, 0, { slots := [(1, .any), (2, .any), (4, .any), (6, .any), (42, .pl 66), (43, .any), (44, .any)], boxes := [(.n 1 0 0), (.n 1 1 0), (.n 3 9 0)], r := 1000, own := [((.n 1 1 0), 5), ((.n 1 1 0), 6), ((.n 1 1 0), 7), ((.n 3 9 0), 5), ((.n 3 9 0), 6), ((.n 3 9 0), 7)] }),
  (13, 2, { slots := [(1, .any), (2, .any), (4, .any), (6, .any), (9, .any), (10, .any), (42, .pl 66), (43, .any), (44, .any), (74, .pl 70), (75, .any), (76, .any)], boxes := [(.n 1 0 0), (.n 1 1 0), (.n 3 9 0), (.n 1002 5 0), (.n 1003 19 0)], r := 2000, own := [((.n 1 1 0), 5), ((.n 1 1 0), 6), ((.n 1 1 0), 7), ((.n 3 9 0), 5), ((.n 3 9 0), 6), ((.n 3 9 0), 7), ((.n 1003 19 0), 12)] }),
  (13, 4, { slots := [(1, .any), (2, .any), (4, .any), (6, .any), (116, .pl 54), (117, .any), (118, .any)], boxes := [(.n 1 0 0), (.n 1 1 0), (.n 3 9 0)], r := 3000, own := [((.n 1 1 0), 5), ((.n 1 1 0), 6), ((.n 1 1 0), 7), ((.n 3 9 0), 5), ((.n 3 9 0), 6), ((.n 3 9 0), 7)] }),
  (13, 6, { slots := [(1, .any), (2, .any), (4, .any), (6, .any), (15, .any), (151, .pl 46), (152, .any), (153, .any)], boxes := [(.n 1 0 0), (.n 1 1 0), (.n 3 9 0)], r := 4000, own := [((.n 1 1 0), 5), ((.n 1 1 0), 6), ((.n 1 1 0), 7), ((.n 3 9 0), 5), ((.n 3 9 0), 6), ((.n 3 9 0), 7)] }),
  (21, 0, { slots := [(0, .pl 66), (1, .pl 54), (5, .any), (23, .any), (24, .any), (25, .any)], boxes := [], r := 1000, own := [] }),
  (29, 0, { slots := [(0, .any), (1, .any), (2, .pl 46), (3, .any), (9, .any), (43, .any), (44, .any), (45, .any), (46, .any), (47, .any), (48, .any), (49, .any), (50, .any), (51, .any), (52, .any), (55, .any), (56, .any), (57, .any), (58, .any), (59, .any), (60, .any), (61, .any), (62, .any), (63, .any), (64, .any)], boxes := [], r := 1000, own := [] }),
  (37, 0, { slots := [(0, .any), (1, .any), (3, .any), (27, .pl 46), (28, .any), (29, .any), (39, .any), (40, .any), (41, .any), (42, .any), (43, .any), (44, .any), (45, .any), (48, .any), (49, .any), (50, .any), (51, .any), (52, .any), (53, .any), (54, .any)], boxes := [], r := 1000, own := [] }),
  (41, 0, { slots := [(1, .pl 66), (2, .any), (15, .pl 66), (16, .any), (17, .any)], boxes := [], r := 1000, own := [] }),
  (45, 1, { slots := [(1, .any), (3, .any), (86, .any), (87, .any), (90, .any), (91, .any), (92, .any), (93, .any), (94, .any), (95, .any), (96, .any), (97, .any), (98, .any), (99, .any), (100, .any), (101, .any), (102, .any), (105, .any), (106, .any), (107, .any), (108, .any), (109, .any), (110, .any), (111, .any), (112, .any), (119, .any), (120, .any), (121, .any), (124, .any), (125, .any), (126, .any), (129, .any), (130, .any), (131, .any), (134, .any), (135, .any), (136, .any), (137, .any), (140, .any), (141, .any), (142, .any), (143, .any), (146, .any), (147, .any), (148, .any)], boxes := [(.n 1 0 0)], r := 1000, own := [] }),
  (49, 0, { slots := [(2, .any), (3, .any), (5, .any)], boxes := [(.n 1 0 0), (.n 1 1 0)], r := 1000, own := [] }),
  (53, 0, { slots := [(0, .any), (1, .any), (9, .pl 3), (10, .any), (11, .any), (19, .any), (20, .any), (21, .any)], boxes := [], r := 1000, own := [] }),
  (61, 0, { slots := [(0, .pl 54), (1, .pl 54), (12, .any), (13, .any)], boxes := [], r := 1000, own := [] }),
  (77, 0, { slots := [(0, .pl 54), (1, .any), (7, .any), (8, .any)], boxes := [], r := 1000, own := [] }),
  (14, 0, { slots := [(1, .any), (3, .any), (68, .any), (69, .any), (70, .any), (71, .any), (72, .any), (75, .any), (76, .any), (77, .any), (78, .any), (79, .any), (82, .any), (83, .any), (84, .any), (85, .any), (86, .any), (87, .any), (88, .any), (96, .any), (97, .any), (98, .any), (99, .any), (100, .any), (104, .any), (105, .any), (106, .any), (107, .any), (108, .any), (109, .any), (110, .any), (111, .any), (112, .any), (115, .any), (116, .any), (117, .any)], boxes := [(.n 1 0 0)], r := 1000, own := [] }),
  (22, 0, { slots := [(0, .pl 46), (1, .any), (5, .any), (11, .any), (12, .any), (13, .any)], boxes := [], r := 1000, own := [] }),
  (30, 0, { slots := [(0, .pl 66), (1, .pl 66), (2, .pl 54), (3, .pl 54), (9, .any)], boxes := [], r := 1000, own := [] }),
  (30, 2, { slots := [(2, .pl 54), (3, .pl 54), (10, .any)], boxes := [], r := 2000, own := [] }),
  (38, 0, { slots := [(1, .pl 46), (2, .any), (15, .pl 46), (16, .any), (17, .any)], boxes := [], r := 1000, own := [] }),
  (66, 0, { slots := [(2, .any), (8, .any), (9, .any), (10, .any), (11, .any), (13, .any), (14, .any), (15, .any), (16, .any), (70, .any), (71, .any), (72, .any), (73, .any), (74, .any), (75, .any), (76, .any), (77, .any), (105, .any), (106, .any), (107, .any), (108, .any), (109, .any), (110, .any), (111, .any), (112, .any)], boxes := [], r := 1000, own := [] }),
  (66, 2, { slots := [(2, .any), (8, .any), (9, .any), (10, .any), (14, .any), (15, .any), (16, .any), (17, .any), (18, .any), (105, .any), (106, .any), (107, .any), (108, .any), (109, .any), (110, .any), (111, .any), (112, .any)], boxes := [], r := 2000, own := [] }),
  (70, 0, { slots := [(0, .pl 3), (1, .any), (7, .any), (8, .any)], boxes := [(.p 0), (.p 1)], r := 1000, own := [] }),
  (78, 0, { slots := [(0, .pl 70), (1, .pl 70), (12, .any), (13, .any)], boxes := [], r := 1000, own := [] })]
def cutTab : List (Nat × Nat × Keep) := [(5, 7, { slots := [(1, .any), (2, .any), (5, .any), (72, .any), (73, .any), (76, .any), (77, .any), (80, .any), (86, .any)], boxes := [(.n 1 0 0), (.n 2 17 0)], r := 2000, own := [] })]
def ann : Ann := { loop := lookA loopTab, cut := lookA cutTab, ownT := fun t _ => Nat.beq t 9999, ownA := fun f e => false, ownR := fun f e => false, wrT := fun f _ => false }
noncomputable abbrev call (k : Nat) := callAt Try.prog ann k
noncomputable abbrev run (k : Nat) := runAt Try.prog ann k
noncomputable def cW : CallF := callW Try.prog ann
noncomputable def rW : FuncId → List TypeId → List Item → St → Option Res := runW Try.prog ann
theorem cW_fix (f : FuncId) (args : List PV) (bs : List BX) : cW f args bs = stepC Try.prog ann cW rW f args bs := callW_fix _ _ f args bs
theorem rW_fix (f : FuncId) (pts : List TypeId) (t : List Item) (st : St) : rW f pts t st = stepR Try.prog ann cW rW f pts t st := runW_fix _ _ f pts t st
theorem Ans.c {f : FuncId} {ps : List PV} {bs : List BX} {r : Res} (h : Ans (fun k => call k f ps bs) r) : cW f ps bs = some r := h.w
theorem c_at (n : Nat) {f : FuncId} {ps : List PV} {bs : List BX} {r : Res} (h : callAt Try.prog ann n f ps bs = some r) : cW f ps bs = some r := (callW_iff _ _).2 ⟨n, h⟩
theorem ans_c {f : FuncId} {ps : List PV} {bs : List BX} {r : Res} (h : cW f ps bs = some r) : Ans (fun k => call k f ps bs) r := ans_of _ _ h
def f_celluloidlaw10_MorphEnds : Nat := 7
def f_morph_Between : Nat := 8
def f_celluloidlaw10_awake : Nat := 10
def f_celluloidref10_Small : Nat := 11
def f_celluloidlaw10_ref : Nat := 12
def f_morph_At : Nat := 13
def f_shape_Right : Nat := 17
def f_shape_SameRecords : Nat := 18
def f_fix_Floor : Nat := 19
def f_morph_Right : Nat := 20
def f_celluloidref08_Small : Nat := 21
def f_celluloidref09_Small : Nat := 22
def f_morph_rect : Nat := 23
def f_morph_color : Nat := 24
def f_morph_matrix : Nat := 25
def f_morph_record : Nat := 26
def f_shape_within : Nat := 34
def f_field_RightRect : Nat := 35
def f_style_Right : Nat := 36
def f_shape_RightRecords : Nat := 37
def f_slices_EqualFunc___celluloid_api_Record___celluloid_api_Record_celluloid_api_Record_celluloid_api_Record_ : Nat := 38
def f_shape_same : Nat := 39
def f_fix_MulDiv : Nat := 40
def f_slices_EqualFunc___celluloid_api_Fill___celluloid_api_Fill_celluloid_api_Fill_celluloid_api_Fill_ : Nat := 41
def f_morph_pair : Nat := 42
def f_morph_curved : Nat := 43
def f_slices_ContainsFunc___int_int_ : Nat := 51
def f_shape_within_1 : Nat := 52
def f_field_within : Nat := 53
def f_slices_ContainsFunc___celluloid_api_Fill_celluloid_api_Fill_ : Nat := 54
def f_style_Right_1 : Nat := 55
def f_style_RightFill : Nat := 56
def f_slices_ContainsFunc___celluloid_api_Stroke_celluloid_api_Stroke_ : Nat := 57
def f_style_Right_2 : Nat := 58
def f_style_RightStroke : Nat := 59
def f_shape_sound : Nat := 60
def f_slices_Equal___celluloid_api_Stroke_celluloid_api_Stroke_ : Nat := 61
def f_style_SameFill : Nat := 62
def f_fix_times : Nat := 63
def f__celluloid_fix_wide__abs : Nat := 64
def f_fix_size : Nat := 65
def f_math_bits_Div64 : Nat := 66
def f_fix_narrowed : Nat := 67
def f_slices_IndexFunc___int_int_ : Nat := 70
def f_slices_IndexFunc___celluloid_api_Fill_celluloid_api_Fill_ : Nat := 71
def f_field_RightRGBA : Nat := 72
def f_style_picture : Nat := 73
def f_field_RightMatrix : Nat := 74
def f_style_gradient : Nat := 75
def f_style_stop : Nat := 76
def f_slices_IndexFunc___celluloid_api_Stroke_celluloid_api_Stroke_ : Nat := 77
def f_slices_Equal___celluloid_api_Stop_celluloid_api_Stop_ : Nat := 78
def f_math_bits_Mul64 : Nat := 79
def f_math_bits_Sub64 : Nat := 80
def f_math_bits_LeadingZeros64 : Nat := 81
def t_int : Nat := 3
/- celluloid/celluloidref07.Rect -/
/- celluloid/field.RightRect -/
theorem u_field_RightRect (k : Nat) (a1 : Int) (a2 : Int) (a3 : Int) (a4 : Int) : call (k + 1) f_field_RightRect [.i a1, .i a2, .i a3, .i a4] [] =
  ((call k f_field_within [(PV.i (-1048576 : Int)), (PV.i (1048576 : Int)), (PV.l (List.set (List.set (List.set (List.set [[(PV.i (0 : Int))], [(PV.i (0 : Int))], [(PV.i (0 : Int))], [(PV.i (0 : Int))]] 0 [(PV.i a1)]) 1 [(PV.i a2)]) 2 [(PV.i a3)]) 3 [(PV.i a4)]))] []).bind fun r1 =>
   (bif (((r1).1.getD 0 PV.u)).toB then (bif (decide (a1 ≤ a2)) then some [(PV.b (decide (a3 ≤ a4)))]
   else some [(PV.b false)])
   else some [(PV.b false)])).bind fun r2 =>
  some ([(PV.b ((r2.getD 0 PV.u)).toB)], []) := by kernel_rfl
/- celluloid/celluloidref07.in -/
/- celluloid/celluloidref07.RGBA -/
/- celluloid/field.RightRGBA -/
theorem u_field_RightRGBA (k : Nat) (a1 : Int) (a2 : Int) (a3 : Int) (a4 : Int) : call (k + 1) f_field_RightRGBA [.i a1, .i a2, .i a3, .i a4] [] =
  (call k f_field_within [(PV.i (0 : Int)), (PV.i (255 : Int)), (PV.l (List.set (List.set (List.set (List.set [[(PV.i (0 : Int))], [(PV.i (0 : Int))], [(PV.i (0 : Int))], [(PV.i (0 : Int))]] 0 [(PV.i a1)]) 1 [(PV.i a2)]) 2 [(PV.i a3)]) 3 [(PV.i a4)]))] []).bind fun r1 =>
  some ([(PV.b (((r1).1.getD 0 PV.u)).toB)], []) := by kernel_rfl
/- celluloid/field.within -/
noncomputable def S_field_within_L0 (x1 : Int) (x2 : Int) (x3 : List (List PV)) (x4 : Int) (x5 : Int) : St := mkSt [(0, .v (.int .i64 x1)), (1, .v (.int .i64 x2)), (9, .v (.sl 3 x3)), (10, .v (.int .i64 x4)), (11, .v (.int .i64 x5)), (19, .any), (20, .any), (21, .any)] [] 1000 24
noncomputable def at_field_within_L0 : List Item := (atLoop Try.f53 0)
theorem u_field_within (k : Nat) (a1 : Int) (a2 : Int) (a3 : List (List PV)) : call (k + 1) f_field_within [.i a1, .i a2, .l a3] [] =
  run k f_field_within [] at_field_within_L0 (S_field_within_L0 (a1) (a2) (a3) ((((List.length a3) : Nat) : Int)) ((0 : Int))) := by kernel_rfl
theorem u_field_within_L0 (k : Nat) (x1 : Int) (x2 : Int) (x3 : List (List PV)) (x4 : Int) (x5 : Int) : run (k + 1) f_field_within [] at_field_within_L0 (S_field_within_L0 x1 x2 x3 x4 x5) =
  (bif (decide (x5 < x4)) then (bif (inB x5 (List.length x3)) then ((bif (decide ((((elemAt x3 x5).getD 0 PV.u)).toI < x1)) then some [(PV.b true)]
   else some [(PV.b (decide ((((elemAt x3 x5).getD 0 PV.u)).toI > x2)))])).bind fun r1 =>
  (bif ((r1.getD 0 PV.u)).toB then some ([(PV.b false)], [])
  else run k f_field_within [] at_field_within_L0 (S_field_within_L0 (x1) (x2) (x3) (x4) ((IntKind.wrap .i64 (x5 + (1 : Int))))))
  else none)
  else some ([(PV.b true)], [])) := by kernel_rfl
/- celluloid/celluloidref07.Matrix -/
/- celluloid/field.RightMatrix -/
theorem u_field_RightMatrix (k : Nat) (a1 : Int) (a2 : Int) (a3 : Int) (a4 : Int) (a5 : Int) (a6 : Int) : call (k + 1) f_field_RightMatrix [.i a1, .i a2, .i a3, .i a4, .i a5, .i a6] [] =
  ((call k f_field_within [(PV.i (-4194304 : Int)), (PV.i (4194304 : Int)), (PV.l (List.set (List.set (List.set (List.set [[(PV.i (0 : Int))], [(PV.i (0 : Int))], [(PV.i (0 : Int))], [(PV.i (0 : Int))]] 0 [(PV.i a1)]) 1 [(PV.i a2)]) 2 [(PV.i a3)]) 3 [(PV.i a4)]))] []).bind fun r1 =>
   (bif (((r1).1.getD 0 PV.u)).toB then (call k f_field_within [(PV.i (-1048576 : Int)), (PV.i (1048576 : Int)), (PV.l (List.set (List.set [[(PV.i (0 : Int))], [(PV.i (0 : Int))]] 0 [(PV.i a5)]) 1 [(PV.i a6)]))] []).bind fun r2 =>
   some [(PV.b (((r2).1.getD 0 PV.u)).toB)]
   else some [(PV.b false)])).bind fun r3 =>
  some ([(PV.b ((r3.getD 0 PV.u)).toB)], []) := by kernel_rfl
end Go.AI
