/- Equations of the program's functions: each says what the interpreter answers for a call, by the answers one level below. -/
import Derived.Test.YtnbmjpdiibandaaAiM
import Derived.Test.YtnbmjpdiibandaaProg
import Derived.KernelRfl
set_option linter.unusedVariables false
set_option maxRecDepth 100000
namespace Go.AI
open Go Go.Proofs
def lookA : List (Nat × Nat × Keep) → Nat → Nat → Option Keep
  | [], _, _ => none
  | (f, k, kp) :: l, f', k' => bif Nat.beq f f' && Nat.beq k k' then some kp else lookA l f' k'
def loopTab : List (Nat × Nat × Keep) := [(7, 0, { slots := [(3, .any), (6, .any), (9, .any), (10, .any), (11, .row 28), (12, .row 30), (13, .any), (58, .any), (59, .any), (60, .any), (61, .any), (64, .any), (77, .any), (78, .any), (79, .any), (80, .any), (81, .any), (82, .any), (85, .any), (86, .any), (87, .any), (88, .any), (89, .any), (90, .any), (91, .any), (92, .any), (93, .any), (96, .any)], boxes := [(.n 1 0 0)], r := 1000, own := [] }),
  (7, 2, { slots := [(3, .any), (6, .any), (9, .any), (10, .any), (11, .row 28), (12, .row 30), (14, .any), (58, .any), (59, .any), (60, .any), (61, .any), (64, .any), (77, .any), (78, .any), (79, .any), (80, .any), (81, .any), (82, .any), (85, .any), (86, .any), (87, .any), (88, .any), (89, .any), (90, .any), (91, .any), (92, .any), (93, .any), (96, .any)], boxes := [(.n 1 0 0)], r := 2000, own := [] }),
  (11, 1, { slots := [(1, .any), (3, .any), (68, .pl 81), (69, .any), (70, .any), (85, .any), (86, .any), (87, .any), (90, .any), (91, .any), (92, .any), (95, .any), (96, .any), (97, .any), (98, .any), (101, .any), (102, .any), (103, .any), (104, .any)], boxes := [(.n 1 0 0)], r := 1000, own := [] }),
  (19, 0, { slots := [(0, .pl 28), (1, .pl 30), (5, .any), (35, .any), (36, .any), (37, .any)], boxes := [], r := 1000, own := [] }),
  (19, 2, { slots := [(0, .pl 28), (1, .pl 30), (6, .any), (35, .any), (36, .any), (37, .any)], boxes := [], r := 2000, own := [] }),
  (23, 0, { slots := [(0, .pl 28), (1, .pl 28), (2, .pl 30), (3, .pl 30), (9, .any)], boxes := [], r := 1000, own := [] }),
  (23, 2, { slots := [(2, .pl 30), (3, .pl 30), (10, .any)], boxes := [], r := 2000, own := [] }),
  (43, 0, { slots := [(1, .any), (3, .any), (6, .any), (8, .row 5), (31, .any), (32, .any)], boxes := [(.n 1 0 0), (.n 1 1 0)], r := 1000, own := [] }),
  (87, 1, { slots := [(1, .any), (2, .any), (5, .any), (7, .any), (8, .any)], boxes := [(.n 1 0 0), (.n 1 2 0)], r := 1000, own := [] }),
  (103, 0, { slots := [(1, .any), (3, .any), (6, .any), (8, .any)], boxes := [(.n 1 0 0), (.n 1 1 0)], r := 1000, own := [] }),
  (111, 0, { slots := [(3, .any), (6, .pl 3), (7, .any), (8, .any)], boxes := [], r := 1000, own := [] }),
  (135, 0, { slots := [(1, .any), (2, .any), (5, .any), (7, .any), (8, .any)], boxes := [(.n 1 0 0), (.n 1 2 0)], r := 1000, own := [] }),
  (139, 0, { slots := [(5, .any), (6, .any)], boxes := [], r := 1000, own := [] }),
  (8, 0, { slots := [(7, .any), (8, .any), (9, .any), (10, .any), (11, .any), (50, .pl 65), (51, .any), (52, .any), (58, .any), (59, .any), (60, .any), (64, .any), (65, .any), (66, .any), (72, .any), (73, .any), (77, .any), (78, .any), (79, .any), (80, .any), (81, .any), (82, .any), (83, .any), (84, .any), (85, .any), (86, .any), (87, .any), (90, .any)], boxes := [], r := 1000, own := [] }),
  (12, 1, { slots := [(1, .any), (3, .any), (86, .any), (87, .any), (90, .any), (91, .any), (92, .any), (93, .any), (94, .any), (95, .any), (96, .any), (97, .any), (98, .any), (99, .any), (100, .any), (101, .any), (102, .any), (105, .any), (106, .any), (107, .any), (108, .any), (109, .any), (110, .any), (111, .any), (112, .any), (119, .any), (120, .any), (121, .any), (124, .any), (125, .any), (126, .any), (129, .any), (130, .any), (131, .any), (134, .any), (135, .any), (136, .any), (137, .any), (140, .any), (141, .any), (142, .any), (143, .any), (146, .any), (147, .any), (148, .any)], boxes := [(.n 1 0 0)], r := 1000, own := [] }),
  (16, 0, { slots := [(2, .any), (3, .any), (5, .any)], boxes := [(.n 1 0 0), (.n 1 1 0)], r := 1000, own := [] }),
  (24, 0, { slots := [(1, .any), (4, .any), (5, .row 28), (6, .row 30), (7, .any), (8, .any), (29, .any), (30, .any), (31, .any), (54, .any), (55, .any), (62, .any), (63, .any), (64, .any)], boxes := [(.n 1 0 0), (.n 1 3 0)], r := 1000, own := [] }),
  (24, 2, { slots := [(1, .any), (4, .any), (5, .row 28), (6, .row 30), (7, .any), (10, .any), (62, .any), (63, .any), (64, .any)], boxes := [(.n 1 0 0), (.n 1 3 0)], r := 2000, own := [] }),
  (28, 0, { slots := [(0, .any), (1, .any), (3, .any), (27, .pl 65), (28, .any), (29, .any), (39, .any), (40, .any), (41, .any), (42, .any), (43, .any), (44, .any), (45, .any), (48, .any), (49, .any), (50, .any), (51, .any), (52, .any), (53, .any), (54, .any)], boxes := [], r := 1000, own := [] }),
  (40, 0, { slots := [(0, .pl 81), (1, .pl 81), (12, .any), (13, .any)], boxes := [], r := 1000, own := [] }),
  (60, 0, { slots := [(10, .any), (12, .any), (30, .pl 65), (31, .any), (32, .any)], boxes := [(.n 1 1 0), (.n 3 3 0)], r := 1000, own := [] }),
  (64, 0, { slots := [(5, .any), (7, .any), (8, .any), (9, .any), (10, .any), (11, .any)], boxes := [(.n 1 2 0), (.n 3 7 0)], r := 1000, own := [] }),
  (76, 0, { slots := [(2, .pl 3), (3, .any), (6, .any), (7, .any), (8, .any)], boxes := [(.n 1 0 0), (.n 1 1 0)], r := 1000, own := [] }),
  (80, 0, { slots := [(5, .any), (7, .any), (8, .any), (9, .any), (10, .any), (11, .any)], boxes := [(.n 1 2 0), (.n 3 7 0)], r := 1000, own := [] }),
  (100, 0, { slots := [(0, .any), (6, .any), (15, .pl 3), (16, .any), (17, .any)], boxes := [(.p 0)], r := 1000, own := [] }),
  (104, 0, { slots := [(0, .pl 3), (3, .any), (4, .any)], boxes := [], r := 1000, own := [] }),
  (108, 0, { slots := [(0, .any), (3, .any), (4, .any)], boxes := [], r := 1000, own := [] }),
  (112, 0, { slots := [(0, .any), (1, .any), (8, .pl 3), (9, .any), (10, .any)], boxes := [(.p 0)], r := 1000, own := [] }),
  (120, 0, { slots := [(0, .pl 3), (1, .any), (7, .any), (8, .any)], boxes := [(.p 0), (.p 1)], r := 1000, own := [] }),
  (132, 0, { slots := [(2, .any), (3, .any), (7, .any), (8, .any), (9, .row 3), (10, .any)], boxes := [(.n 1 0 0), (.n 1 2 0)], r := 1000, own := [] }),
  (17, 0, { slots := [(0, .pl 28), (1, .pl 30), (5, .any), (23, .any), (24, .any), (25, .any)], boxes := [], r := 1000, own := [] }),
  (21, 0, { slots := [(0, .any), (1, .pl 28), (2, .pl 30), (7, .any), (53, .any), (54, .any), (55, .any)], boxes := [], r := 1000, own := [] }),
  (21, 2, { slots := [(0, .any), (1, .pl 28), (2, .pl 30), (7, .any), (8, .any), (9, .any), (53, .any), (54, .any), (55, .any)], boxes := [(.n 1001 4 0)], r := 2000, own := [] }),
  (21, 4, { slots := [(0, .any), (2, .pl 30), (10, .any)], boxes := [], r := 3000, own := [] }),
  (25, 0, { slots := [(13, .pl 3), (14, .any), (15, .any), (22, .any), (23, .any)], boxes := [], r := 1000, own := [] }),
  (61, 0, { slots := [(3, .any), (9, .any), (14, .any)], boxes := [(.n 1 2 0), (.n 4 6 0)], r := 1000, own := [((.n 4 6 0), 7)] }),
  (69, 0, { slots := [(0, .any), (1, .any), (9, .pl 3), (10, .any), (11, .any), (19, .any), (20, .any), (21, .any)], boxes := [], r := 1000, own := [] }),
  (73, 0, { slots := [(0, .pl 28), (1, .any), (7, .any), (8, .any)], boxes := [], r := 1000, own := [] }),
  (113, 0, { slots := [(0, .any), (3, .any), (4, .any), (16, .pl 3), (17, .any), (18, .any)], boxes := [(.p 0), (.n 1 0 0)], r := 1000, own := [] }),
  (113, 2, { slots := [(0, .any), (39, .pl 3), (40, .any), (41, .any)], boxes := [(.p 0)], r := 2000, own := [] }),
  (121, 0, { slots := [(0, .pl 30), (1, .pl 30), (12, .any), (13, .any)], boxes := [], r := 1000, own := [] }),
  (129, 0, { slots := [(1, .any), (2, .any), (6, .any), (7, .any), (8, .any), (9, .any)], boxes := [(.n 1 0 0), (.n 1 1 0)], r := 1000, own := [] }),
  (18, 0, { slots := [(2, .pl 30), (3, .any), (6, .any), (21, .pl 28), (22, .any), (23, .any)], boxes := [(.n 1 0 0), (.n 1 1 0)], r := 1000, own := [] }),
  (18, 2, { slots := [(3, .any), (6, .any), (35, .pl 30), (36, .any), (37, .any)], boxes := [(.n 1 0 0), (.n 1 1 0)], r := 2000, own := [] }),
  (22, 0, { slots := [(4, .any), (6, .any), (7, .row 28), (8, .row 30), (14, .any), (15, .any)], boxes := [(.n 1 3 0), (.n 2 2 0)], r := 1000, own := [] }),
  (22, 2, { slots := [(4, .any), (6, .any), (7, .row 28), (8, .row 30), (24, .any), (25, .any)], boxes := [(.n 1 3 0), (.n 2 2 0)], r := 2000, own := [] }),
  (26, 0, { slots := [(0, .pl 65), (1, .any), (5, .any), (11, .any), (12, .any), (13, .any)], boxes := [], r := 1000, own := [] }),
  (42, 1, { slots := [(2, .any), (4, .any), (28, .pl 81), (29, .any), (30, .any)], boxes := [(.n 1 0 0), (.n 1 2 0)], r := 1000, own := [] }),
  (54, 1, { slots := [(0, .any), (2, .any), (3, .any), (5, .any), (69, .any), (70, .any), (81, .any), (82, .any), (83, .any), (84, .any)], boxes := [(.p 0), (.n 1 0 0), (.n 2 3 0)], r := 1000, own := [((.n 1 0 0), 12), ((.n 2 3 0), 12)] }),
  (58, 1, { slots := [(1, .any), (2, .any), (3, .any), (4, .any), (6, .any), (7, .any), (88, .any), (89, .any), (90, .any), (105, .any), (106, .any), (109, .any), (110, .any), (111, .any), (112, .any), (113, .any), (114, .any), (115, .any), (116, .any), (117, .any), (118, .any)], boxes := [(.n 1 0 0), (.n 1 1 0), (.n 1 2 0), (.n 2 1 0)], r := 1000, own := [((.n 1 1 0), 12), ((.n 2 1 0), 12)] }),
  (66, 0, { slots := [(0, .pl 65), (1, .pl 65), (5, .any), (33, .any), (34, .any), (35, .any), (36, .any), (37, .any), (40, .any), (41, .any), (42, .any), (43, .any), (44, .any), (47, .any), (48, .any), (49, .any), (50, .any), (51, .any), (54, .any), (55, .any), (56, .any), (57, .any), (58, .any), (61, .any), (62, .any), (63, .any), (64, .any), (65, .any), (68, .any), (69, .any), (70, .any), (71, .any), (72, .any), (75, .any), (76, .any), (77, .any), (78, .any), (79, .any)], boxes := [], r := 1000, own := [] }),
  (74, 0, { slots := [(0, .pl 30), (1, .any), (7, .any), (8, .any)], boxes := [], r := 1000, own := [] }),
  (94, 0, { slots := [(2, .any), (3, .any), (23, .any), (24, .any), (46, .any), (47, .any), (48, .any), (49, .any), (50, .any), (53, .any), (54, .any), (55, .any), (56, .any), (57, .any), (60, .any), (61, .any), (62, .any), (63, .any), (64, .any), (67, .any), (68, .any), (69, .any), (70, .any), (71, .any), (74, .any), (75, .any), (76, .any), (77, .any), (78, .any), (81, .any), (82, .any), (83, .any), (84, .any), (85, .any), (88, .any), (89, .any), (90, .any), (91, .any), (92, .any)], boxes := [(.n 1 0 0), (.n 1 1 0)], r := 1000, own := [] }),
  (110, 0, { slots := [(3, .any), (6, .pl 3), (7, .any), (8, .any)], boxes := [], r := 1000, own := [] }),
  (114, 0, { slots := [(1, .any), (3, .any), (6, .any), (8, .row 5), (9, .any)], boxes := [(.n 1 0 0), (.n 1 1 0)], r := 1000, own := [] }),
  (126, 0, { slots := [(0, .any), (3, .any), (7, .any), (8, .any), (11, .any), (12, .any), (13, .any), (14, .any), (15, .any), (16, .any), (17, .any), (18, .any), (19, .any), (20, .any), (21, .any), (22, .any), (23, .any), (24, .any), (25, .any), (26, .any), (27, .any), (28, .any), (29, .any), (30, .any), (31, .any), (32, .any), (35, .any), (36, .any), (37, .any), (38, .any), (39, .any), (40, .any), (41, .any), (42, .any), (43, .any), (44, .any), (45, .any)], boxes := [], r := 1000, own := [] })]
def cutTab : List (Nat × Nat × Keep) := [(91, 6, { slots := [(0, .any), (1, .any), (6, .any), (83, .any), (84, .any), (85, .any), (86, .any), (87, .any), (88, .any), (89, .any), (90, .any), (91, .any), (92, .any), (93, .any), (94, .any), (95, .any), (96, .any), (97, .any), (98, .any), (99, .any), (100, .any), (101, .any), (102, .any), (103, .any), (104, .any), (105, .any), (106, .any), (107, .any), (108, .any), (109, .any), (110, .any)], boxes := [(.p 0), (.n 2 1 0)], r := 1000, own := [((.p 0), 7), ((.n 2 1 0), 8), ((.n 2 1 0), 9)] }),
  (91, 9, { slots := [(0, .any), (1, .any), (6, .any), (8, .any), (83, .any), (84, .any), (85, .any), (86, .any), (87, .any), (88, .any), (89, .any), (90, .any), (91, .any), (92, .any), (93, .any), (94, .any), (95, .any), (96, .any), (97, .any), (98, .any), (99, .any), (100, .any), (101, .any), (102, .any), (103, .any), (104, .any), (105, .any), (106, .any), (107, .any), (108, .any), (109, .any), (110, .any)], boxes := [(.p 0), (.n 2 1 0), (.n 1000 1 0)], r := 2000, own := [((.p 0), 7), ((.n 2 1 0), 8), ((.n 2 1 0), 9), ((.n 1000 1 0), 8), ((.n 1000 1 0), 9)] }),
  (91, 11, { slots := [(0, .any), (1, .any), (6, .any), (8, .any), (83, .any), (84, .any), (85, .any), (86, .any), (87, .any), (88, .any), (89, .any), (90, .any), (91, .any), (92, .any), (93, .any), (94, .any), (95, .any), (96, .any), (97, .any), (98, .any), (99, .any), (100, .any), (101, .any), (102, .any), (103, .any), (104, .any), (105, .any), (106, .any), (107, .any), (108, .any), (109, .any), (110, .any)], boxes := [(.p 0), (.n 2 1 0), (.n 1000 1 0)], r := 3000, own := [((.p 0), 7), ((.n 2 1 0), 8), ((.n 2 1 0), 9), ((.n 1000 1 0), 8), ((.n 1000 1 0), 9)] }),
  (91, 13, { slots := [(0, .any), (1, .any), (6, .any), (8, .any), (83, .any), (84, .any), (85, .any), (86, .any), (87, .any), (88, .any), (89, .any), (90, .any), (91, .any), (92, .any), (93, .any), (94, .any), (95, .any), (96, .any), (97, .any), (98, .any), (99, .any), (100, .any), (101, .any), (102, .any), (103, .any), (104, .any), (105, .any), (106, .any), (107, .any), (108, .any), (109, .any), (110, .any)], boxes := [(.p 0), (.n 2 1 0), (.n 1000 1 0)], r := 4000, own := [((.p 0), 7), ((.n 2 1 0), 8), ((.n 2 1 0), 9), ((.n 1000 1 0), 8), ((.n 1000 1 0), 9)] }),
  (91, 15, { slots := [(0, .any), (1, .any), (6, .any), (8, .any), (83, .any), (84, .any), (85, .any), (86, .any), (87, .any), (88, .any), (89, .any), (90, .any), (91, .any), (92, .any), (93, .any), (94, .any), (95, .any), (96, .any), (97, .any), (98, .any), (99, .any), (100, .any), (101, .any), (102, .any), (103, .any), (104, .any), (105, .any), (106, .any), (107, .any), (108, .any), (109, .any), (110, .any)], boxes := [(.p 0), (.n 2 1 0), (.n 1000 1 0)], r := 5000, own := [((.p 0), 7), ((.n 2 1 0), 8), ((.n 2 1 0), 9), ((.n 1000 1 0), 8), ((.n 1000 1 0), 9)] }),
  (91, 17, { slots := [(0, .any), (1, .any), (6, .any), (8, .any)], boxes := [(.p 0), (.n 2 1 0), (.n 1000 1 0)], r := 6000, own := [((.p 0), 7), ((.n 2 1 0), 8), ((.n 2 1 0), 9), ((.n 1000 1 0), 8), ((.n 1000 1 0), 9)] }),
  (91, 19, { slots := [(0, .any), (1, .any), (8, .any)], boxes := [(.p 0), (.n 1000 1 0)], r := 7000, own := [((.p 0), 7), ((.n 1000 1 0), 8), ((.n 1000 1 0), 9)] })]
def ann : Ann := { loop := lookA loopTab, cut := lookA cutTab, ownT := fun t _ => Nat.beq t 146, ownA := fun f e => false, ownR := fun f e => false, wrT := fun f _ => false }
noncomputable abbrev call (k : Nat) := callAt Try.prog ann k
noncomputable abbrev run (k : Nat) := runAt Try.prog ann k
noncomputable def cW : CallF := callW Try.prog ann
noncomputable def rW : FuncId → List TypeId → List Item → St → Option Res := runW Try.prog ann
theorem cW_fix (f : FuncId) (args : List PV) (bs : List BX) : cW f args bs = stepC Try.prog ann cW rW f args bs := callW_fix _ _ f args bs
theorem rW_fix (f : FuncId) (pts : List TypeId) (t : List Item) (st : St) : rW f pts t st = stepR Try.prog ann cW rW f pts t st := runW_fix _ _ f pts t st
theorem Ans.c {f : FuncId} {ps : List PV} {bs : List BX} {r : Res} (h : Ans (fun k => call k f ps bs) r) : cW f ps bs = some r := h.w
theorem c_at (n : Nat) {f : FuncId} {ps : List PV} {bs : List BX} {r : Res} (h : callAt Try.prog ann n f ps bs = some r) : cW f ps bs = some r := (callW_iff _ _).2 ⟨n, h⟩
theorem ans_c {f : FuncId} {ps : List PV} {bs : List BX} {r : Res} (h : cW f ps bs = some r) : Ans (fun k => call k f ps bs) r := ans_of _ _ h
def f_celluloidlaw09_ShapeKinds : Nat := 8
def f_style_RightFill : Nat := 11
def f_style_RightStroke : Nat := 13
def f_style_SameFill : Nat := 15
def f_celluloidref08_Small : Nat := 17
def f_style_Right : Nat := 20
def f_celluloidref09_Small : Nat := 26
def f_celluloidlaw09_awake : Nat := 27
def f_shape_RightRecords : Nat := 28
def f_field_RightRGBA : Nat := 34
def f_style_picture : Nat := 35
def f_field_RightMatrix : Nat := 36
def f_style_gradient : Nat := 37
def f_style_stop : Nat := 38
def f_slices_Equal___celluloid_api_Stop_celluloid_api_Stop_ : Nat := 40
def f_slices_ContainsFunc___celluloid_api_Fill_celluloid_api_Fill_ : Nat := 45
def f_style_Right_1 : Nat := 46
def f_slices_ContainsFunc___celluloid_api_Stroke_celluloid_api_Stroke_ : Nat := 47
def f_style_Right_2 : Nat := 48
def f_shape_within : Nat := 62
def f_shape_sound : Nat := 63
def f_field_within : Nat := 69
def f_slices_IndexFunc___celluloid_api_Fill_celluloid_api_Fill_ : Nat := 73
def f_slices_IndexFunc___celluloid_api_Stroke_celluloid_api_Stroke_ : Nat := 74
def f_slices_ContainsFunc___int_int_ : Nat := 92
def f_shape_within_1 : Nat := 93
def f_shape_same : Nat := 94
def f_slices_IndexFunc___int_int_ : Nat := 120
def f_slices_Equal___celluloid_api_Stroke_celluloid_api_Stroke_ : Nat := 121
def t_int : Nat := 3
/- celluloid/celluloidref07.Matrix -/
/- celluloid/bits.PutLittle -/
/- celluloid/celluloidref07.PutMatrix -/
/- celluloid/field.PutRect -/
/- celluloid/bits.PutBytes -/
/- celluloid/celluloidref07.flag -/
/- celluloid/field.TakeRGBA -/
/- celluloid/bits.PutAlign -/
/- celluloid/bits.Plain -/
/- celluloid/bits.Bytes -/
/- (*celluloid/field.reader).done -/
/- celluloid/celluloidref02.PutPlain -/
/- celluloid/celluloidref02.Bytes -/
/- celluloid/bits.Width -/
/- celluloid/bits.right -/
/- (*celluloid/field.writer).plain -/
/- celluloid/field.Same -/
/- celluloid/celluloidref07.Begin -/
/- celluloid/celluloidref02.Plain -/
/- celluloid/celluloidref02.Bit -/
/- celluloid/field.RightMatrix -/
theorem u_field_RightMatrix (k : Nat) (a1 : Int) (a2 : Int) (a3 : Int) (a4 : Int) (a5 : Int) (a6 : Int) : call (k + 1) f_field_RightMatrix [.i a1, .i a2, .i a3, .i a4, .i a5, .i a6] [] =
  ((call k f_field_within [(PV.i (-4194304 : Int)), (PV.i (4194304 : Int)), (PV.l (List.set (List.set (List.set (List.set [[(PV.i (0 : Int))], [(PV.i (0 : Int))], [(PV.i (0 : Int))], [(PV.i (0 : Int))]] 0 [(PV.i a1)]) 1 [(PV.i a2)]) 2 [(PV.i a3)]) 3 [(PV.i a4)]))] []).bind fun r1 =>
   (bif (((r1).1.getD 0 PV.u)).toB then (call k f_field_within [(PV.i (-1048576 : Int)), (PV.i (1048576 : Int)), (PV.l (List.set (List.set [[(PV.i (0 : Int))], [(PV.i (0 : Int))]] 0 [(PV.i a5)]) 1 [(PV.i a6)]))] []).bind fun r2 =>
   some [(PV.b (((r2).1.getD 0 PV.u)).toB)]
   else some [(PV.b false)])).bind fun r3 =>
  some ([(PV.b ((r3.getD 0 PV.u)).toB)], []) := by kernel_rfl
/- celluloid/field.PutRGBA -/
/- celluloid/bits.Little -/
/- celluloid/field.RightRect -/
/- celluloid/field.PutMatrix -/
/- celluloid/celluloidref07.numbers -/
/- celluloid/celluloidref02.Little -/
/- celluloid/bits.Align -/
/- celluloid/field.begin -/
/- (*celluloid/field.writer).signed -/
/- celluloid/celluloidref07.width -/
/- celluloid/celluloidref02.Power -/
/- celluloid/bits.PutSigned -/
/- celluloid/celluloidref02.Right -/
/- celluloid/celluloidref07.several -/
/- celluloid/celluloidref07.Signed -/
/- celluloid/celluloidref02.Signed -/
/- celluloid/celluloidref07.RGBA -/
/- celluloid/field.TakeRect -/
/- celluloid/field.within -/
noncomputable def S_field_within_L0 (x1 : Int) (x2 : Int) (x3 : List (List PV)) (x4 : Int) (x5 : Int) : St := mkSt [(0, .v (.int .i64 x1)), (1, .v (.int .i64 x2)), (9, .v (.sl 3 x3)), (10, .v (.int .i64 x4)), (11, .v (.int .i64 x5)), (19, .any), (20, .any), (21, .any)] [] 1000 24
noncomputable def at_field_within_L0 : List Item := (atLoop Try.f69 0)
theorem u_field_within (k : Nat) (a1 : Int) (a2 : Int) (a3 : List (List PV)) : call (k + 1) f_field_within [.i a1, .i a2, .l a3] [] =
  run k f_field_within [] at_field_within_L0 (S_field_within_L0 (a1) (a2) (a3) ((((List.length a3) : Nat) : Int)) ((0 : Int))) := by kernel_rfl
theorem u_field_within_L0 (k : Nat) (x1 : Int) (x2 : Int) (x3 : List (List PV)) (x4 : Int) (x5 : Int) : run (k + 1) f_field_within [] at_field_within_L0 (S_field_within_L0 x1 x2 x3 x4 x5) =
  (bif (decide (x5 < x4)) then (bif (inB x5 (List.length x3)) then ((bif (decide ((((elemAt x3 x5).getD 0 PV.u)).toI < x1)) then some [(PV.b true)]
   else some [(PV.b (decide ((((elemAt x3 x5).getD 0 PV.u)).toI > x2)))])).bind fun r1 =>
  (bif ((r1.getD 0 PV.u)).toB then some ([(PV.b false)], [])
  else run k f_field_within [] at_field_within_L0 (S_field_within_L0 (x1) (x2) (x3) (x4) ((IntKind.wrap .i64 (x5 + (1 : Int))))))
  else none)
  else some ([(PV.b true)], [])) := by kernel_rfl
/- (*celluloid/field.reader).plain -/
/- (*celluloid/field.writer).done -/
/- celluloid/celluloidref02.PutSigned -/
/- celluloid/celluloidref07.TakeMatrix -/
/- celluloid/celluloidref02.put -/
/- celluloid/celluloidref02.Align -/
/- celluloid/celluloidref07.Done -/
/- math/bits.Len32 -/
/- celluloid/field.RightRGBA -/
theorem u_field_RightRGBA (k : Nat) (a1 : Int) (a2 : Int) (a3 : Int) (a4 : Int) : call (k + 1) f_field_RightRGBA [.i a1, .i a2, .i a3, .i a4] [] =
  (call k f_field_within [(PV.i (0 : Int)), (PV.i (255 : Int)), (PV.l (List.set (List.set (List.set (List.set [[(PV.i (0 : Int))], [(PV.i (0 : Int))], [(PV.i (0 : Int))], [(PV.i (0 : Int))]] 0 [(PV.i a1)]) 1 [(PV.i a2)]) 2 [(PV.i a3)]) 3 [(PV.i a4)]))] []).bind fun r1 =>
  some ([(PV.b (((r1).1.getD 0 PV.u)).toB)], []) := by kernel_rfl
/- celluloid/celluloidref07.PutRGBA -/
/- celluloid/celluloidref07.in -/
/- celluloid/celluloidref07.TakeRGBA -/
/- (*celluloid/field.reader).signed -/
/- (*celluloid/field.writer).flag -/
/- celluloid/field.TakeMatrix -/
/- celluloid/bits.PlainWidth -/
/- celluloid/bits.PutPlain -/
/- celluloid/bits.Signed -/
/- celluloid/celluloidref02.Width -/
/- celluloid/celluloidref07.Plain -/
/- math/bits.Len -/
/- math/bits.Len64 -/
end Go.AI
