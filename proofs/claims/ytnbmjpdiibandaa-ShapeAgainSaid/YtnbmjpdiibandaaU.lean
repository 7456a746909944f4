/- Equations of the program's functions: each says what the interpreter answers for a call, by the answers one level below. -/
import Derived.Test.YtnbmjpdiibandaaAiM
import Derived.Test.YtnbmjpdiibandaaProg
import Derived.KernelRfl
set_option linter.unusedVariables false
set_option maxRecDepth 100000
namespace Go.AI
open Go Go.Proofs
def lookA : List (Nat × Nat × Keep) → Nat → Nat → Option Keep
  | [], _, _ => none
  | (f, k, kp) :: l, f', k' => bif Nat.beq f f' && Nat.beq k k' then some kp else lookA l f' k'
def loopTab : List (Nat × Nat × Keep) := [(7, 0, { slots := [(3, .any), (6, .any), (9, .any), (10, .any), (11, .row 28), (12, .row 30), (13, .any), (58, .any), (59, .any), (60, .any), (61, .any), (64, .any), (77, .any), (78, .any), (79, .any), (80, .any), (81, .any), (82, .any), (85, .any), (86, .any), (87, .any), (88, .any), (89, .any), (90, .any), (91, .any), (92, .any), (93, .any), (96, .any)], boxes := [(.n 1 0 0)], r := 1000, own := [] }),
  (7, 2, { slots := [(3, .any), (6, .any), (9, .any), (10, .any), (11, .row 28), (12, .row 30), (14, .any), (58, .any), (59, .any), (60, .any), (61, .any), (64, .any), (77, .any), (78, .any), (79, .any), (80, .any), (81, .any), (82, .any), (85, .any), (86, .any), (87, .any), (88, .any), (89, .any), (90, .any), (91, .any), (92, .any), (93, .any), (96, .any)], boxes := [(.n 1 0 0)], r := 2000, own := [] }),
  (11, 1, { slots := [(1, .any), (3, .any), (68, .pl 81), (69, .any), (70, .any), (85, .any), (86, .any), (87, .any), (90, .any), (91, .any), (92, .any), (95, .any), (96, .any), (97, .any), (98, .any), (101, .any), (102, .any), (103, .any), (104, .any)], boxes := [(.n 1 0 0)], r := 1000, own := [] }),
  (19, 0, { slots := [(0, .pl 28), (1, .pl 30), (5, .any), (35, .any), (36, .any), (37, .any)], boxes := [], r := 1000, own := [] }),
  (19, 2, { slots := [(0, .pl 28), (1, .pl 30), (6, .any), (35, .any), (36, .any), (37, .any)], boxes := [], r := 2000, own := [] }),
  (23, 0, { slots := [(0, .pl 28), (1, .pl 28), (2, .pl 30), (3, .pl 30), (9, .any)], boxes := [], r := 1000, own := [] }),
  (23, 2, { slots := [(2, .pl 30), (3, .pl 30), (10, .any)], boxes := [], r := 2000, own := [] }),
  (43, 0, { slots := [(1, .any), (3, .any), (6, .any), (8, .row 5), (31, .any), (32, .any)], boxes := [(.n 1 0 0), (.n 1 1 0)], r := 1000, own := [] }),
  (87, 1, { slots := [(1, .any), (2, .any), (5, .any), (7, .any), (8, .any)], boxes := [(.n 1 0 0), (.n 1 2 0)], r := 1000, own := [] }),
  (103, 0, { slots := [(1, .any), (3, .any), (6, .any), (8, .any)], boxes := [(.n 1 0 0), (.n 1 1 0)], r := 1000, own := [] }),
  (111, 0, { slots := [(3, .any), (6, .pl 3), (7, .any), (8, .any)], boxes := [], r := 1000, own := [] }),
  (135, 0, { slots := [(1, .any), (2, .any), (5, .any), (7, .any), (8, .any)], boxes := [(.n 1 0 0), (.n 1 2 0)], r := 1000, own := [] }),
  (139, 0, { slots := [(5, .any), (6, .any)], boxes := [], r := 1000, own := [] }),
  (8, 0, { slots := [(7, .any), (8, .any), (9, .any), (10, .any), (11, .any), (50, .pl 65), (51, .any), (52, .any), (58, .any), (59, .any), (60, .any), (64, .any), (65, .any), (66, .any), (72, .any), (73, .any), (77, .any), (78, .any), (79, .any), (80, .any), (81, .any), (82, .any), (83, .any), (84, .any), (85, .any), (86, .any), (87, .any), (90, .any)], boxes := [], r := 1000, own := [] }),
  (12, 1, { slots := [(1, .any), (3, .any), (86, .any), (87, .any), (90, .any), (91, .any), (92, .any), (93, .any), (94, .any), (95, .any), (96, .any), (97, .any), (98, .any), (99, .any), (100, .any), (101, .any), (102, .any), (105, .any), (106, .any), (107, .any), (108, .any), (109, .any), (110, .any), (111, .any), (112, .any), (119, .any), (120, .any), (121, .any), (124, .any), (125, .any), (126, .any), (129, .any), (130, .any), (131, .any), (134, .any), (135, .any), (136, .any), (137, .any), (140, .any), (141, .any), (142, .any), (143, .any), (146, .any), (147, .any), (148, .any)], boxes := [(.n 1 0 0)], r := 1000, own := [] }),
  (16, 0, { slots := [(2, .any), (3, .any), (5, .any)], boxes := [(.n 1 0 0), (.n 1 1 0)], r := 1000, own := [] }),
  (24, 0, { slots := [(1, .any), (4, .any), (5, .row 28), (6, .row 30), (7, .any), (8, .any), (29, .any), (30, .any), (31, .any), (54, .any), (55, .any), (62, .any), (63, .any), (64, .any)], boxes := [(.n 1 0 0), (.n 1 3 0)], r := 1000, own := [] }),
  (24, 2, { slots := [(1, .any), (4, .any), (5, .row 28), (6, .row 30), (7, .any), (10, .any), (62, .any), (63, .any), (64, .any)], boxes := [(.n 1 0 0), (.n 1 3 0)], r := 2000, own := [] }),
  (28, 0, { slots := [(0, .any), (1, .any), (3, .any), (27, .pl 65), (28, .any), (29, .any), (39, .any), (40, .any), (41, .any), (42, .any), (43, .any), (44, .any), (45, .any), (48, .any), (49, .any), (50, .any), (51, .any), (52, .any), (53, .any), (54, .any)], boxes := [], r := 1000, own := [] }),
  (40, 0, { slots := [(0, .pl 81), (1, .pl 81), (12, .any), (13, .any)], boxes := [], r := 1000, own := [] }),
  (60, 0, { slots := [(10, .any), (12, .any), (30, .pl 65), (31, .any), (32, .any)], boxes := [(.n 1 1 0), (.n 3 3 0)], r := 1000, own := [] }),
  (64, 0, { slots := [(5, .any), (7, .any), (8, .any), (9, .any), (10, .any), (11, .any)], boxes := [(.n 1 2 0), (.n 3 7 0)], r := 1000, own := [] }),
  (76, 0, { slots := [(2, .pl 3), (3, .any), (6, .any), (7, .any), (8, .any)], boxes := [(.n 1 0 0), (.n 1 1 0)], r := 1000, own := [] }),
  (80, 0, { slots := [(5, .any), (7, .any), (8, .any), (9, .any), (10, .any), (11, .any)], boxes := [(.n 1 2 0), (.n 3 7 0)], r := 1000, own := [] }),
  (100, 0, { slots := [(0, .any), (6, .any), (15, .pl 3), (16, .any), (17, .any)], boxes := [(.p 0)], r := 1000, own := [] }),
  (104, 0, { slots := [(0, .pl 3), (3, .any), (4, .any)], boxes := [], r := 1000, own := [] }),
  (108, 0, { slots := [(0, .any), (3, .any), (4, .any)], boxes := [], r := 1000, own := [] }),
  (112, 0, { slots := [(0, .any), (1, .any), (8, .pl 3), (9, .any), (10, .any)], boxes := [(.p 0)], r := 1000, own := [] }),
  (120, 0, { slots := [(0, .pl 3), (1, .any), (7, .any), (8, .any)], boxes := [(.p 0), (.p 1)], r := 1000, own := [] }),
  (132, 0, { slots := [(2, .any), (3, .any), (7, .any), (8, .any), (9, .row 3), (10, .any)], boxes := [(.n 1 0 0), (.n 1 2 0)], r := 1000, own := [] }),
  (17, 0, { slots := [(0, .pl 28), (1, .pl 30), (5, .any), (23, .any), (24, .any), (25, .any)], boxes := [], r := 1000, own := [] }),
  (21, 0, { slots := [(0, .any), (1, .pl 28), (2, .pl 30), (7, .any), (53, .any), (54, .any), (55, .any)], boxes := [], r := 1000, own := [] }),
  (21, 2, { slots := [(0, .any), (1, .pl 28), (2, .pl 30), (7, .any), (8, .any), (9, .any), (53, .any), (54, .any), (55, .any)], boxes := [(.n 1001 4 0)], r := 2000, own := [] }),
  (21, 4, { slots := [(0, .any), (2, .pl 30), (10, .any)], boxes := [], r := 3000, own := [] }),
  (25, 0, { slots := [(13, .pl 3), (14, .any), (15, .any), (22, .any), (23, .any)], boxes := [], r := 1000, own := [] }),
  (61, 0, { slots := [(3, .any), (9, .any), (14, .any)], boxes := [(.n 1 2 0), (.n 4 6 0)], r := 1000, own := [((.n 4 6 0), 7)] }),
  (69, 0, { slots := [(0, .any), (1, .any), (9, .pl 3), (10, .any), (11, .any), (19, .any), (20, .any), (21, .any)], boxes := [], r := 1000, own := [] }),
  (73, 0, { slots := [(0, .pl 28), (1, .any), (7, .any), (8, .any)], boxes := [], r := 1000, own := [] }),
  (113, 0, { slots := [(0, .any), (3, .any), (4, .any), (16, .pl 3), (17, .any), (18, .any)], boxes := [(.p 0), (.n 1 0 0)], r := 1000, own := [] }),
  (113, 2, { slots := [(0, .any), (39, .pl 3), (40, .any), (41, .any)], boxes := [(.p 0)], r := 2000, own := [] }),
  (121, 0, { slots := [(0, .pl 30), (1, .pl 30), (12, .any), (13, .any)], boxes := [], r := 1000, own := [] }),
  (129, 0, { slots := [(1, .any), (2, .any), (6, .any), (7, .any), (8, .any), (9, .any)], boxes := [(.n 1 0 0), (.n 1 1 0)], r := 1000, own := [] }),
  (18, 0, { slots := [(2, .pl 30), (3, .any), (6, .any), (21, .pl 28), (22, .any), (23, .any)], boxes := [(.n 1 0 0), (.n 1 1 0)], r := 1000, own := [] }),
  (18, 2, { slots := [(3, .any), (6, .any), (35, .pl 30), (36, .any), (37, .any)], boxes := [(.n 1 0 0), (.n 1 1 0)], r := 2000, own := [] }),
  (22, 0, { slots := [(4, .any), (6, .any), (7, .row 28), (8, .row 30), (14, .any), (15, .any)], boxes := [(.n 1 3 0), (.n 2 2 0)], r := 1000, own := [] }),
  (22, 2, { slots := [(4, .any), (6, .any), (7, .row 28), (8, .row 30), (24, .any), (25, .any)], boxes := [(.n 1 3 0), (.n 2 2 0)], r := 2000, own := [] }),
  (26, 0, { slots := [(0, .pl 65), (1, .any), (5, .any), (11, .any), (12, .any), (13, .any)], boxes := [], r := 1000, own := [] }),
  (42, 1, { slots := [(2, .any), (4, .any), (28, .pl 81), (29, .any), (30, .any)], boxes := [(.n 1 0 0), (.n 1 2 0)], r := 1000, own := [] }),
  (54, 1, { slots := [(0, .any), (2, .any), (3, .any), (5, .any), (69, .any), (70, .any), (81, .any), (82, .any), (83, .any), (84, .any)], boxes := [(.p 0), (.n 1 0 0), (.n 2 3 0)], r := 1000, own := [((.n 1 0 0), 12), ((.n 2 3 0), 12)] }),
  (58, 1, { slots := [(1, .any), (2, .any), (3, .any), (4, .any), (6, .any), (7, .any), (88, .any), (89, .any), (90, .any), (105, .any), (106, .any), (109, .any), (110, .any), (111, .any), (112, .any), (113, .any), (114, .any), (115, .any), (116, .any), (117, .any), (118, .any)], boxes := [(.n 1 0 0), (.n 1 1 0), (.n 1 2 0), (.n 2 1 0)], r := 1000, own := [((.n 1 1 0), 12), ((.n 2 1 0), 12)] }),
  (66, 0, { slots := [(0, .pl 65), (1, .pl 65), (5, .any), (33, .any), (34, .any), (35, .any), (36, .any), (37, .any), (40, .any), (41, .any), (42, .any), (43, .any), (44, .any), (47, .any), (48, .any), (49, .any), (50, .any), (51, .any), (54, .any), (55, .any), (56, .any), (57, .any), (58, .any), (61, .any), (62, .any), (63, .any), (64, .any), (65, .any), (68, .any), (69, .any), (70, .any), (71, .any), (72, .any), (75, .any), (76, .any), (77, .any), (78, .any), (79, .any)], boxes := [], r := 1000, own := [] }),
  (74, 0, { slots := [(0, .pl 30), (1, .any), (7, .any), (8, .any)], boxes := [], r := 1000, own := [] }),
  (94, 0, { slots := [(2, .any), (3, .any), (23, .any), (24, .any), (46, .any), (47, .any), (48, .any), (49, .any), (50, .any), (53, .any), (54, .any), (55, .any), (56, .any), (57, .any), (60, .any), (61, .any), (62, .any), (63, .any), (64, .any), (67, .any), (68, .any), (69, .any), (70, .any), (71, .any), (74, .any), (75, .any), (76, .any), (77, .any), (78, .any), (81, .any), (82, .any), (83, .any), (84, .any), (85, .any), (88, .any), (89, .any), (90, .any), (91, .any), (92, .any)], boxes := [(.n 1 0 0), (.n 1 1 0)], r := 1000, own := [] }),
  (110, 0, { slots := [(3, .any), (6, .pl 3), (7, .any), (8, .any)], boxes := [], r := 1000, own := [] }),
  (114, 0, { slots := [(1, .any), (3, .any), (6, .any), (8, .row 5), (9, .any)], boxes := [(.n 1 0 0), (.n 1 1 0)], r := 1000, own := [] }),
  (126, 0, { slots := [(0, .any), (3, .any), (7, .any), (8, .any), (11, .any), (12, .any), (13, .any), (14, .any), (15, .any), (16, .any), (17, .any), (18, .any), (19, .any), (20, .any), (21, .any), (22, .any), (23, .any), (24, .any), (25, .any), (26, .any), (27, .any), (28, .any), (29, .any), (30, .any), (31, .any), (32, .any), (35, .any), (36, .any), (37, .any), (38, .any), (39, .any), (40, .any), (41, .any), (42, .any), (43, .any), (44, .any), (45, .any)], boxes := [], r := 1000, own := [] })]
def cutTab : List (Nat × Nat × Keep) := [(91, 6, { slots := [(0, .any), (1, .any), (6, .any), (83, .any), (84, .any), (85, .any), (86, .any), (87, .any), (88, .any), (89, .any), (90, .any), (91, .any), (92, .any), (93, .any), (94, .any), (95, .any), (96, .any), (97, .any), (98, .any), (99, .any), (100, .any), (101, .any), (102, .any), (103, .any), (104, .any), (105, .any), (106, .any), (107, .any), (108, .any), (109, .any), (110, .any)], boxes := [(.p 0), (.n 2 1 0)], r := 1000, own := [((.p 0), 7), ((.n 2 1 0), 8), ((.n 2 1 0), 9)] }),
  (91, 9, { slots := [(0, .any), (1, .any), (6, .any), (8, .any), (83, .any), (84, .any), (85, .any), (86, .any), (87, .any), (88, .any), (89, .any), (90, .any), (91, .any), (92, .any), (93, .any), (94, .any), (95, .any), (96, .any), (97, .any), (98, .any), (99, .any), (100, .any), (101, .any), (102, .any), (103, .any), (104, .any), (105, .any), (106, .any), (107, .any), (108, .any), (109, .any), (110, .any)], boxes := [(.p 0), (.n 2 1 0), (.n 1000 1 0)], r := 2000, own := [((.p 0), 7), ((.n 2 1 0), 8), ((.n 2 1 0), 9), ((.n 1000 1 0), 8), ((.n 1000 1 0), 9)] }),
  (91, 11, { slots := [(0, .any), (1, .any), (6, .any), (8, .any), (83, .any), (84, .any), (85, .any), (86, .any), (87, .any), (88, .any), (89, .any), (90, .any), (91, .any), (92, .any), (93, .any), (94, .any), (95, .any), (96, .any), (97, .any), (98, .any), (99, .any), (100, .any), (101, .any), (102, .any), (103, .any), (104, .any), (105, .any), (106, .any), (107, .any), (108, .any), (109, .any), (110, .any)], boxes := [(.p 0), (.n 2 1 0), (.n 1000 1 0)], r := 3000, own := [((.p 0), 7), ((.n 2 1 0), 8), ((.n 2 1 0), 9), ((.n 1000 1 0), 8), ((.n 1000 1 0), 9)] }),
  (91, 13, { slots := [(0, .any), (1, .any), (6, .any), (8, .any), (83, .any), (84, .any), (85, .any), (86, .any), (87, .any), (88, .any), (89, .any), (90, .any), (91, .any), (92, .any), (93, .any), (94, .any), (95, .any), (96, .any), (97, .any), (98, .any), (99, .any), (100, .any), (101, .any), (102, .any), (103, .any), (104, .any), (105, .any), (106, .any), (107, .any), (108, .any), (109, .any), (110, .any)], boxes := [(.p 0), (.n 2 1 0), (.n 1000 1 0)], r := 4000, own := [((.p 0), 7), ((.n 2 1 0), 8), ((.n 2 1 0), 9), ((.n 1000 1 0), 8), ((.n 1000 1 0), 9)] }),
  (91, 15, { slots := [(0, .any), (1, .any), (6, .any), (8, .any), (83, .any), (84, .any), (85, .any), (86, .any), (87, .any), (88, .any), (89, .any), (90, .any), (91, .any), (92, .any), (93, .any), (94, .any), (95, .any), (96, .any), (97, .any), (98, .any), (99, .any), (100, .any), (101, .any), (102, .any), (103, .any), (104, .any), (105, .any), (106, .any), (107, .any), (108, .any), (109, .any), (110, .any)], boxes := [(.p 0), (.n 2 1 0), (.n 1000 1 0)], r := 5000, own := [((.p 0), 7), ((.n 2 1 0), 8), ((.n 2 1 0), 9), ((.n 1000 1 0), 8), ((.n 1000 1 0), 9)] }),
  (91, 17, { slots := [(0, .any), (1, .any), (6, .any), (8, .any)], boxes := [(.p 0), (.n 2 1 0), (.n 1000 1 0)], r := 6000, own := [((.p 0), 7), ((.n 2 1 0), 8), ((.n 2 1 0), 9), ((.n 1000 1 0), 8), ((.n 1000 1 0), 9)] }),
  (91, 19, { slots := [(0, .any), (1, .any), (8, .any)], boxes := [(.p 0), (.n 1000 1 0)], r := 7000, own := [((.p 0), 7), ((.n 1000 1 0), 8), ((.n 1000 1 0), 9)] })]
def ann : Ann := { loop := lookA loopTab, cut := lookA cutTab, ownT := fun t _ => Nat.beq t 146, ownA := fun f e => false, ownR := fun f e => false, wrT := fun f _ => false }
noncomputable abbrev call (k : Nat) := callAt Try.prog ann k
noncomputable abbrev run (k : Nat) := runAt Try.prog ann k
noncomputable def cW : CallF := callW Try.prog ann
noncomputable def rW : FuncId → List TypeId → List Item → St → Option Res := runW Try.prog ann
theorem cW_fix (f : FuncId) (args : List PV) (bs : List BX) : cW f args bs = stepC Try.prog ann cW rW f args bs := callW_fix _ _ f args bs
theorem rW_fix (f : FuncId) (pts : List TypeId) (t : List Item) (st : St) : rW f pts t st = stepR Try.prog ann cW rW f pts t st := runW_fix _ _ f pts t st
theorem Ans.c {f : FuncId} {ps : List PV} {bs : List BX} {r : Res} (h : Ans (fun k => call k f ps bs) r) : cW f ps bs = some r := h.w
theorem c_at (n : Nat) {f : FuncId} {ps : List PV} {bs : List BX} {r : Res} (h : callAt Try.prog ann n f ps bs = some r) : cW f ps bs = some r := (callW_iff _ _).2 ⟨n, h⟩
theorem ans_c {f : FuncId} {ps : List PV} {bs : List BX} {r : Res} (h : cW f ps bs = some r) : Ans (fun k => call k f ps bs) r := ans_of _ _ h
def f_celluloidlaw09_ShapeAgain : Nat := 9
def f_style_RightFill : Nat := 11
def f_style_RightStroke : Nat := 13
def f_style_SameFill : Nat := 15
def f_celluloidref08_Same : Nat := 16
def f_style_Put : Nat := 18
def f_style_Right : Nat := 20
def f_style_Take : Nat := 22
def f_celluloidref08_SameLists : Nat := 23
def f_celluloidlaw09_awake : Nat := 27
def f_shape_RightRecords : Nat := 28
def f_shape_Take : Nat := 29
def f_celluloidref09_Equal : Nat := 30
def f_celluloidlaw09_ref : Nat := 31
def f_shape_Put : Nat := 32
def f_shape_Right : Nat := 33
def f_field_RightRGBA : Nat := 34
def f_style_picture : Nat := 35
def f_field_RightMatrix : Nat := 36
def f_style_gradient : Nat := 37
def f_style_stop : Nat := 38
def f_slices_Equal___celluloid_api_Stop_celluloid_api_Stop_ : Nat := 40
def f_style_byteOf : Nat := 41
def f_style_put : Nat := 42
def f_bits_PutLittle : Nat := 43
def f_field_PutRGBA : Nat := 44
def f_slices_ContainsFunc___celluloid_api_Fill_celluloid_api_Fill_ : Nat := 45
def f_style_Right_1 : Nat := 46
def f_slices_ContainsFunc___celluloid_api_Stroke_celluloid_api_Stroke_ : Nat := 47
def f_style_Right_2 : Nat := 48
def f___celluloid_style_reader__many : Nat := 53
def f___celluloid_style_reader__fill : Nat := 54
def f___celluloid_style_reader__little : Nat := 55
def f___celluloid_style_reader__color : Nat := 56
def f_shape_PutRecords : Nat := 60
def f_shape_TakeRecords : Nat := 61
def f_shape_within : Nat := 62
def f_shape_sound : Nat := 63
def f_bits_Little : Nat := 64
def f_field_TakeRect : Nat := 65
def f_celluloidref09_Same : Nat := 66
def f_field_PutRect : Nat := 67
def f_field_RightRect : Nat := 68
def f_field_within : Nat := 69
def f_bits_PutBytes : Nat := 71
def f_field_PutMatrix : Nat := 72
def f_slices_IndexFunc___celluloid_api_Fill_celluloid_api_Fill_ : Nat := 73
def f_slices_IndexFunc___celluloid_api_Stroke_celluloid_api_Stroke_ : Nat := 74
def f___celluloid_style_reader__fail : Nat := 77
def f___celluloid_style_reader__matrix : Nat := 78
def f_field_TakeRGBA : Nat := 79
def f_bits_PutAlign : Nat := 83
def f___celluloid_shape_writer__widths : Nat := 84
def f___celluloid_shape_writer__record : Nat := 85
def f___celluloid_shape_writer__plain : Nat := 86
def f_bits_Plain : Nat := 87
def f_bits_Align : Nat := 88
def f___celluloid_shape_reader__plain : Nat := 89
def f___celluloid_shape_reader__edge : Nat := 90
def f___celluloid_shape_reader__several : Nat := 91
def f_slices_ContainsFunc___int_int_ : Nat := 92
def f_shape_within_1 : Nat := 93
def f_shape_same : Nat := 94
def f_bits_Bytes : Nat := 95
def f_field_begin : Nat := 96
def f___celluloid_field_reader__plain : Nat := 97
def f___celluloid_field_reader__signed : Nat := 98
def f___celluloid_field_reader__done : Nat := 99
def f___celluloid_field_writer__signed : Nat := 100
def f___celluloid_field_writer__done : Nat := 101
def f___celluloid_field_writer__flag : Nat := 102
def f_field_TakeMatrix : Nat := 106
def f_bits_PlainWidth : Nat := 110
def f_bits_Width : Nat := 111
def f___celluloid_shape_writer__signed : Nat := 112
def f___celluloid_shape_writer__set : Nat := 113
def f_bits_PutPlain : Nat := 114
def f_bits_right : Nat := 115
def f___celluloid_shape_reader__signed : Nat := 116
def f___celluloid_shape_reader__take : Nat := 117
def f___celluloid_shape_reader__fail : Nat := 118
def f___celluloid_shape_reader__fresh : Nat := 119
def f_slices_IndexFunc___int_int_ : Nat := 120
def f_slices_Equal___celluloid_api_Stroke_celluloid_api_Stroke_ : Nat := 121
def f_bits_Signed : Nat := 122
def f___celluloid_field_writer__plain : Nat := 123
def f_bits_PutSigned : Nat := 124
def f_field_Same : Nat := 127
def f_math_bits_Len : Nat := 134
def f_math_bits_Len64 : Nat := 138
def t_int : Nat := 3
def t_style_reader : Nat := 95
def t_shape_writer : Nat := 140
def t_shape_reader : Nat := 146
def t_field_writer : Nat := 158
def t_field_reader : Nat := 174
/- celluloid/celluloidref07.Matrix -/
/- celluloid/bits.PutLittle -/
noncomputable def S_bits_PutLittle_L0 (x1 : Int) (x2 : Int) (x3 : Int) (x4 : List (List PV)) (x5 : List UInt8) (x6 : Int) (x7 : List UInt8) (x8 : Int) : St := mkSt [(1, .v (.int .i64 x1)), (3, .v (.ptr (.n 1 0 0) 0)), (6, .v (.ptr (.n 1 1 0) 0)), (8, .v (.wr (.w 8))), (31, .v (.int .i64 x2)), (32, .v (.int .i64 x3))] [((.w 8), .row 5 x4), ((.n 1 0 0), .cells 40 [.str x5, .int .i64 x6]), ((.n 1 1 0), .cells 40 [.str x7, .int .i64 x8])] 1000 48
noncomputable def at_bits_PutLittle_L0 : List Item := (atLoop Try.f43 0)
theorem u_bits_PutLittle (k : Nat) (a1 : List UInt8) (a2 : Int) (a3 : Int) (a4 : Int) : call (k + 1) f_bits_PutLittle [.s a1, .i a2, .i a3, .i a4] [] =
  ((bif (decide (a4 < (1 : Int))) then some [(PV.b true)]
   else (bif (decide (a4 > (4 : Int))) then some [(PV.b true)]
   else (bif (decide (a3 < (0 : Int))) then some [(PV.b true)]
   else (bif (decide ((0 : Int) ≤ (IntKind.wrap .i64 ((8 : Int) * a4)))) then some [(PV.b ((shr .i64 a3 (IntKind.wrap .i64 ((8 : Int) * a4))) != (0 : Int)))]
   else none))))).bind fun r1 =>
  (bif ((r1.getD 0 PV.u)).toB then some ([(PV.s []), (PV.i (0 : Int)), (PV.i (1 : Int))], [])
  else (bif ((decide ((0 : Int) ≤ a4)) && ((decide (a4 ≤ a4)) && (decide (a4 ≤ (1073741824 : Int))))) then run k f_bits_PutLittle [] at_bits_PutLittle_L0 (S_bits_PutLittle_L0 (a3) ((((List.length (List.replicate (Int.toNat a4) [(PV.i (0 : Int))])) : Nat) : Int)) ((0 : Int)) ((List.replicate (Int.toNat a4) [(PV.i (0 : Int))])) (a1) (a2) ([]) ((0 : Int)))
  else none)) := by kernel_rfl
theorem u_bits_PutLittle_L0 (k : Nat) (x1 : Int) (x2 : Int) (x3 : Int) (x4 : List (List PV)) (x5 : List UInt8) (x6 : Int) (x7 : List UInt8) (x8 : Int) : run (k + 1) f_bits_PutLittle [] at_bits_PutLittle_L0 (S_bits_PutLittle_L0 x1 x2 x3 x4 x5 x6 x7 x8) =
  (bif (decide (x3 < x2)) then (bif (decide ((0 : Int) ≤ (IntKind.wrap .i64 ((8 : Int) * x3)))) then (bif (inB x3 (List.length x4)) then (bif (inB x3 (List.length x4)) then run k f_bits_PutLittle [] at_bits_PutLittle_L0 (S_bits_PutLittle_L0 (x1) (x2) ((IntKind.wrap .i64 (x3 + (1 : Int)))) ((List.set x4 (Int.toNat x3) (putAt (elemAt x4 x3) 0 [(PV.i (IntKind.wrap .u8 (shr .i64 x1 (IntKind.wrap .i64 ((8 : Int) * x3)))))]))) (x5) (x6) (x7) (x8))
  else none)
  else none)
  else none)
  else (call k f_bits_PutBytes [(PV.s x5), (PV.i x6), (PV.s (toBytes x4))] []).bind fun r2 =>
  some ([(PV.s (((r2).1.getD 0 PV.u)).toS), (PV.i (((r2).1.getD 1 PV.u)).toI), (PV.i (0 : Int))], [])) := by kernel_rfl
/- celluloid/celluloidref07.PutMatrix -/
/- celluloid/field.PutRect -/
theorem u_field_PutRect (k : Nat) (a1 : List UInt8) (a2 : Int) (a3 : Int) (a4 : Int) (a5 : Int) (a6 : Int) : call (k + 1) f_field_PutRect [.s a1, .i a2, .i a3, .i a4, .i a5, .i a6] [] =
  (call k f_field_RightRect [(PV.i a3), (PV.i a4), (PV.i a5), (PV.i a6)] []).bind fun r1 =>
  (bif (!(((r1).1.getD 0 PV.u)).toB) then some ([(PV.s []), (PV.i (0 : Int)), (PV.i (1 : Int))], [])
  else (call k f_bits_PutAlign [(PV.s a1), (PV.i a2)] []).bind fun r2 =>
  (call k f___celluloid_field_writer__signed [PV.u, (PV.i (5 : Int)), (PV.l (List.set (List.set (List.set (List.set [[(PV.i (0 : Int))], [(PV.i (0 : Int))], [(PV.i (0 : Int))], [(PV.i (0 : Int))]] 0 [(PV.i a3)]) 1 [(PV.i a4)]) 2 [(PV.i a5)]) 3 [(PV.i a6)]))] [(t_field_writer, [(PV.s (((r2).1.getD 0 PV.u)).toS), (PV.i (((r2).1.getD 1 PV.u)).toI)])]).bind fun r3 =>
  (call k f___celluloid_field_writer__done [PV.u] [(t_field_writer, [(PV.s (((((r3).2.getD 0 (0, []))).2.getD 0 PV.u)).toS), (PV.i (((((r3).2.getD 0 (0, []))).2.getD 1 PV.u)).toI)])]).bind fun r4 =>
  some ([(PV.s (((r4).1.getD 0 PV.u)).toS), (PV.i (((r4).1.getD 1 PV.u)).toI), (PV.i (0 : Int))], [])) := by kernel_rfl
/- celluloid/bits.PutBytes -/
theorem u_bits_PutBytes (k : Nat) (a1 : List UInt8) (a2 : Int) (a3 : List UInt8) : call (k + 1) f_bits_PutBytes [.s a1, .i a2, .s a3] [] =
  (bif (decide (((List.length a1) + (List.length a3)) ≤ 1099511627776)) then some ([(PV.s (a1 ++ a3)), (PV.i (0 : Int))], [])
  else none) := by kernel_rfl
/- celluloid/celluloidref07.flag -/
/- celluloid/field.TakeRGBA -/
theorem u_field_TakeRGBA (k : Nat) (a1 : List UInt8) (a2 : Int) : call (k + 1) f_field_TakeRGBA [.s a1, .i a2] [] =
  (call k f_bits_Bytes [(PV.s a1), (PV.i a2), (PV.i (4 : Int))] []).bind fun r1 =>
  (bif ((((r1).1.getD 3 PV.u)).toI != (0 : Int)) then some ([(PV.i (0 : Int)), (PV.i (0 : Int)), (PV.i (0 : Int)), (PV.i (0 : Int)), (PV.s []), (PV.i (0 : Int)), (PV.i (((r1).1.getD 3 PV.u)).toI)], [])
  else (bif (inB (0 : Int) (List.length (((r1).1.getD 0 PV.u)).toS)) then (bif (inB (1 : Int) (List.length (((r1).1.getD 0 PV.u)).toS)) then (bif (inB (2 : Int) (List.length (((r1).1.getD 0 PV.u)).toS)) then (bif (inB (3 : Int) (List.length (((r1).1.getD 0 PV.u)).toS)) then some ([(PV.i (IntKind.wrap .i64 (bt (((r1).1.getD 0 PV.u)).toS (0 : Int)))), (PV.i (IntKind.wrap .i64 (bt (((r1).1.getD 0 PV.u)).toS (1 : Int)))), (PV.i (IntKind.wrap .i64 (bt (((r1).1.getD 0 PV.u)).toS (2 : Int)))), (PV.i (IntKind.wrap .i64 (bt (((r1).1.getD 0 PV.u)).toS (3 : Int)))), (PV.s (((r1).1.getD 1 PV.u)).toS), (PV.i (((r1).1.getD 2 PV.u)).toI), (PV.i (0 : Int))], [])
  else none)
  else none)
  else none)
  else none)) := by kernel_rfl
/- celluloid/bits.PutAlign -/
theorem u_bits_PutAlign (k : Nat) (a1 : List UInt8) (a2 : Int) : call (k + 1) f_bits_PutAlign [.s a1, .i a2] [] =
  some ([(PV.s a1), (PV.i (0 : Int))], []) := by kernel_rfl
/- celluloid/bits.Plain -/
noncomputable def S_bits_Plain_L1 (x1 : Int) (x2 : Int) (x3 : Int) (x4 : List UInt8) (x5 : Int) (x6 : List UInt8) (x7 : Int) : St := mkSt [(1, .v (.int .i64 x1)), (2, .v (.ptr (.n 1 0 0) 0)), (5, .v (.ptr (.n 1 2 0) 0)), (7, .v (.int .i64 x2)), (8, .v (.int .i64 x3))] [((.n 1 0 0), .cells 46 [.str x4, .int .i64 x5]), ((.n 1 2 0), .cells 46 [.str x6, .int .i64 x7])] 1000 64
noncomputable def at_bits_Plain_L1 : List Item := (atLoop Try.f87 1)
theorem u_bits_Plain (k : Nat) (a1 : List UInt8) (a2 : Int) (a3 : Int) : call (k + 1) f_bits_Plain [.s a1, .i a2, .i a3] [] =
  ((call k f_bits_right [(PV.s a1), (PV.i a2)] []).bind fun r1 =>
   (bif (!(((r1).1.getD 0 PV.u)).toB) then some [(PV.b true)]
   else (bif (decide (a3 < (0 : Int))) then some [(PV.b true)]
   else some [(PV.b (decide (a3 > (31 : Int))))]))).bind fun r2 =>
  (bif ((r2.getD 0 PV.u)).toB then some ([(PV.i (0 : Int)), (PV.s []), (PV.i (0 : Int)), (PV.i (1 : Int))], [])
  else (bif (decide ((IntKind.wrap .i64 (a2 + a3)) > (IntKind.wrap .i64 ((8 : Int) * (((List.length a1) : Nat) : Int))))) then some ([(PV.i (0 : Int)), (PV.s []), (PV.i (0 : Int)), (PV.i (2 : Int))], [])
  else run k f_bits_Plain [] at_bits_Plain_L1 (S_bits_Plain_L1 (a3) ((0 : Int)) (a2) (a1) (a2) ([]) ((0 : Int))))) := by kernel_rfl
theorem u_bits_Plain_L1 (k : Nat) (x1 : Int) (x2 : Int) (x3 : Int) (x4 : List UInt8) (x5 : Int) (x6 : List UInt8) (x7 : Int) : run (k + 1) f_bits_Plain [] at_bits_Plain_L1 (S_bits_Plain_L1 x1 x2 x3 x4 x5 x6 x7) =
  (bif (decide (x3 < (IntKind.wrap .i64 (x5 + x1)))) then (bif (inB (IntKind.wrap .i64 (Int.tdiv x3 (8 : Int))) (List.length x4)) then (bif (decide ((0 : Int) ≤ (IntKind.wrap .i64 ((7 : Int) - (Int.tmod x3 (8 : Int)))))) then run k f_bits_Plain [] at_bits_Plain_L1 (S_bits_Plain_L1 (x1) ((bitsOp Go.BinOp.or .i64 (shl .i64 x2 (1 : Int)) (IntKind.wrap .i64 (bitsOp Go.BinOp.and .u8 (shr .u8 (bt x4 (IntKind.wrap .i64 (Int.tdiv x3 (8 : Int)))) (IntKind.wrap .i64 ((7 : Int) - (Int.tmod x3 (8 : Int))))) (1 : Int))))) ((IntKind.wrap .i64 (x3 + (1 : Int)))) (x4) (x5) (x6) (x7))
  else none)
  else none)
  else some ([(PV.i x2), (PV.s x4), (PV.i (IntKind.wrap .i64 (x5 + x1))), (PV.i (0 : Int))], [])) := by kernel_rfl
/- celluloid/bits.Bytes -/
theorem u_bits_Bytes (k : Nat) (a1 : List UInt8) (a2 : Int) (a3 : Int) : call (k + 1) f_bits_Bytes [.s a1, .i a2, .i a3] [] =
  ((call k f_bits_right [(PV.s a1), (PV.i a2)] []).bind fun r1 =>
   (bif (!(((r1).1.getD 0 PV.u)).toB) then some [(PV.b true)]
   else some [(PV.b (decide (a3 < (0 : Int))))])).bind fun r2 =>
  (bif ((r2.getD 0 PV.u)).toB then some ([(PV.s []), (PV.s []), (PV.i (0 : Int)), (PV.i (1 : Int))], [])
  else (call k f_bits_Align [(PV.s a1), (PV.i a2)] []).bind fun r3 =>
  (bif (decide (a3 > (IntKind.wrap .i64 ((((List.length a1) : Nat) : Int) - (IntKind.wrap .i64 (Int.tdiv (((r3).1.getD 1 PV.u)).toI (8 : Int))))))) then some ([(PV.s []), (PV.s []), (PV.i (0 : Int)), (PV.i (2 : Int))], [])
  else (bif (okB (IntKind.wrap .i64 (Int.tdiv (((r3).1.getD 1 PV.u)).toI (8 : Int))) (IntKind.wrap .i64 ((IntKind.wrap .i64 (Int.tdiv (((r3).1.getD 1 PV.u)).toI (8 : Int))) + a3)) (List.length a1)) then some ([(PV.s (cutL (IntKind.wrap .i64 (Int.tdiv (((r3).1.getD 1 PV.u)).toI (8 : Int))) (IntKind.wrap .i64 ((IntKind.wrap .i64 (Int.tdiv (((r3).1.getD 1 PV.u)).toI (8 : Int))) + a3)) a1)), (PV.s a1), (PV.i (IntKind.wrap .i64 ((8 : Int) * (IntKind.wrap .i64 ((IntKind.wrap .i64 (Int.tdiv (((r3).1.getD 1 PV.u)).toI (8 : Int))) + a3))))), (PV.i (0 : Int))], [])
  else none))) := by kernel_rfl
/- (*celluloid/field.reader).done -/
theorem u___celluloid_field_reader__done (k : Nat) (a2 : Bool) (p0_1 : List UInt8) (p0_2 : Int) (p0_3 : Int) : call (k + 1) f___celluloid_field_reader__done [.u, .b a2] [(t_field_reader, [.s p0_1, .i p0_2, .i p0_3])] =
  (bif (p0_3 != (0 : Int)) then some ([(PV.s []), (PV.i (0 : Int)), (PV.i p0_3)], [(t_field_reader, [(PV.s p0_1), (PV.i p0_2), (PV.i p0_3)])])
  else (bif (!a2) then some ([(PV.s []), (PV.i (0 : Int)), (PV.i (3 : Int))], [(t_field_reader, [(PV.s p0_1), (PV.i p0_2), (PV.i p0_3)])])
  else (call k f_bits_Align [(PV.s p0_1), (PV.i p0_2)] []).bind fun r1 =>
  some ([(PV.s (((r1).1.getD 0 PV.u)).toS), (PV.i (((r1).1.getD 1 PV.u)).toI), (PV.i (0 : Int))], [(t_field_reader, [(PV.s p0_1), (PV.i p0_2), (PV.i p0_3)])]))) := by kernel_rfl
/- celluloid/celluloidref02.PutPlain -/
/- celluloid/celluloidref02.Bytes -/
/- celluloid/bits.Width -/
noncomputable def S_bits_Width_L0 (x1 : Int) (x2 : List (List PV)) (x3 : Int) (x4 : Int) : St := mkSt [(3, .v (.int .i64 x1)), (6, .v (.sl 3 x2)), (7, .v (.int .i64 x3)), (8, .v (.int .i64 x4))] [] 1000 26
noncomputable def at_bits_Width_L0 : List Item := (atLoop Try.f111 0)
theorem u_bits_Width (k : Nat) (a1 : List (List PV)) : call (k + 1) f_bits_Width [.l a1] [] =
  run k f_bits_Width [] at_bits_Width_L0 (S_bits_Width_L0 ((0 : Int)) (a1) ((((List.length a1) : Nat) : Int)) ((0 : Int))) := by kernel_rfl
theorem u_bits_Width_L0 (k : Nat) (x1 : Int) (x2 : List (List PV)) (x3 : Int) (x4 : Int) : run (k + 1) f_bits_Width [] at_bits_Width_L0 (S_bits_Width_L0 x1 x2 x3 x4) =
  (bif (decide (x4 < x3)) then (bif (inB x4 (List.length x2)) then (bif (decide ((((elemAt x2 x4).getD 0 PV.u)).toI < (0 : Int))) then (call k f_math_bits_Len [(PV.i (IntKind.wrap .u64 (bitsOp Go.BinOp.xor .i64 (-1 : Int) (((elemAt x2 x4).getD 0 PV.u)).toI)))] []).bind fun r1 =>
  run k f_bits_Width [] at_bits_Width_L0 (S_bits_Width_L0 ((bif (decide ((IntKind.wrap .i64 ((((r1).1.getD 0 PV.u)).toI + (1 : Int))) > x1)) then (IntKind.wrap .i64 ((((r1).1.getD 0 PV.u)).toI + (1 : Int))) else x1)) (x2) (x3) ((IntKind.wrap .i64 (x4 + (1 : Int)))))
  else (bif ((((elemAt x2 x4).getD 0 PV.u)).toI == (0 : Int)) then run k f_bits_Width [] at_bits_Width_L0 (S_bits_Width_L0 (x1) (x2) (x3) ((IntKind.wrap .i64 (x4 + (1 : Int)))))
  else (call k f_math_bits_Len [(PV.i (IntKind.wrap .u64 (((elemAt x2 x4).getD 0 PV.u)).toI))] []).bind fun r2 =>
  run k f_bits_Width [] at_bits_Width_L0 (S_bits_Width_L0 ((bif (decide ((IntKind.wrap .i64 ((((r2).1.getD 0 PV.u)).toI + (1 : Int))) > x1)) then (IntKind.wrap .i64 ((((r2).1.getD 0 PV.u)).toI + (1 : Int))) else x1)) (x2) (x3) ((IntKind.wrap .i64 (x4 + (1 : Int)))))))
  else none)
  else some ([(PV.i x1)], [])) := by kernel_rfl
/- celluloid/bits.right -/
theorem u_bits_right (k : Nat) (a1 : List UInt8) (a2 : Int) : call (k + 1) f_bits_right [.s a1, .i a2] [] =
  ((bif (decide (a2 ≥ (0 : Int))) then some [(PV.b (decide (a2 ≤ (IntKind.wrap .i64 ((8 : Int) * (((List.length a1) : Nat) : Int))))))]
   else some [(PV.b false)])).bind fun r1 =>
  some ([(PV.b ((r1.getD 0 PV.u)).toB)], []) := by kernel_rfl
/- (*celluloid/field.writer).plain -/
theorem u___celluloid_field_writer__plain (k : Nat) (a2 : Int) (a3 : Int) (p0_1 : List UInt8) (p0_2 : Int) : call (k + 1) f___celluloid_field_writer__plain [.u, .i a2, .i a3] [(t_field_writer, [.s p0_1, .i p0_2])] =
  (call k f_bits_PutPlain [(PV.s p0_1), (PV.i p0_2), (PV.i a2), (PV.i a3)] []).bind fun r1 =>
  some ([], [(t_field_writer, [(PV.s (((r1).1.getD 0 PV.u)).toS), (PV.i (((r1).1.getD 1 PV.u)).toI)])]) := by kernel_rfl
/- celluloid/field.Same -/
theorem u_field_Same (k : Nat)  : call (k + 1) f_field_Same [] [] =
  some ([(PV.i (65536 : Int)), (PV.i (0 : Int)), (PV.i (0 : Int)), (PV.i (65536 : Int)), (PV.i (0 : Int)), (PV.i (0 : Int))], []) := by kernel_rfl
/- celluloid/celluloidref07.Begin -/
/- celluloid/celluloidref02.Plain -/
/- celluloid/celluloidref02.Bit -/
/- celluloid/field.RightMatrix -/
theorem u_field_RightMatrix (k : Nat) (a1 : Int) (a2 : Int) (a3 : Int) (a4 : Int) (a5 : Int) (a6 : Int) : call (k + 1) f_field_RightMatrix [.i a1, .i a2, .i a3, .i a4, .i a5, .i a6] [] =
  ((call k f_field_within [(PV.i (-4194304 : Int)), (PV.i (4194304 : Int)), (PV.l (List.set (List.set (List.set (List.set [[(PV.i (0 : Int))], [(PV.i (0 : Int))], [(PV.i (0 : Int))], [(PV.i (0 : Int))]] 0 [(PV.i a1)]) 1 [(PV.i a2)]) 2 [(PV.i a3)]) 3 [(PV.i a4)]))] []).bind fun r1 =>
   (bif (((r1).1.getD 0 PV.u)).toB then (call k f_field_within [(PV.i (-1048576 : Int)), (PV.i (1048576 : Int)), (PV.l (List.set (List.set [[(PV.i (0 : Int))], [(PV.i (0 : Int))]] 0 [(PV.i a5)]) 1 [(PV.i a6)]))] []).bind fun r2 =>
   some [(PV.b (((r2).1.getD 0 PV.u)).toB)]
   else some [(PV.b false)])).bind fun r3 =>
  some ([(PV.b ((r3.getD 0 PV.u)).toB)], []) := by kernel_rfl
/- celluloid/field.PutRGBA -/
theorem u_field_PutRGBA (k : Nat) (a1 : List UInt8) (a2 : Int) (a3 : Int) (a4 : Int) (a5 : Int) (a6 : Int) : call (k + 1) f_field_PutRGBA [.s a1, .i a2, .i a3, .i a4, .i a5, .i a6] [] =
  (call k f_field_RightRGBA [(PV.i a3), (PV.i a4), (PV.i a5), (PV.i a6)] []).bind fun r1 =>
  (bif (!(((r1).1.getD 0 PV.u)).toB) then some ([(PV.s []), (PV.i (0 : Int)), (PV.i (1 : Int))], [])
  else (call k f_bits_PutBytes [(PV.s a1), (PV.i a2), (PV.s (toBytes (List.set (List.set (List.set (List.set [[(PV.i (0 : Int))], [(PV.i (0 : Int))], [(PV.i (0 : Int))], [(PV.i (0 : Int))]] 0 [(PV.i (IntKind.wrap .u8 a3))]) 1 [(PV.i (IntKind.wrap .u8 a4))]) 2 [(PV.i (IntKind.wrap .u8 a5))]) 3 [(PV.i (IntKind.wrap .u8 a6))])))] []).bind fun r2 =>
  some ([(PV.s (((r2).1.getD 0 PV.u)).toS), (PV.i (((r2).1.getD 1 PV.u)).toI), (PV.i (0 : Int))], [])) := by kernel_rfl
/- celluloid/bits.Little -/
noncomputable def S_bits_Little_L0 (x1 : List UInt8) (x2 : Int) (x3 : Int) (x4 : Int) (x5 : List UInt8) (x6 : Int) (x7 : List UInt8) (x8 : Int) : St := mkSt [(5, .v (.ptr (.n 1 2 0) 0)), (7, .v (.str x1)), (8, .v (.ptr (.n 3 7 0) 0)), (9, .v (.int .i64 x2)), (10, .v (.int .i64 x3)), (11, .v (.int .i64 x4))] [((.n 1 2 0), .cells 46 [.str x5, .int .i64 x6]), ((.n 3 7 0), .cells 46 [.str x7, .int .i64 x8])] 1000 43
noncomputable def at_bits_Little_L0 : List Item := (atLoop Try.f64 0)
theorem u_bits_Little (k : Nat) (a1 : List UInt8) (a2 : Int) (a3 : Int) : call (k + 1) f_bits_Little [.s a1, .i a2, .i a3] [] =
  ((bif (decide (a3 < (1 : Int))) then some [(PV.b true)]
   else some [(PV.b (decide (a3 > (4 : Int))))])).bind fun r1 =>
  (bif ((r1.getD 0 PV.u)).toB then some ([(PV.i (0 : Int)), (PV.s []), (PV.i (0 : Int)), (PV.i (1 : Int))], [])
  else (call k f_bits_Bytes [(PV.s a1), (PV.i a2), (PV.i a3)] []).bind fun r2 =>
  run k f_bits_Little [] at_bits_Little_L0 (S_bits_Little_L0 ((((r2).1.getD 0 PV.u)).toS) ((((r2).1.getD 3 PV.u)).toI) ((0 : Int)) ((IntKind.wrap .i64 ((((List.length (((r2).1.getD 0 PV.u)).toS) : Nat) : Int) - (1 : Int)))) ([]) ((0 : Int)) ((((r2).1.getD 1 PV.u)).toS) ((((r2).1.getD 2 PV.u)).toI))) := by kernel_rfl
theorem u_bits_Little_L0 (k : Nat) (x1 : List UInt8) (x2 : Int) (x3 : Int) (x4 : Int) (x5 : List UInt8) (x6 : Int) (x7 : List UInt8) (x8 : Int) : run (k + 1) f_bits_Little [] at_bits_Little_L0 (S_bits_Little_L0 x1 x2 x3 x4 x5 x6 x7 x8) =
  (bif (decide (x4 ≥ (0 : Int))) then (bif (inB x4 (List.length x1)) then run k f_bits_Little [] at_bits_Little_L0 (S_bits_Little_L0 (x1) (x2) ((bitsOp Go.BinOp.or .i64 (shl .i64 x3 (8 : Int)) (IntKind.wrap .i64 (bt x1 x4)))) ((IntKind.wrap .i64 (x4 - (1 : Int)))) (x5) (x6) (x7) (x8))
  else none)
  else some ([(PV.i x3), (PV.s x7), (PV.i x8), (PV.i x2)], [])) := by kernel_rfl
/- celluloid/field.RightRect -/
theorem u_field_RightRect (k : Nat) (a1 : Int) (a2 : Int) (a3 : Int) (a4 : Int) : call (k + 1) f_field_RightRect [.i a1, .i a2, .i a3, .i a4] [] =
  ((call k f_field_within [(PV.i (-1048576 : Int)), (PV.i (1048576 : Int)), (PV.l (List.set (List.set (List.set (List.set [[(PV.i (0 : Int))], [(PV.i (0 : Int))], [(PV.i (0 : Int))], [(PV.i (0 : Int))]] 0 [(PV.i a1)]) 1 [(PV.i a2)]) 2 [(PV.i a3)]) 3 [(PV.i a4)]))] []).bind fun r1 =>
   (bif (((r1).1.getD 0 PV.u)).toB then (bif (decide (a1 ≤ a2)) then some [(PV.b (decide (a3 ≤ a4)))]
   else some [(PV.b false)])
   else some [(PV.b false)])).bind fun r2 =>
  some ([(PV.b ((r2.getD 0 PV.u)).toB)], []) := by kernel_rfl
/- celluloid/field.PutMatrix -/
theorem u_field_PutMatrix (k : Nat) (a1 : List UInt8) (a2 : Int) (a3 : Int) (a4 : Int) (a5 : Int) (a6 : Int) (a7 : Int) (a8 : Int) : call (k + 1) f_field_PutMatrix [.s a1, .i a2, .i a3, .i a4, .i a5, .i a6, .i a7, .i a8] [] =
  (call k f_field_RightMatrix [(PV.i a3), (PV.i a4), (PV.i a5), (PV.i a6), (PV.i a7), (PV.i a8)] []).bind fun r1 =>
  (bif (!(((r1).1.getD 0 PV.u)).toB) then some ([(PV.s []), (PV.i (0 : Int)), (PV.i (1 : Int))], [])
  else (call k f_bits_PutAlign [(PV.s a1), (PV.i a2)] []).bind fun r2 =>
  ((bif (a3 != (65536 : Int)) then (bif (a4 != (0 : Int)) then some [(PV.b true), (PV.b true)]
   else some [(PV.b true), (PV.b (a5 != (0 : Int)))])
   else (bif (a4 != (0 : Int)) then some [(PV.b (a6 != (65536 : Int))), (PV.b true)]
   else some [(PV.b (a6 != (65536 : Int))), (PV.b (a5 != (0 : Int)))]))).bind fun r3 =>
  (call k f___celluloid_field_writer__flag [PV.u, (PV.b ((r3.getD 0 PV.u)).toB)] [(t_field_writer, [(PV.s (((r2).1.getD 0 PV.u)).toS), (PV.i (((r2).1.getD 1 PV.u)).toI)])]).bind fun r4 =>
  (bif ((r3.getD 0 PV.u)).toB then (call k f___celluloid_field_writer__signed [PV.u, (PV.i (5 : Int)), (PV.l (List.set (List.set [[(PV.i (0 : Int))], [(PV.i (0 : Int))]] 0 [(PV.i a3)]) 1 [(PV.i a6)]))] [(t_field_writer, [(PV.s (((((r4).2.getD 0 (0, []))).2.getD 0 PV.u)).toS), (PV.i (((((r4).2.getD 0 (0, []))).2.getD 1 PV.u)).toI)])]).bind fun r5 =>
  (call k f___celluloid_field_writer__flag [PV.u, (PV.b ((r3.getD 1 PV.u)).toB)] [(t_field_writer, [(PV.s (((((r5).2.getD 0 (0, []))).2.getD 0 PV.u)).toS), (PV.i (((((r5).2.getD 0 (0, []))).2.getD 1 PV.u)).toI)])]).bind fun r6 =>
  (bif ((r3.getD 1 PV.u)).toB then (call k f___celluloid_field_writer__signed [PV.u, (PV.i (5 : Int)), (PV.l (List.set (List.set [[(PV.i (0 : Int))], [(PV.i (0 : Int))]] 0 [(PV.i a4)]) 1 [(PV.i a5)]))] [(t_field_writer, [(PV.s (((((r6).2.getD 0 (0, []))).2.getD 0 PV.u)).toS), (PV.i (((((r6).2.getD 0 (0, []))).2.getD 1 PV.u)).toI)])]).bind fun r7 =>
  (call k f___celluloid_field_writer__signed [PV.u, (PV.i (5 : Int)), (PV.l (List.set (List.set [[(PV.i (0 : Int))], [(PV.i (0 : Int))]] 0 [(PV.i a7)]) 1 [(PV.i a8)]))] [(t_field_writer, [(PV.s (((((r7).2.getD 0 (0, []))).2.getD 0 PV.u)).toS), (PV.i (((((r7).2.getD 0 (0, []))).2.getD 1 PV.u)).toI)])]).bind fun r8 =>
  (call k f___celluloid_field_writer__done [PV.u] [(t_field_writer, [(PV.s (((((r8).2.getD 0 (0, []))).2.getD 0 PV.u)).toS), (PV.i (((((r8).2.getD 0 (0, []))).2.getD 1 PV.u)).toI)])]).bind fun r9 =>
  some ([(PV.s (((r9).1.getD 0 PV.u)).toS), (PV.i (((r9).1.getD 1 PV.u)).toI), (PV.i (0 : Int))], [])
  else (call k f___celluloid_field_writer__signed [PV.u, (PV.i (5 : Int)), (PV.l (List.set (List.set [[(PV.i (0 : Int))], [(PV.i (0 : Int))]] 0 [(PV.i a7)]) 1 [(PV.i a8)]))] [(t_field_writer, [(PV.s (((((r6).2.getD 0 (0, []))).2.getD 0 PV.u)).toS), (PV.i (((((r6).2.getD 0 (0, []))).2.getD 1 PV.u)).toI)])]).bind fun r10 =>
  (call k f___celluloid_field_writer__done [PV.u] [(t_field_writer, [(PV.s (((((r10).2.getD 0 (0, []))).2.getD 0 PV.u)).toS), (PV.i (((((r10).2.getD 0 (0, []))).2.getD 1 PV.u)).toI)])]).bind fun r11 =>
  some ([(PV.s (((r11).1.getD 0 PV.u)).toS), (PV.i (((r11).1.getD 1 PV.u)).toI), (PV.i (0 : Int))], []))
  else (call k f___celluloid_field_writer__flag [PV.u, (PV.b ((r3.getD 1 PV.u)).toB)] [(t_field_writer, [(PV.s (((((r4).2.getD 0 (0, []))).2.getD 0 PV.u)).toS), (PV.i (((((r4).2.getD 0 (0, []))).2.getD 1 PV.u)).toI)])]).bind fun r12 =>
  (bif ((r3.getD 1 PV.u)).toB then (call k f___celluloid_field_writer__signed [PV.u, (PV.i (5 : Int)), (PV.l (List.set (List.set [[(PV.i (0 : Int))], [(PV.i (0 : Int))]] 0 [(PV.i a4)]) 1 [(PV.i a5)]))] [(t_field_writer, [(PV.s (((((r12).2.getD 0 (0, []))).2.getD 0 PV.u)).toS), (PV.i (((((r12).2.getD 0 (0, []))).2.getD 1 PV.u)).toI)])]).bind fun r13 =>
  (call k f___celluloid_field_writer__signed [PV.u, (PV.i (5 : Int)), (PV.l (List.set (List.set [[(PV.i (0 : Int))], [(PV.i (0 : Int))]] 0 [(PV.i a7)]) 1 [(PV.i a8)]))] [(t_field_writer, [(PV.s (((((r13).2.getD 0 (0, []))).2.getD 0 PV.u)).toS), (PV.i (((((r13).2.getD 0 (0, []))).2.getD 1 PV.u)).toI)])]).bind fun r14 =>
  (call k f___celluloid_field_writer__done [PV.u] [(t_field_writer, [(PV.s (((((r14).2.getD 0 (0, []))).2.getD 0 PV.u)).toS), (PV.i (((((r14).2.getD 0 (0, []))).2.getD 1 PV.u)).toI)])]).bind fun r15 =>
  some ([(PV.s (((r15).1.getD 0 PV.u)).toS), (PV.i (((r15).1.getD 1 PV.u)).toI), (PV.i (0 : Int))], [])
  else (call k f___celluloid_field_writer__signed [PV.u, (PV.i (5 : Int)), (PV.l (List.set (List.set [[(PV.i (0 : Int))], [(PV.i (0 : Int))]] 0 [(PV.i a7)]) 1 [(PV.i a8)]))] [(t_field_writer, [(PV.s (((((r12).2.getD 0 (0, []))).2.getD 0 PV.u)).toS), (PV.i (((((r12).2.getD 0 (0, []))).2.getD 1 PV.u)).toI)])]).bind fun r16 =>
  (call k f___celluloid_field_writer__done [PV.u] [(t_field_writer, [(PV.s (((((r16).2.getD 0 (0, []))).2.getD 0 PV.u)).toS), (PV.i (((((r16).2.getD 0 (0, []))).2.getD 1 PV.u)).toI)])]).bind fun r17 =>
  some ([(PV.s (((r17).1.getD 0 PV.u)).toS), (PV.i (((r17).1.getD 1 PV.u)).toI), (PV.i (0 : Int))], [])))) := by kernel_rfl
/- celluloid/celluloidref07.numbers -/
/- celluloid/celluloidref02.Little -/
/- celluloid/bits.Align -/
theorem u_bits_Align (k : Nat) (a1 : List UInt8) (a2 : Int) : call (k + 1) f_bits_Align [.s a1, .i a2] [] =
  (call k f_bits_right [(PV.s a1), (PV.i a2)] []).bind fun r1 =>
  (bif (((r1).1.getD 0 PV.u)).toB then some ([(PV.s a1), (PV.i (IntKind.wrap .i64 ((IntKind.wrap .i64 (Int.tdiv (IntKind.wrap .i64 (a2 + (7 : Int))) (8 : Int))) * (8 : Int))))], [])
  else some ([(PV.s a1), (PV.i a2)], [])) := by kernel_rfl
/- celluloid/field.begin -/
theorem u_field_begin (k : Nat) (a1 : List UInt8) (a2 : Int) : call (k + 1) f_field_begin [.s a1, .i a2] [] =
  (call k f_bits_Plain [(PV.s a1), (PV.i a2), (PV.i (0 : Int))] []).bind fun r1 =>
  (call k f_bits_Align [(PV.s a1), (PV.i a2)] []).bind fun r2 =>
  some ([PV.u], [(t_field_reader, [(PV.s (((r2).1.getD 0 PV.u)).toS), (PV.i (((r2).1.getD 1 PV.u)).toI), (PV.i (((r1).1.getD 3 PV.u)).toI)])]) := by kernel_rfl
/- (*celluloid/field.writer).signed -/
noncomputable def S___celluloid_field_writer__signed_L0 (x1 : Int) (x2 : List (List PV)) (x3 : Int) (x4 : Int) (x5 : List UInt8) (x6 : Int) : St := mkSt [(0, .v (.ptr (.p 0) 0)), (6, .v (.int .i64 x1)), (15, .v (.sl 3 x2)), (16, .v (.int .i64 x3)), (17, .v (.int .i64 x4))] [((.p 0), .cells 158 [.str x5, .int .i64 x6])] 1000 35
noncomputable def at___celluloid_field_writer__signed_L0 : List Item := (atLoop Try.f100 0)
theorem u___celluloid_field_writer__signed (k : Nat) (a2 : Int) (a3 : List (List PV)) (p0_1 : List UInt8) (p0_2 : Int) : call (k + 1) f___celluloid_field_writer__signed [.u, .i a2, .l a3] [(t_field_writer, [.s p0_1, .i p0_2])] =
  (call k f_bits_Width [(PV.l a3)] []).bind fun r1 =>
  (call k f___celluloid_field_writer__plain [PV.u, (PV.i (((r1).1.getD 0 PV.u)).toI), (PV.i a2)] [(t_field_writer, [(PV.s p0_1), (PV.i p0_2)])]).bind fun r2 =>
  run k f___celluloid_field_writer__signed [t_field_writer] at___celluloid_field_writer__signed_L0 (S___celluloid_field_writer__signed_L0 ((((r1).1.getD 0 PV.u)).toI) (a3) ((((List.length a3) : Nat) : Int)) ((0 : Int)) ((((((r2).2.getD 0 (0, []))).2.getD 0 PV.u)).toS) ((((((r2).2.getD 0 (0, []))).2.getD 1 PV.u)).toI)) := by kernel_rfl
theorem u___celluloid_field_writer__signed_L0 (k : Nat) (x1 : Int) (x2 : List (List PV)) (x3 : Int) (x4 : Int) (x5 : List UInt8) (x6 : Int) : run (k + 1) f___celluloid_field_writer__signed [t_field_writer] at___celluloid_field_writer__signed_L0 (S___celluloid_field_writer__signed_L0 x1 x2 x3 x4 x5 x6) =
  (bif (decide (x4 < x3)) then (bif (inB x4 (List.length x2)) then (call k f_bits_PutSigned [(PV.s x5), (PV.i x6), (PV.i (((elemAt x2 x4).getD 0 PV.u)).toI), (PV.i x1)] []).bind fun r3 =>
  run k f___celluloid_field_writer__signed [t_field_writer] at___celluloid_field_writer__signed_L0 (S___celluloid_field_writer__signed_L0 (x1) (x2) (x3) ((IntKind.wrap .i64 (x4 + (1 : Int)))) ((((r3).1.getD 0 PV.u)).toS) ((((r3).1.getD 1 PV.u)).toI))
  else none)
  else some ([], [(t_field_writer, [(PV.s x5), (PV.i x6)])])) := by kernel_rfl
/- celluloid/celluloidref07.width -/
/- celluloid/celluloidref02.Power -/
/- celluloid/bits.PutSigned -/
theorem u_bits_PutSigned (k : Nat) (a1 : List UInt8) (a2 : Int) (a3 : Int) (a4 : Int) : call (k + 1) f_bits_PutSigned [.s a1, .i a2, .i a3, .i a4] [] =
  ((bif (decide (a4 < (0 : Int))) then some [(PV.b true)]
   else (bif (decide (a4 > (31 : Int))) then some [(PV.b true)]
   else (call k f_bits_Width [(PV.l (List.set [[(PV.i (0 : Int))]] 0 [(PV.i a3)]))] []).bind fun r1 =>
   some [(PV.b (decide ((((r1).1.getD 0 PV.u)).toI > a4)))]))).bind fun r2 =>
  (bif ((r2.getD 0 PV.u)).toB then some ([(PV.s []), (PV.i (0 : Int)), (PV.i (1 : Int))], [])
  else (bif (decide (a3 < (0 : Int))) then (bif (decide ((0 : Int) ≤ a4)) then (call k f_bits_PutPlain [(PV.s a1), (PV.i a2), (PV.i (IntKind.wrap .i64 (a3 + (shl .i64 (1 : Int) a4)))), (PV.i a4)] []).bind fun r3 =>
  some ([(PV.s (((r3).1.getD 0 PV.u)).toS), (PV.i (((r3).1.getD 1 PV.u)).toI), (PV.i (((r3).1.getD 2 PV.u)).toI)], [])
  else none)
  else (call k f_bits_PutPlain [(PV.s a1), (PV.i a2), (PV.i a3), (PV.i a4)] []).bind fun r4 =>
  some ([(PV.s (((r4).1.getD 0 PV.u)).toS), (PV.i (((r4).1.getD 1 PV.u)).toI), (PV.i (((r4).1.getD 2 PV.u)).toI)], []))) := by kernel_rfl
/- celluloid/celluloidref02.Right -/
/- celluloid/celluloidref07.several -/
/- celluloid/celluloidref07.Signed -/
/- celluloid/celluloidref02.Signed -/
/- celluloid/celluloidref07.RGBA -/
/- celluloid/field.TakeRect -/
theorem u_field_TakeRect (k : Nat) (a1 : List UInt8) (a2 : Int) : call (k + 1) f_field_TakeRect [.s a1, .i a2] [] =
  (call k f_field_begin [(PV.s a1), (PV.i a2)] []).bind fun r1 =>
  (call k f___celluloid_field_reader__plain [PV.u, (PV.i (5 : Int))] [(t_field_reader, [(PV.s (((((r1).2.getD 0 (0, []))).2.getD 0 PV.u)).toS), (PV.i (((((r1).2.getD 0 (0, []))).2.getD 1 PV.u)).toI), (PV.i (((((r1).2.getD 0 (0, []))).2.getD 2 PV.u)).toI)])]).bind fun r2 =>
  (call k f___celluloid_field_reader__signed [PV.u, (PV.i (((r2).1.getD 0 PV.u)).toI)] [(t_field_reader, [(PV.s (((((r2).2.getD 0 (0, []))).2.getD 0 PV.u)).toS), (PV.i (((((r2).2.getD 0 (0, []))).2.getD 1 PV.u)).toI), (PV.i (((((r2).2.getD 0 (0, []))).2.getD 2 PV.u)).toI)])]).bind fun r3 =>
  (call k f___celluloid_field_reader__signed [PV.u, (PV.i (((r2).1.getD 0 PV.u)).toI)] [(t_field_reader, [(PV.s (((((r3).2.getD 0 (0, []))).2.getD 0 PV.u)).toS), (PV.i (((((r3).2.getD 0 (0, []))).2.getD 1 PV.u)).toI), (PV.i (((((r3).2.getD 0 (0, []))).2.getD 2 PV.u)).toI)])]).bind fun r4 =>
  (call k f___celluloid_field_reader__signed [PV.u, (PV.i (((r2).1.getD 0 PV.u)).toI)] [(t_field_reader, [(PV.s (((((r4).2.getD 0 (0, []))).2.getD 0 PV.u)).toS), (PV.i (((((r4).2.getD 0 (0, []))).2.getD 1 PV.u)).toI), (PV.i (((((r4).2.getD 0 (0, []))).2.getD 2 PV.u)).toI)])]).bind fun r5 =>
  (call k f___celluloid_field_reader__signed [PV.u, (PV.i (((r2).1.getD 0 PV.u)).toI)] [(t_field_reader, [(PV.s (((((r5).2.getD 0 (0, []))).2.getD 0 PV.u)).toS), (PV.i (((((r5).2.getD 0 (0, []))).2.getD 1 PV.u)).toI), (PV.i (((((r5).2.getD 0 (0, []))).2.getD 2 PV.u)).toI)])]).bind fun r6 =>
  (call k f_field_RightRect [(PV.i (((r3).1.getD 0 PV.u)).toI), (PV.i (((r4).1.getD 0 PV.u)).toI), (PV.i (((r5).1.getD 0 PV.u)).toI), (PV.i (((r6).1.getD 0 PV.u)).toI)] []).bind fun r7 =>
  (call k f___celluloid_field_reader__done [PV.u, (PV.b (((r7).1.getD 0 PV.u)).toB)] [(t_field_reader, [(PV.s (((((r6).2.getD 0 (0, []))).2.getD 0 PV.u)).toS), (PV.i (((((r6).2.getD 0 (0, []))).2.getD 1 PV.u)).toI), (PV.i (((((r6).2.getD 0 (0, []))).2.getD 2 PV.u)).toI)])]).bind fun r8 =>
  (bif ((((r8).1.getD 2 PV.u)).toI != (0 : Int)) then some ([(PV.i (0 : Int)), (PV.i (0 : Int)), (PV.i (0 : Int)), (PV.i (0 : Int)), (PV.s (((r8).1.getD 0 PV.u)).toS), (PV.i (((r8).1.getD 1 PV.u)).toI), (PV.i (((r8).1.getD 2 PV.u)).toI)], [])
  else some ([(PV.i (((r3).1.getD 0 PV.u)).toI), (PV.i (((r4).1.getD 0 PV.u)).toI), (PV.i (((r5).1.getD 0 PV.u)).toI), (PV.i (((r6).1.getD 0 PV.u)).toI), (PV.s (((r8).1.getD 0 PV.u)).toS), (PV.i (((r8).1.getD 1 PV.u)).toI), (PV.i (0 : Int))], [])) := by kernel_rfl
/- celluloid/field.within -/
noncomputable def S_field_within_L0 (x1 : Int) (x2 : Int) (x3 : List (List PV)) (x4 : Int) (x5 : Int) : St := mkSt [(0, .v (.int .i64 x1)), (1, .v (.int .i64 x2)), (9, .v (.sl 3 x3)), (10, .v (.int .i64 x4)), (11, .v (.int .i64 x5)), (19, .any), (20, .any), (21, .any)] [] 1000 24
noncomputable def at_field_within_L0 : List Item := (atLoop Try.f69 0)
theorem u_field_within (k : Nat) (a1 : Int) (a2 : Int) (a3 : List (List PV)) : call (k + 1) f_field_within [.i a1, .i a2, .l a3] [] =
  run k f_field_within [] at_field_within_L0 (S_field_within_L0 (a1) (a2) (a3) ((((List.length a3) : Nat) : Int)) ((0 : Int))) := by kernel_rfl
theorem u_field_within_L0 (k : Nat) (x1 : Int) (x2 : Int) (x3 : List (List PV)) (x4 : Int) (x5 : Int) : run (k + 1) f_field_within [] at_field_within_L0 (S_field_within_L0 x1 x2 x3 x4 x5) =
  (bif (decide (x5 < x4)) then (bif (inB x5 (List.length x3)) then ((bif (decide ((((elemAt x3 x5).getD 0 PV.u)).toI < x1)) then some [(PV.b true)]
   else some [(PV.b (decide ((((elemAt x3 x5).getD 0 PV.u)).toI > x2)))])).bind fun r1 =>
  (bif ((r1.getD 0 PV.u)).toB then some ([(PV.b false)], [])
  else run k f_field_within [] at_field_within_L0 (S_field_within_L0 (x1) (x2) (x3) (x4) ((IntKind.wrap .i64 (x5 + (1 : Int))))))
  else none)
  else some ([(PV.b true)], [])) := by kernel_rfl
/- (*celluloid/field.reader).plain -/
theorem u___celluloid_field_reader__plain (k : Nat) (a2 : Int) (p0_1 : List UInt8) (p0_2 : Int) (p0_3 : Int) : call (k + 1) f___celluloid_field_reader__plain [.u, .i a2] [(t_field_reader, [.s p0_1, .i p0_2, .i p0_3])] =
  (bif (p0_3 != (0 : Int)) then some ([(PV.i (0 : Int))], [(t_field_reader, [(PV.s p0_1), (PV.i p0_2), (PV.i p0_3)])])
  else (call k f_bits_Plain [(PV.s p0_1), (PV.i p0_2), (PV.i a2)] []).bind fun r1 =>
  some ([(PV.i (((r1).1.getD 0 PV.u)).toI)], [(t_field_reader, [(PV.s (((r1).1.getD 1 PV.u)).toS), (PV.i (((r1).1.getD 2 PV.u)).toI), (PV.i (((r1).1.getD 3 PV.u)).toI)])])) := by kernel_rfl
/- (*celluloid/field.writer).done -/
theorem u___celluloid_field_writer__done (k : Nat) (p0_1 : List UInt8) (p0_2 : Int) : call (k + 1) f___celluloid_field_writer__done [.u] [(t_field_writer, [.s p0_1, .i p0_2])] =
  (call k f_bits_PutAlign [(PV.s p0_1), (PV.i p0_2)] []).bind fun r1 =>
  some ([(PV.s (((r1).1.getD 0 PV.u)).toS), (PV.i (((r1).1.getD 1 PV.u)).toI)], [(t_field_writer, [(PV.s p0_1), (PV.i p0_2)])]) := by kernel_rfl
/- celluloid/celluloidref02.PutSigned -/
/- celluloid/celluloidref07.TakeMatrix -/
/- celluloid/celluloidref02.put -/
/- celluloid/celluloidref02.Align -/
/- celluloid/celluloidref07.Done -/
/- math/bits.Len32 -/
/- celluloid/field.RightRGBA -/
theorem u_field_RightRGBA (k : Nat) (a1 : Int) (a2 : Int) (a3 : Int) (a4 : Int) : call (k + 1) f_field_RightRGBA [.i a1, .i a2, .i a3, .i a4] [] =
  (call k f_field_within [(PV.i (0 : Int)), (PV.i (255 : Int)), (PV.l (List.set (List.set (List.set (List.set [[(PV.i (0 : Int))], [(PV.i (0 : Int))], [(PV.i (0 : Int))], [(PV.i (0 : Int))]] 0 [(PV.i a1)]) 1 [(PV.i a2)]) 2 [(PV.i a3)]) 3 [(PV.i a4)]))] []).bind fun r1 =>
  some ([(PV.b (((r1).1.getD 0 PV.u)).toB)], []) := by kernel_rfl
/- celluloid/celluloidref07.PutRGBA -/
/- celluloid/celluloidref07.in -/
/- celluloid/celluloidref07.TakeRGBA -/
/- (*celluloid/field.reader).signed -/
theorem u___celluloid_field_reader__signed (k : Nat) (a2 : Int) (p0_1 : List UInt8) (p0_2 : Int) (p0_3 : Int) : call (k + 1) f___celluloid_field_reader__signed [.u, .i a2] [(t_field_reader, [.s p0_1, .i p0_2, .i p0_3])] =
  (bif (p0_3 != (0 : Int)) then some ([(PV.i (0 : Int))], [(t_field_reader, [(PV.s p0_1), (PV.i p0_2), (PV.i p0_3)])])
  else (call k f_bits_Signed [(PV.s p0_1), (PV.i p0_2), (PV.i a2)] []).bind fun r1 =>
  some ([(PV.i (((r1).1.getD 0 PV.u)).toI)], [(t_field_reader, [(PV.s (((r1).1.getD 1 PV.u)).toS), (PV.i (((r1).1.getD 2 PV.u)).toI), (PV.i (((r1).1.getD 3 PV.u)).toI)])])) := by kernel_rfl
/- (*celluloid/field.writer).flag -/
theorem u___celluloid_field_writer__flag (k : Nat) (a2 : Bool) (p0_1 : List UInt8) (p0_2 : Int) : call (k + 1) f___celluloid_field_writer__flag [.u, .b a2] [(t_field_writer, [.s p0_1, .i p0_2])] =
  (bif a2 then (call k f___celluloid_field_writer__plain [PV.u, (PV.i (1 : Int)), (PV.i (1 : Int))] [(t_field_writer, [(PV.s p0_1), (PV.i p0_2)])]).bind fun r1 =>
  some ([], [(t_field_writer, [(PV.s (((((r1).2.getD 0 (0, []))).2.getD 0 PV.u)).toS), (PV.i (((((r1).2.getD 0 (0, []))).2.getD 1 PV.u)).toI)])])
  else (call k f___celluloid_field_writer__plain [PV.u, (PV.i (0 : Int)), (PV.i (1 : Int))] [(t_field_writer, [(PV.s p0_1), (PV.i p0_2)])]).bind fun r2 =>
  some ([], [(t_field_writer, [(PV.s (((((r2).2.getD 0 (0, []))).2.getD 0 PV.u)).toS), (PV.i (((((r2).2.getD 0 (0, []))).2.getD 1 PV.u)).toI)])])) := by kernel_rfl
/- celluloid/field.TakeMatrix -/
theorem u_field_TakeMatrix (k : Nat) (a1 : List UInt8) (a2 : Int) : call (k + 1) f_field_TakeMatrix [.s a1, .i a2] [] =
  (call k f_field_begin [(PV.s a1), (PV.i a2)] []).bind fun r1 =>
  (call k f_field_Same [] []).bind fun r2 =>
  (call k f___celluloid_field_reader__plain [PV.u, (PV.i (1 : Int))] [(t_field_reader, [(PV.s (((((r1).2.getD 0 (0, []))).2.getD 0 PV.u)).toS), (PV.i (((((r1).2.getD 0 (0, []))).2.getD 1 PV.u)).toI), (PV.i (((((r1).2.getD 0 (0, []))).2.getD 2 PV.u)).toI)])]).bind fun r3 =>
  (bif ((((r3).1.getD 0 PV.u)).toI == (1 : Int)) then (call k f___celluloid_field_reader__plain [PV.u, (PV.i (5 : Int))] [(t_field_reader, [(PV.s (((((r3).2.getD 0 (0, []))).2.getD 0 PV.u)).toS), (PV.i (((((r3).2.getD 0 (0, []))).2.getD 1 PV.u)).toI), (PV.i (((((r3).2.getD 0 (0, []))).2.getD 2 PV.u)).toI)])]).bind fun r4 =>
  (call k f___celluloid_field_reader__signed [PV.u, (PV.i (((r4).1.getD 0 PV.u)).toI)] [(t_field_reader, [(PV.s (((((r4).2.getD 0 (0, []))).2.getD 0 PV.u)).toS), (PV.i (((((r4).2.getD 0 (0, []))).2.getD 1 PV.u)).toI), (PV.i (((((r4).2.getD 0 (0, []))).2.getD 2 PV.u)).toI)])]).bind fun r5 =>
  (call k f___celluloid_field_reader__signed [PV.u, (PV.i (((r4).1.getD 0 PV.u)).toI)] [(t_field_reader, [(PV.s (((((r5).2.getD 0 (0, []))).2.getD 0 PV.u)).toS), (PV.i (((((r5).2.getD 0 (0, []))).2.getD 1 PV.u)).toI), (PV.i (((((r5).2.getD 0 (0, []))).2.getD 2 PV.u)).toI)])]).bind fun r6 =>
  (call k f___celluloid_field_reader__plain [PV.u, (PV.i (1 : Int))] [(t_field_reader, [(PV.s (((((r6).2.getD 0 (0, []))).2.getD 0 PV.u)).toS), (PV.i (((((r6).2.getD 0 (0, []))).2.getD 1 PV.u)).toI), (PV.i (((((r6).2.getD 0 (0, []))).2.getD 2 PV.u)).toI)])]).bind fun r7 =>
  (bif ((((r7).1.getD 0 PV.u)).toI == (1 : Int)) then (call k f___celluloid_field_reader__plain [PV.u, (PV.i (5 : Int))] [(t_field_reader, [(PV.s (((((r7).2.getD 0 (0, []))).2.getD 0 PV.u)).toS), (PV.i (((((r7).2.getD 0 (0, []))).2.getD 1 PV.u)).toI), (PV.i (((((r7).2.getD 0 (0, []))).2.getD 2 PV.u)).toI)])]).bind fun r8 =>
  (call k f___celluloid_field_reader__signed [PV.u, (PV.i (((r8).1.getD 0 PV.u)).toI)] [(t_field_reader, [(PV.s (((((r8).2.getD 0 (0, []))).2.getD 0 PV.u)).toS), (PV.i (((((r8).2.getD 0 (0, []))).2.getD 1 PV.u)).toI), (PV.i (((((r8).2.getD 0 (0, []))).2.getD 2 PV.u)).toI)])]).bind fun r9 =>
  (call k f___celluloid_field_reader__signed [PV.u, (PV.i (((r8).1.getD 0 PV.u)).toI)] [(t_field_reader, [(PV.s (((((r9).2.getD 0 (0, []))).2.getD 0 PV.u)).toS), (PV.i (((((r9).2.getD 0 (0, []))).2.getD 1 PV.u)).toI), (PV.i (((((r9).2.getD 0 (0, []))).2.getD 2 PV.u)).toI)])]).bind fun r10 =>
  (call k f___celluloid_field_reader__plain [PV.u, (PV.i (5 : Int))] [(t_field_reader, [(PV.s (((((r10).2.getD 0 (0, []))).2.getD 0 PV.u)).toS), (PV.i (((((r10).2.getD 0 (0, []))).2.getD 1 PV.u)).toI), (PV.i (((((r10).2.getD 0 (0, []))).2.getD 2 PV.u)).toI)])]).bind fun r11 =>
  (call k f___celluloid_field_reader__signed [PV.u, (PV.i (((r11).1.getD 0 PV.u)).toI)] [(t_field_reader, [(PV.s (((((r11).2.getD 0 (0, []))).2.getD 0 PV.u)).toS), (PV.i (((((r11).2.getD 0 (0, []))).2.getD 1 PV.u)).toI), (PV.i (((((r11).2.getD 0 (0, []))).2.getD 2 PV.u)).toI)])]).bind fun r12 =>
  (call k f___celluloid_field_reader__signed [PV.u, (PV.i (((r11).1.getD 0 PV.u)).toI)] [(t_field_reader, [(PV.s (((((r12).2.getD 0 (0, []))).2.getD 0 PV.u)).toS), (PV.i (((((r12).2.getD 0 (0, []))).2.getD 1 PV.u)).toI), (PV.i (((((r12).2.getD 0 (0, []))).2.getD 2 PV.u)).toI)])]).bind fun r13 =>
  (call k f_field_RightMatrix [(PV.i (((r5).1.getD 0 PV.u)).toI), (PV.i (((r9).1.getD 0 PV.u)).toI), (PV.i (((r10).1.getD 0 PV.u)).toI), (PV.i (((r6).1.getD 0 PV.u)).toI), (PV.i (((r12).1.getD 0 PV.u)).toI), (PV.i (((r13).1.getD 0 PV.u)).toI)] []).bind fun r14 =>
  (call k f___celluloid_field_reader__done [PV.u, (PV.b (((r14).1.getD 0 PV.u)).toB)] [(t_field_reader, [(PV.s (((((r13).2.getD 0 (0, []))).2.getD 0 PV.u)).toS), (PV.i (((((r13).2.getD 0 (0, []))).2.getD 1 PV.u)).toI), (PV.i (((((r13).2.getD 0 (0, []))).2.getD 2 PV.u)).toI)])]).bind fun r15 =>
  (bif ((((r15).1.getD 2 PV.u)).toI != (0 : Int)) then some ([(PV.i (0 : Int)), (PV.i (0 : Int)), (PV.i (0 : Int)), (PV.i (0 : Int)), (PV.i (0 : Int)), (PV.i (0 : Int)), (PV.s (((r15).1.getD 0 PV.u)).toS), (PV.i (((r15).1.getD 1 PV.u)).toI), (PV.i (((r15).1.getD 2 PV.u)).toI)], [])
  else some ([(PV.i (((r5).1.getD 0 PV.u)).toI), (PV.i (((r9).1.getD 0 PV.u)).toI), (PV.i (((r10).1.getD 0 PV.u)).toI), (PV.i (((r6).1.getD 0 PV.u)).toI), (PV.i (((r12).1.getD 0 PV.u)).toI), (PV.i (((r13).1.getD 0 PV.u)).toI), (PV.s (((r15).1.getD 0 PV.u)).toS), (PV.i (((r15).1.getD 1 PV.u)).toI), (PV.i (0 : Int))], []))
  else (call k f___celluloid_field_reader__plain [PV.u, (PV.i (5 : Int))] [(t_field_reader, [(PV.s (((((r7).2.getD 0 (0, []))).2.getD 0 PV.u)).toS), (PV.i (((((r7).2.getD 0 (0, []))).2.getD 1 PV.u)).toI), (PV.i (((((r7).2.getD 0 (0, []))).2.getD 2 PV.u)).toI)])]).bind fun r16 =>
  (call k f___celluloid_field_reader__signed [PV.u, (PV.i (((r16).1.getD 0 PV.u)).toI)] [(t_field_reader, [(PV.s (((((r16).2.getD 0 (0, []))).2.getD 0 PV.u)).toS), (PV.i (((((r16).2.getD 0 (0, []))).2.getD 1 PV.u)).toI), (PV.i (((((r16).2.getD 0 (0, []))).2.getD 2 PV.u)).toI)])]).bind fun r17 =>
  (call k f___celluloid_field_reader__signed [PV.u, (PV.i (((r16).1.getD 0 PV.u)).toI)] [(t_field_reader, [(PV.s (((((r17).2.getD 0 (0, []))).2.getD 0 PV.u)).toS), (PV.i (((((r17).2.getD 0 (0, []))).2.getD 1 PV.u)).toI), (PV.i (((((r17).2.getD 0 (0, []))).2.getD 2 PV.u)).toI)])]).bind fun r18 =>
  (call k f_field_RightMatrix [(PV.i (((r5).1.getD 0 PV.u)).toI), (PV.i (((r2).1.getD 1 PV.u)).toI), (PV.i (((r2).1.getD 2 PV.u)).toI), (PV.i (((r6).1.getD 0 PV.u)).toI), (PV.i (((r17).1.getD 0 PV.u)).toI), (PV.i (((r18).1.getD 0 PV.u)).toI)] []).bind fun r19 =>
  (call k f___celluloid_field_reader__done [PV.u, (PV.b (((r19).1.getD 0 PV.u)).toB)] [(t_field_reader, [(PV.s (((((r18).2.getD 0 (0, []))).2.getD 0 PV.u)).toS), (PV.i (((((r18).2.getD 0 (0, []))).2.getD 1 PV.u)).toI), (PV.i (((((r18).2.getD 0 (0, []))).2.getD 2 PV.u)).toI)])]).bind fun r20 =>
  (bif ((((r20).1.getD 2 PV.u)).toI != (0 : Int)) then some ([(PV.i (0 : Int)), (PV.i (0 : Int)), (PV.i (0 : Int)), (PV.i (0 : Int)), (PV.i (0 : Int)), (PV.i (0 : Int)), (PV.s (((r20).1.getD 0 PV.u)).toS), (PV.i (((r20).1.getD 1 PV.u)).toI), (PV.i (((r20).1.getD 2 PV.u)).toI)], [])
  else some ([(PV.i (((r5).1.getD 0 PV.u)).toI), (PV.i (((r2).1.getD 1 PV.u)).toI), (PV.i (((r2).1.getD 2 PV.u)).toI), (PV.i (((r6).1.getD 0 PV.u)).toI), (PV.i (((r17).1.getD 0 PV.u)).toI), (PV.i (((r18).1.getD 0 PV.u)).toI), (PV.s (((r20).1.getD 0 PV.u)).toS), (PV.i (((r20).1.getD 1 PV.u)).toI), (PV.i (0 : Int))], [])))
  else (call k f___celluloid_field_reader__plain [PV.u, (PV.i (1 : Int))] [(t_field_reader, [(PV.s (((((r3).2.getD 0 (0, []))).2.getD 0 PV.u)).toS), (PV.i (((((r3).2.getD 0 (0, []))).2.getD 1 PV.u)).toI), (PV.i (((((r3).2.getD 0 (0, []))).2.getD 2 PV.u)).toI)])]).bind fun r21 =>
  (bif ((((r21).1.getD 0 PV.u)).toI == (1 : Int)) then (call k f___celluloid_field_reader__plain [PV.u, (PV.i (5 : Int))] [(t_field_reader, [(PV.s (((((r21).2.getD 0 (0, []))).2.getD 0 PV.u)).toS), (PV.i (((((r21).2.getD 0 (0, []))).2.getD 1 PV.u)).toI), (PV.i (((((r21).2.getD 0 (0, []))).2.getD 2 PV.u)).toI)])]).bind fun r22 =>
  (call k f___celluloid_field_reader__signed [PV.u, (PV.i (((r22).1.getD 0 PV.u)).toI)] [(t_field_reader, [(PV.s (((((r22).2.getD 0 (0, []))).2.getD 0 PV.u)).toS), (PV.i (((((r22).2.getD 0 (0, []))).2.getD 1 PV.u)).toI), (PV.i (((((r22).2.getD 0 (0, []))).2.getD 2 PV.u)).toI)])]).bind fun r23 =>
  (call k f___celluloid_field_reader__signed [PV.u, (PV.i (((r22).1.getD 0 PV.u)).toI)] [(t_field_reader, [(PV.s (((((r23).2.getD 0 (0, []))).2.getD 0 PV.u)).toS), (PV.i (((((r23).2.getD 0 (0, []))).2.getD 1 PV.u)).toI), (PV.i (((((r23).2.getD 0 (0, []))).2.getD 2 PV.u)).toI)])]).bind fun r24 =>
  (call k f___celluloid_field_reader__plain [PV.u, (PV.i (5 : Int))] [(t_field_reader, [(PV.s (((((r24).2.getD 0 (0, []))).2.getD 0 PV.u)).toS), (PV.i (((((r24).2.getD 0 (0, []))).2.getD 1 PV.u)).toI), (PV.i (((((r24).2.getD 0 (0, []))).2.getD 2 PV.u)).toI)])]).bind fun r25 =>
  (call k f___celluloid_field_reader__signed [PV.u, (PV.i (((r25).1.getD 0 PV.u)).toI)] [(t_field_reader, [(PV.s (((((r25).2.getD 0 (0, []))).2.getD 0 PV.u)).toS), (PV.i (((((r25).2.getD 0 (0, []))).2.getD 1 PV.u)).toI), (PV.i (((((r25).2.getD 0 (0, []))).2.getD 2 PV.u)).toI)])]).bind fun r26 =>
  (call k f___celluloid_field_reader__signed [PV.u, (PV.i (((r25).1.getD 0 PV.u)).toI)] [(t_field_reader, [(PV.s (((((r26).2.getD 0 (0, []))).2.getD 0 PV.u)).toS), (PV.i (((((r26).2.getD 0 (0, []))).2.getD 1 PV.u)).toI), (PV.i (((((r26).2.getD 0 (0, []))).2.getD 2 PV.u)).toI)])]).bind fun r27 =>
  (call k f_field_RightMatrix [(PV.i (((r2).1.getD 0 PV.u)).toI), (PV.i (((r23).1.getD 0 PV.u)).toI), (PV.i (((r24).1.getD 0 PV.u)).toI), (PV.i (((r2).1.getD 3 PV.u)).toI), (PV.i (((r26).1.getD 0 PV.u)).toI), (PV.i (((r27).1.getD 0 PV.u)).toI)] []).bind fun r28 =>
  (call k f___celluloid_field_reader__done [PV.u, (PV.b (((r28).1.getD 0 PV.u)).toB)] [(t_field_reader, [(PV.s (((((r27).2.getD 0 (0, []))).2.getD 0 PV.u)).toS), (PV.i (((((r27).2.getD 0 (0, []))).2.getD 1 PV.u)).toI), (PV.i (((((r27).2.getD 0 (0, []))).2.getD 2 PV.u)).toI)])]).bind fun r29 =>
  (bif ((((r29).1.getD 2 PV.u)).toI != (0 : Int)) then some ([(PV.i (0 : Int)), (PV.i (0 : Int)), (PV.i (0 : Int)), (PV.i (0 : Int)), (PV.i (0 : Int)), (PV.i (0 : Int)), (PV.s (((r29).1.getD 0 PV.u)).toS), (PV.i (((r29).1.getD 1 PV.u)).toI), (PV.i (((r29).1.getD 2 PV.u)).toI)], [])
  else some ([(PV.i (((r2).1.getD 0 PV.u)).toI), (PV.i (((r23).1.getD 0 PV.u)).toI), (PV.i (((r24).1.getD 0 PV.u)).toI), (PV.i (((r2).1.getD 3 PV.u)).toI), (PV.i (((r26).1.getD 0 PV.u)).toI), (PV.i (((r27).1.getD 0 PV.u)).toI), (PV.s (((r29).1.getD 0 PV.u)).toS), (PV.i (((r29).1.getD 1 PV.u)).toI), (PV.i (0 : Int))], []))
  else (call k f___celluloid_field_reader__plain [PV.u, (PV.i (5 : Int))] [(t_field_reader, [(PV.s (((((r21).2.getD 0 (0, []))).2.getD 0 PV.u)).toS), (PV.i (((((r21).2.getD 0 (0, []))).2.getD 1 PV.u)).toI), (PV.i (((((r21).2.getD 0 (0, []))).2.getD 2 PV.u)).toI)])]).bind fun r30 =>
  (call k f___celluloid_field_reader__signed [PV.u, (PV.i (((r30).1.getD 0 PV.u)).toI)] [(t_field_reader, [(PV.s (((((r30).2.getD 0 (0, []))).2.getD 0 PV.u)).toS), (PV.i (((((r30).2.getD 0 (0, []))).2.getD 1 PV.u)).toI), (PV.i (((((r30).2.getD 0 (0, []))).2.getD 2 PV.u)).toI)])]).bind fun r31 =>
  (call k f___celluloid_field_reader__signed [PV.u, (PV.i (((r30).1.getD 0 PV.u)).toI)] [(t_field_reader, [(PV.s (((((r31).2.getD 0 (0, []))).2.getD 0 PV.u)).toS), (PV.i (((((r31).2.getD 0 (0, []))).2.getD 1 PV.u)).toI), (PV.i (((((r31).2.getD 0 (0, []))).2.getD 2 PV.u)).toI)])]).bind fun r32 =>
  (call k f_field_RightMatrix [(PV.i (((r2).1.getD 0 PV.u)).toI), (PV.i (((r2).1.getD 1 PV.u)).toI), (PV.i (((r2).1.getD 2 PV.u)).toI), (PV.i (((r2).1.getD 3 PV.u)).toI), (PV.i (((r31).1.getD 0 PV.u)).toI), (PV.i (((r32).1.getD 0 PV.u)).toI)] []).bind fun r33 =>
  (call k f___celluloid_field_reader__done [PV.u, (PV.b (((r33).1.getD 0 PV.u)).toB)] [(t_field_reader, [(PV.s (((((r32).2.getD 0 (0, []))).2.getD 0 PV.u)).toS), (PV.i (((((r32).2.getD 0 (0, []))).2.getD 1 PV.u)).toI), (PV.i (((((r32).2.getD 0 (0, []))).2.getD 2 PV.u)).toI)])]).bind fun r34 =>
  (bif ((((r34).1.getD 2 PV.u)).toI != (0 : Int)) then some ([(PV.i (0 : Int)), (PV.i (0 : Int)), (PV.i (0 : Int)), (PV.i (0 : Int)), (PV.i (0 : Int)), (PV.i (0 : Int)), (PV.s (((r34).1.getD 0 PV.u)).toS), (PV.i (((r34).1.getD 1 PV.u)).toI), (PV.i (((r34).1.getD 2 PV.u)).toI)], [])
  else some ([(PV.i (((r2).1.getD 0 PV.u)).toI), (PV.i (((r2).1.getD 1 PV.u)).toI), (PV.i (((r2).1.getD 2 PV.u)).toI), (PV.i (((r2).1.getD 3 PV.u)).toI), (PV.i (((r31).1.getD 0 PV.u)).toI), (PV.i (((r32).1.getD 0 PV.u)).toI), (PV.s (((r34).1.getD 0 PV.u)).toS), (PV.i (((r34).1.getD 1 PV.u)).toI), (PV.i (0 : Int))], [])))) := by kernel_rfl
/- celluloid/bits.PlainWidth -/
noncomputable def S_bits_PlainWidth_L0 (x1 : Int) (x2 : List (List PV)) (x3 : Int) (x4 : Int) : St := mkSt [(3, .v (.int .i64 x1)), (6, .v (.sl 3 x2)), (7, .v (.int .i64 x3)), (8, .v (.int .i64 x4))] [] 1000 20
noncomputable def at_bits_PlainWidth_L0 : List Item := (atLoop Try.f110 0)
theorem u_bits_PlainWidth (k : Nat) (a1 : List (List PV)) : call (k + 1) f_bits_PlainWidth [.l a1] [] =
  run k f_bits_PlainWidth [] at_bits_PlainWidth_L0 (S_bits_PlainWidth_L0 ((0 : Int)) (a1) ((((List.length a1) : Nat) : Int)) ((0 : Int))) := by kernel_rfl
theorem u_bits_PlainWidth_L0 (k : Nat) (x1 : Int) (x2 : List (List PV)) (x3 : Int) (x4 : Int) : run (k + 1) f_bits_PlainWidth [] at_bits_PlainWidth_L0 (S_bits_PlainWidth_L0 x1 x2 x3 x4) =
  (bif (decide (x4 < x3)) then (bif (inB x4 (List.length x2)) then (call k f_math_bits_Len [(PV.i (IntKind.wrap .u64 (bif (decide ((0 : Int) > (((elemAt x2 x4).getD 0 PV.u)).toI)) then (0 : Int) else (((elemAt x2 x4).getD 0 PV.u)).toI)))] []).bind fun r1 =>
  run k f_bits_PlainWidth [] at_bits_PlainWidth_L0 (S_bits_PlainWidth_L0 ((bif (decide ((((r1).1.getD 0 PV.u)).toI > x1)) then (((r1).1.getD 0 PV.u)).toI else x1)) (x2) (x3) ((IntKind.wrap .i64 (x4 + (1 : Int)))))
  else none)
  else some ([(PV.i x1)], [])) := by kernel_rfl
/- celluloid/bits.PutPlain -/
noncomputable def S_bits_PutPlain_L0 (x1 : Int) (x2 : Int) (x3 : List (List PV)) (x4 : List UInt8) (x5 : Int) (x6 : List UInt8) (x7 : Int) : St := mkSt [(1, .v (.int .i64 x1)), (3, .v (.ptr (.n 1 0 0) 0)), (6, .v (.ptr (.n 1 1 0) 0)), (8, .v (.wr (.w 8))), (9, .v (.int .i64 x2))] [((.w 8), .row 5 x3), ((.n 1 0 0), .cells 40 [.str x4, .int .i64 x5]), ((.n 1 1 0), .cells 40 [.str x6, .int .i64 x7])] 1000 96
noncomputable def at_bits_PutPlain_L0 : List Item := (atLoop Try.f114 0)
theorem u_bits_PutPlain (k : Nat) (a1 : List UInt8) (a2 : Int) (a3 : Int) (a4 : Int) : call (k + 1) f_bits_PutPlain [.s a1, .i a2, .i a3, .i a4] [] =
  ((bif (decide (a4 < (0 : Int))) then some [(PV.b true)]
   else (bif (decide (a4 > (31 : Int))) then some [(PV.b true)]
   else (bif (decide (a3 < (0 : Int))) then some [(PV.b true)]
   else (bif (decide ((0 : Int) ≤ a4)) then some [(PV.b ((shr .i64 a3 a4) != (0 : Int)))]
   else none))))).bind fun r1 =>
  (bif ((r1.getD 0 PV.u)).toB then some ([(PV.s []), (PV.i (0 : Int)), (PV.i (1 : Int))], [])
  else ((bif (decide (a2 < (0 : Int))) then some [(PV.b true)]
   else (bif (decide (a2 > (7 : Int))) then some [(PV.b true)]
   else (bif ((((List.length (ofBytes a1)) : Nat) : Int) == (0 : Int)) then some [(PV.b true)]
   else (bif (inB (IntKind.wrap .i64 ((((List.length (ofBytes a1)) : Nat) : Int) - (1 : Int))) (List.length (ofBytes a1))) then (bif (inB (IntKind.wrap .i64 ((((List.length (ofBytes a1)) : Nat) : Int) - (1 : Int))) (List.length (ofBytes a1))) then (bif (decide ((0 : Int) ≤ a2)) then some [(PV.b ((bitsOp Go.BinOp.and .u8 (((elemAt (ofBytes a1) (IntKind.wrap .i64 ((((List.length (ofBytes a1)) : Nat) : Int) - (1 : Int)))).getD 0 PV.u)).toI (IntKind.wrap .u8 ((shl .u8 (1 : Int) a2) - (1 : Int)))) != (0 : Int)))]
   else none)
   else none)
   else none))))).bind fun r2 =>
  (bif ((r2.getD 0 PV.u)).toB then run k f_bits_PutPlain [] at_bits_PutPlain_L0 (S_bits_PutPlain_L0 (a3) ((IntKind.wrap .i64 (a4 - (1 : Int)))) ((ofBytes a1)) (a1) ((0 : Int)) ([]) ((0 : Int)))
  else run k f_bits_PutPlain [] at_bits_PutPlain_L0 (S_bits_PutPlain_L0 (a3) ((IntKind.wrap .i64 (a4 - (1 : Int)))) ((ofBytes a1)) (a1) (a2) ([]) ((0 : Int))))) := by kernel_rfl
theorem u_bits_PutPlain_L0 (k : Nat) (x1 : Int) (x2 : Int) (x3 : List (List PV)) (x4 : List UInt8) (x5 : Int) (x6 : List UInt8) (x7 : Int) : run (k + 1) f_bits_PutPlain [] at_bits_PutPlain_L0 (S_bits_PutPlain_L0 x1 x2 x3 x4 x5 x6 x7) =
  (bif (decide (x2 ≥ (0 : Int))) then (bif (x5 == (0 : Int)) then (bif (decide (((((List.length x3) + 1) + 1000) * 2) ≤ 1099511627776)) then (bif (inB (IntKind.wrap .i64 ((((List.length (x3 ++ [[(PV.i (0 : Int))]])) : Nat) : Int) - (1 : Int))) (List.length (x3 ++ [[(PV.i (0 : Int))]]))) then (bif (inB (IntKind.wrap .i64 ((((List.length (x3 ++ [[(PV.i (0 : Int))]])) : Nat) : Int) - (1 : Int))) (List.length (x3 ++ [[(PV.i (0 : Int))]]))) then (bif (decide ((0 : Int) ≤ x2)) then (bif (inB (IntKind.wrap .i64 ((((List.length (x3 ++ [[(PV.i (0 : Int))]])) : Nat) : Int) - (1 : Int))) (List.length (x3 ++ [[(PV.i (0 : Int))]]))) then (bif (inB (IntKind.wrap .i64 ((((List.length (x3 ++ [[(PV.i (0 : Int))]])) : Nat) : Int) - (1 : Int))) (List.length (x3 ++ [[(PV.i (0 : Int))]]))) then run k f_bits_PutPlain [] at_bits_PutPlain_L0 (S_bits_PutPlain_L0 (x1) ((IntKind.wrap .i64 (x2 - (1 : Int)))) ((List.set (x3 ++ [[(PV.i (0 : Int))]]) (Int.toNat (IntKind.wrap .i64 ((((List.length (x3 ++ [[(PV.i (0 : Int))]])) : Nat) : Int) - (1 : Int)))) (putAt (elemAt (x3 ++ [[(PV.i (0 : Int))]]) (IntKind.wrap .i64 ((((List.length (x3 ++ [[(PV.i (0 : Int))]])) : Nat) : Int) - (1 : Int)))) 0 [(PV.i (bitsOp Go.BinOp.or .u8 (((elemAt (x3 ++ [[(PV.i (0 : Int))]]) (IntKind.wrap .i64 ((((List.length (x3 ++ [[(PV.i (0 : Int))]])) : Nat) : Int) - (1 : Int)))).getD 0 PV.u)).toI (shl .u8 (IntKind.wrap .u8 (bitsOp Go.BinOp.and .i64 (shr .i64 x1 x2) (1 : Int))) (7 : Int))))]))) (x4) ((7 : Int)) (x6) (x7))
  else none)
  else none)
  else none)
  else none)
  else none)
  else none)
  else (bif (inB (IntKind.wrap .i64 ((((List.length x3) : Nat) : Int) - (1 : Int))) (List.length x3)) then (bif (inB (IntKind.wrap .i64 ((((List.length x3) : Nat) : Int) - (1 : Int))) (List.length x3)) then (bif (decide ((0 : Int) ≤ x2)) then (bif (decide ((0 : Int) ≤ (IntKind.wrap .i64 (x5 - (1 : Int))))) then (bif (inB (IntKind.wrap .i64 ((((List.length x3) : Nat) : Int) - (1 : Int))) (List.length x3)) then (bif (inB (IntKind.wrap .i64 ((((List.length x3) : Nat) : Int) - (1 : Int))) (List.length x3)) then run k f_bits_PutPlain [] at_bits_PutPlain_L0 (S_bits_PutPlain_L0 (x1) ((IntKind.wrap .i64 (x2 - (1 : Int)))) ((List.set x3 (Int.toNat (IntKind.wrap .i64 ((((List.length x3) : Nat) : Int) - (1 : Int)))) (putAt (elemAt x3 (IntKind.wrap .i64 ((((List.length x3) : Nat) : Int) - (1 : Int)))) 0 [(PV.i (bitsOp Go.BinOp.or .u8 (((elemAt x3 (IntKind.wrap .i64 ((((List.length x3) : Nat) : Int) - (1 : Int)))).getD 0 PV.u)).toI (shl .u8 (IntKind.wrap .u8 (bitsOp Go.BinOp.and .i64 (shr .i64 x1 x2) (1 : Int))) (IntKind.wrap .i64 (x5 - (1 : Int))))))]))) (x4) ((IntKind.wrap .i64 (x5 - (1 : Int)))) (x6) (x7))
  else none)
  else none)
  else none)
  else none)
  else none)
  else none))
  else some ([(PV.s (toBytes x3)), (PV.i x5), (PV.i (0 : Int))], [])) := by kernel_rfl
/- celluloid/bits.Signed -/
theorem u_bits_Signed (k : Nat) (a1 : List UInt8) (a2 : Int) (a3 : Int) : call (k + 1) f_bits_Signed [.s a1, .i a2, .i a3] [] =
  (call k f_bits_Plain [(PV.s a1), (PV.i a2), (PV.i a3)] []).bind fun r1 =>
  ((bif ((((r1).1.getD 3 PV.u)).toI == (0 : Int)) then (bif (decide (a3 > (0 : Int))) then (bif (decide ((0 : Int) ≤ (IntKind.wrap .i64 (a3 - (1 : Int))))) then some [(PV.b ((shr .i64 (((r1).1.getD 0 PV.u)).toI (IntKind.wrap .i64 (a3 - (1 : Int)))) == (1 : Int)))]
   else none)
   else some [(PV.b false)])
   else some [(PV.b false)])).bind fun r2 =>
  (bif ((r2.getD 0 PV.u)).toB then (bif (decide ((0 : Int) ≤ a3)) then some ([(PV.i (IntKind.wrap .i64 ((((r1).1.getD 0 PV.u)).toI - (shl .i64 (1 : Int) a3)))), (PV.s (((r1).1.getD 1 PV.u)).toS), (PV.i (((r1).1.getD 2 PV.u)).toI), (PV.i (((r1).1.getD 3 PV.u)).toI)], [])
  else none)
  else some ([(PV.i (((r1).1.getD 0 PV.u)).toI), (PV.s (((r1).1.getD 1 PV.u)).toS), (PV.i (((r1).1.getD 2 PV.u)).toI), (PV.i (((r1).1.getD 3 PV.u)).toI)], [])) := by kernel_rfl
/- celluloid/celluloidref02.Width -/
/- celluloid/celluloidref07.Plain -/
/- math/bits.Len -/
theorem u_math_bits_Len (k : Nat) (a1 : Int) : call (k + 1) f_math_bits_Len [.i a1] [] =
  (call k f_math_bits_Len64 [(PV.i a1)] []).bind fun r1 =>
  some ([(PV.i (((r1).1.getD 0 PV.u)).toI)], []) := by kernel_rfl
/- math/bits.Len64 -/
theorem u_math_bits_Len64 (k : Nat) (a1 : Int) : call (k + 1) f_math_bits_Len64 [.i a1] [] =
  (bif (decide (a1 ≥ (4294967296 : Int))) then (bif (decide ((shr .u64 a1 (32 : Int)) ≥ (65536 : Int))) then (bif (decide ((shr .u64 (shr .u64 a1 (32 : Int)) (16 : Int)) ≥ (256 : Int))) then (bif (inB (IntKind.wrap .u8 (shr .u64 (shr .u64 (shr .u64 a1 (32 : Int)) (16 : Int)) (8 : Int))) 256) then some ([(PV.i (IntKind.wrap .i64 ((56 : Int) + (IntKind.wrap .i64 (bt [0, 1, 2, 2, 3, 3, 3, 3, 4, 4, 4, 4, 4, 4, 4, 4, 5, 5, 5, 5, 5, 5, 5, 5, 5, 5, 5, 5, 5, 5, 5, 5, 6, 6, 6, 6, 6, 6, 6, 6, 6, 6, 6, 6, 6, 6, 6, 6, 6, 6, 6, 6, 6, 6, 6, 6, 6, 6, 6, 6, 6, 6, 6, 6, 7, 7, 7, 7, 7, 7, 7, 7, 7, 7, 7, 7, 7, 7, 7, 7, 7, 7, 7, 7, 7, 7, 7, 7, 7, 7, 7, 7, 7, 7, 7, 7, 7, 7, 7, 7, 7, 7, 7, 7, 7, 7, 7, 7, 7, 7, 7, 7, 7, 7, 7, 7, 7, 7, 7, 7, 7, 7, 7, 7, 7, 7, 7, 7, 8, 8, 8, 8, 8, 8, 8, 8, 8, 8, 8, 8, 8, 8, 8, 8, 8, 8, 8, 8, 8, 8, 8, 8, 8, 8, 8, 8, 8, 8, 8, 8, 8, 8, 8, 8, 8, 8, 8, 8, 8, 8, 8, 8, 8, 8, 8, 8, 8, 8, 8, 8, 8, 8, 8, 8, 8, 8, 8, 8, 8, 8, 8, 8, 8, 8, 8, 8, 8, 8, 8, 8, 8, 8, 8, 8, 8, 8, 8, 8, 8, 8, 8, 8, 8, 8, 8, 8, 8, 8, 8, 8, 8, 8, 8, 8, 8, 8, 8, 8, 8, 8, 8, 8, 8, 8, 8, 8, 8, 8, 8, 8, 8, 8, 8, 8, 8, 8, 8, 8, 8, 8, 8, 8, 8, 8, 8, 8] (IntKind.wrap .u8 (shr .u64 (shr .u64 (shr .u64 a1 (32 : Int)) (16 : Int)) (8 : Int))))))))], [])
  else none)
  else (bif (inB (IntKind.wrap .u8 (shr .u64 (shr .u64 a1 (32 : Int)) (16 : Int))) 256) then some ([(PV.i (IntKind.wrap .i64 ((48 : Int) + (IntKind.wrap .i64 (bt [0, 1, 2, 2, 3, 3, 3, 3, 4, 4, 4, 4, 4, 4, 4, 4, 5, 5, 5, 5, 5, 5, 5, 5, 5, 5, 5, 5, 5, 5, 5, 5, 6, 6, 6, 6, 6, 6, 6, 6, 6, 6, 6, 6, 6, 6, 6, 6, 6, 6, 6, 6, 6, 6, 6, 6, 6, 6, 6, 6, 6, 6, 6, 6, 7, 7, 7, 7, 7, 7, 7, 7, 7, 7, 7, 7, 7, 7, 7, 7, 7, 7, 7, 7, 7, 7, 7, 7, 7, 7, 7, 7, 7, 7, 7, 7, 7, 7, 7, 7, 7, 7, 7, 7, 7, 7, 7, 7, 7, 7, 7, 7, 7, 7, 7, 7, 7, 7, 7, 7, 7, 7, 7, 7, 7, 7, 7, 7, 8, 8, 8, 8, 8, 8, 8, 8, 8, 8, 8, 8, 8, 8, 8, 8, 8, 8, 8, 8, 8, 8, 8, 8, 8, 8, 8, 8, 8, 8, 8, 8, 8, 8, 8, 8, 8, 8, 8, 8, 8, 8, 8, 8, 8, 8, 8, 8, 8, 8, 8, 8, 8, 8, 8, 8, 8, 8, 8, 8, 8, 8, 8, 8, 8, 8, 8, 8, 8, 8, 8, 8, 8, 8, 8, 8, 8, 8, 8, 8, 8, 8, 8, 8, 8, 8, 8, 8, 8, 8, 8, 8, 8, 8, 8, 8, 8, 8, 8, 8, 8, 8, 8, 8, 8, 8, 8, 8, 8, 8, 8, 8, 8, 8, 8, 8, 8, 8, 8, 8, 8, 8, 8, 8, 8, 8, 8, 8] (IntKind.wrap .u8 (shr .u64 (shr .u64 a1 (32 : Int)) (16 : Int))))))))], [])
  else none))
  else (bif (decide ((shr .u64 a1 (32 : Int)) ≥ (256 : Int))) then (bif (inB (IntKind.wrap .u8 (shr .u64 (shr .u64 a1 (32 : Int)) (8 : Int))) 256) then some ([(PV.i (IntKind.wrap .i64 ((40 : Int) + (IntKind.wrap .i64 (bt [0, 1, 2, 2, 3, 3, 3, 3, 4, 4, 4, 4, 4, 4, 4, 4, 5, 5, 5, 5, 5, 5, 5, 5, 5, 5, 5, 5, 5, 5, 5, 5, 6, 6, 6, 6, 6, 6, 6, 6, 6, 6, 6, 6, 6, 6, 6, 6, 6, 6, 6, 6, 6, 6, 6, 6, 6, 6, 6, 6, 6, 6, 6, 6, 7, 7, 7, 7, 7, 7, 7, 7, 7, 7, 7, 7, 7, 7, 7, 7, 7, 7, 7, 7, 7, 7, 7, 7, 7, 7, 7, 7, 7, 7, 7, 7, 7, 7, 7, 7, 7, 7, 7, 7, 7, 7, 7, 7, 7, 7, 7, 7, 7, 7, 7, 7, 7, 7, 7, 7, 7, 7, 7, 7, 7, 7, 7, 7, 8, 8, 8, 8, 8, 8, 8, 8, 8, 8, 8, 8, 8, 8, 8, 8, 8, 8, 8, 8, 8, 8, 8, 8, 8, 8, 8, 8, 8, 8, 8, 8, 8, 8, 8, 8, 8, 8, 8, 8, 8, 8, 8, 8, 8, 8, 8, 8, 8, 8, 8, 8, 8, 8, 8, 8, 8, 8, 8, 8, 8, 8, 8, 8, 8, 8, 8, 8, 8, 8, 8, 8, 8, 8, 8, 8, 8, 8, 8, 8, 8, 8, 8, 8, 8, 8, 8, 8, 8, 8, 8, 8, 8, 8, 8, 8, 8, 8, 8, 8, 8, 8, 8, 8, 8, 8, 8, 8, 8, 8, 8, 8, 8, 8, 8, 8, 8, 8, 8, 8, 8, 8, 8, 8, 8, 8, 8, 8] (IntKind.wrap .u8 (shr .u64 (shr .u64 a1 (32 : Int)) (8 : Int))))))))], [])
  else none)
  else (bif (inB (IntKind.wrap .u8 (shr .u64 a1 (32 : Int))) 256) then some ([(PV.i (IntKind.wrap .i64 ((32 : Int) + (IntKind.wrap .i64 (bt [0, 1, 2, 2, 3, 3, 3, 3, 4, 4, 4, 4, 4, 4, 4, 4, 5, 5, 5, 5, 5, 5, 5, 5, 5, 5, 5, 5, 5, 5, 5, 5, 6, 6, 6, 6, 6, 6, 6, 6, 6, 6, 6, 6, 6, 6, 6, 6, 6, 6, 6, 6, 6, 6, 6, 6, 6, 6, 6, 6, 6, 6, 6, 6, 7, 7, 7, 7, 7, 7, 7, 7, 7, 7, 7, 7, 7, 7, 7, 7, 7, 7, 7, 7, 7, 7, 7, 7, 7, 7, 7, 7, 7, 7, 7, 7, 7, 7, 7, 7, 7, 7, 7, 7, 7, 7, 7, 7, 7, 7, 7, 7, 7, 7, 7, 7, 7, 7, 7, 7, 7, 7, 7, 7, 7, 7, 7, 7, 8, 8, 8, 8, 8, 8, 8, 8, 8, 8, 8, 8, 8, 8, 8, 8, 8, 8, 8, 8, 8, 8, 8, 8, 8, 8, 8, 8, 8, 8, 8, 8, 8, 8, 8, 8, 8, 8, 8, 8, 8, 8, 8, 8, 8, 8, 8, 8, 8, 8, 8, 8, 8, 8, 8, 8, 8, 8, 8, 8, 8, 8, 8, 8, 8, 8, 8, 8, 8, 8, 8, 8, 8, 8, 8, 8, 8, 8, 8, 8, 8, 8, 8, 8, 8, 8, 8, 8, 8, 8, 8, 8, 8, 8, 8, 8, 8, 8, 8, 8, 8, 8, 8, 8, 8, 8, 8, 8, 8, 8, 8, 8, 8, 8, 8, 8, 8, 8, 8, 8, 8, 8, 8, 8, 8, 8, 8, 8] (IntKind.wrap .u8 (shr .u64 a1 (32 : Int))))))))], [])
  else none)))
  else (bif (decide (a1 ≥ (65536 : Int))) then (bif (decide ((shr .u64 a1 (16 : Int)) ≥ (256 : Int))) then (bif (inB (IntKind.wrap .u8 (shr .u64 (shr .u64 a1 (16 : Int)) (8 : Int))) 256) then some ([(PV.i (IntKind.wrap .i64 ((24 : Int) + (IntKind.wrap .i64 (bt [0, 1, 2, 2, 3, 3, 3, 3, 4, 4, 4, 4, 4, 4, 4, 4, 5, 5, 5, 5, 5, 5, 5, 5, 5, 5, 5, 5, 5, 5, 5, 5, 6, 6, 6, 6, 6, 6, 6, 6, 6, 6, 6, 6, 6, 6, 6, 6, 6, 6, 6, 6, 6, 6, 6, 6, 6, 6, 6, 6, 6, 6, 6, 6, 7, 7, 7, 7, 7, 7, 7, 7, 7, 7, 7, 7, 7, 7, 7, 7, 7, 7, 7, 7, 7, 7, 7, 7, 7, 7, 7, 7, 7, 7, 7, 7, 7, 7, 7, 7, 7, 7, 7, 7, 7, 7, 7, 7, 7, 7, 7, 7, 7, 7, 7, 7, 7, 7, 7, 7, 7, 7, 7, 7, 7, 7, 7, 7, 8, 8, 8, 8, 8, 8, 8, 8, 8, 8, 8, 8, 8, 8, 8, 8, 8, 8, 8, 8, 8, 8, 8, 8, 8, 8, 8, 8, 8, 8, 8, 8, 8, 8, 8, 8, 8, 8, 8, 8, 8, 8, 8, 8, 8, 8, 8, 8, 8, 8, 8, 8, 8, 8, 8, 8, 8, 8, 8, 8, 8, 8, 8, 8, 8, 8, 8, 8, 8, 8, 8, 8, 8, 8, 8, 8, 8, 8, 8, 8, 8, 8, 8, 8, 8, 8, 8, 8, 8, 8, 8, 8, 8, 8, 8, 8, 8, 8, 8, 8, 8, 8, 8, 8, 8, 8, 8, 8, 8, 8, 8, 8, 8, 8, 8, 8, 8, 8, 8, 8, 8, 8, 8, 8, 8, 8, 8, 8] (IntKind.wrap .u8 (shr .u64 (shr .u64 a1 (16 : Int)) (8 : Int))))))))], [])
  else none)
  else (bif (inB (IntKind.wrap .u8 (shr .u64 a1 (16 : Int))) 256) then some ([(PV.i (IntKind.wrap .i64 ((16 : Int) + (IntKind.wrap .i64 (bt [0, 1, 2, 2, 3, 3, 3, 3, 4, 4, 4, 4, 4, 4, 4, 4, 5, 5, 5, 5, 5, 5, 5, 5, 5, 5, 5, 5, 5, 5, 5, 5, 6, 6, 6, 6, 6, 6, 6, 6, 6, 6, 6, 6, 6, 6, 6, 6, 6, 6, 6, 6, 6, 6, 6, 6, 6, 6, 6, 6, 6, 6, 6, 6, 7, 7, 7, 7, 7, 7, 7, 7, 7, 7, 7, 7, 7, 7, 7, 7, 7, 7, 7, 7, 7, 7, 7, 7, 7, 7, 7, 7, 7, 7, 7, 7, 7, 7, 7, 7, 7, 7, 7, 7, 7, 7, 7, 7, 7, 7, 7, 7, 7, 7, 7, 7, 7, 7, 7, 7, 7, 7, 7, 7, 7, 7, 7, 7, 8, 8, 8, 8, 8, 8, 8, 8, 8, 8, 8, 8, 8, 8, 8, 8, 8, 8, 8, 8, 8, 8, 8, 8, 8, 8, 8, 8, 8, 8, 8, 8, 8, 8, 8, 8, 8, 8, 8, 8, 8, 8, 8, 8, 8, 8, 8, 8, 8, 8, 8, 8, 8, 8, 8, 8, 8, 8, 8, 8, 8, 8, 8, 8, 8, 8, 8, 8, 8, 8, 8, 8, 8, 8, 8, 8, 8, 8, 8, 8, 8, 8, 8, 8, 8, 8, 8, 8, 8, 8, 8, 8, 8, 8, 8, 8, 8, 8, 8, 8, 8, 8, 8, 8, 8, 8, 8, 8, 8, 8, 8, 8, 8, 8, 8, 8, 8, 8, 8, 8, 8, 8, 8, 8, 8, 8, 8, 8] (IntKind.wrap .u8 (shr .u64 a1 (16 : Int))))))))], [])
  else none))
  else (bif (decide (a1 ≥ (256 : Int))) then (bif (inB (IntKind.wrap .u8 (shr .u64 a1 (8 : Int))) 256) then some ([(PV.i (IntKind.wrap .i64 ((8 : Int) + (IntKind.wrap .i64 (bt [0, 1, 2, 2, 3, 3, 3, 3, 4, 4, 4, 4, 4, 4, 4, 4, 5, 5, 5, 5, 5, 5, 5, 5, 5, 5, 5, 5, 5, 5, 5, 5, 6, 6, 6, 6, 6, 6, 6, 6, 6, 6, 6, 6, 6, 6, 6, 6, 6, 6, 6, 6, 6, 6, 6, 6, 6, 6, 6, 6, 6, 6, 6, 6, 7, 7, 7, 7, 7, 7, 7, 7, 7, 7, 7, 7, 7, 7, 7, 7, 7, 7, 7, 7, 7, 7, 7, 7, 7, 7, 7, 7, 7, 7, 7, 7, 7, 7, 7, 7, 7, 7, 7, 7, 7, 7, 7, 7, 7, 7, 7, 7, 7, 7, 7, 7, 7, 7, 7, 7, 7, 7, 7, 7, 7, 7, 7, 7, 8, 8, 8, 8, 8, 8, 8, 8, 8, 8, 8, 8, 8, 8, 8, 8, 8, 8, 8, 8, 8, 8, 8, 8, 8, 8, 8, 8, 8, 8, 8, 8, 8, 8, 8, 8, 8, 8, 8, 8, 8, 8, 8, 8, 8, 8, 8, 8, 8, 8, 8, 8, 8, 8, 8, 8, 8, 8, 8, 8, 8, 8, 8, 8, 8, 8, 8, 8, 8, 8, 8, 8, 8, 8, 8, 8, 8, 8, 8, 8, 8, 8, 8, 8, 8, 8, 8, 8, 8, 8, 8, 8, 8, 8, 8, 8, 8, 8, 8, 8, 8, 8, 8, 8, 8, 8, 8, 8, 8, 8, 8, 8, 8, 8, 8, 8, 8, 8, 8, 8, 8, 8, 8, 8, 8, 8, 8, 8] (IntKind.wrap .u8 (shr .u64 a1 (8 : Int))))))))], [])
  else none)
  else (bif (inB (IntKind.wrap .u8 a1) 256) then some ([(PV.i (IntKind.wrap .i64 ((0 : Int) + (IntKind.wrap .i64 (bt [0, 1, 2, 2, 3, 3, 3, 3, 4, 4, 4, 4, 4, 4, 4, 4, 5, 5, 5, 5, 5, 5, 5, 5, 5, 5, 5, 5, 5, 5, 5, 5, 6, 6, 6, 6, 6, 6, 6, 6, 6, 6, 6, 6, 6, 6, 6, 6, 6, 6, 6, 6, 6, 6, 6, 6, 6, 6, 6, 6, 6, 6, 6, 6, 7, 7, 7, 7, 7, 7, 7, 7, 7, 7, 7, 7, 7, 7, 7, 7, 7, 7, 7, 7, 7, 7, 7, 7, 7, 7, 7, 7, 7, 7, 7, 7, 7, 7, 7, 7, 7, 7, 7, 7, 7, 7, 7, 7, 7, 7, 7, 7, 7, 7, 7, 7, 7, 7, 7, 7, 7, 7, 7, 7, 7, 7, 7, 7, 8, 8, 8, 8, 8, 8, 8, 8, 8, 8, 8, 8, 8, 8, 8, 8, 8, 8, 8, 8, 8, 8, 8, 8, 8, 8, 8, 8, 8, 8, 8, 8, 8, 8, 8, 8, 8, 8, 8, 8, 8, 8, 8, 8, 8, 8, 8, 8, 8, 8, 8, 8, 8, 8, 8, 8, 8, 8, 8, 8, 8, 8, 8, 8, 8, 8, 8, 8, 8, 8, 8, 8, 8, 8, 8, 8, 8, 8, 8, 8, 8, 8, 8, 8, 8, 8, 8, 8, 8, 8, 8, 8, 8, 8, 8, 8, 8, 8, 8, 8, 8, 8, 8, 8, 8, 8, 8, 8, 8, 8, 8, 8, 8, 8, 8, 8, 8, 8, 8, 8, 8, 8, 8, 8, 8, 8, 8, 8] (IntKind.wrap .u8 a1))))))], [])
  else none)))) := by kernel_rfl
end Go.AI
