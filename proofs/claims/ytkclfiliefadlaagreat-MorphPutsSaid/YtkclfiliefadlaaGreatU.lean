/- Equations of the program's functions: each says what the interpreter answers for a call, by the answers one level below. -/
import Derived.Test.YtkclfiliefadlaaGreatAiM
import Derived.Test.YtkclfiliefadlaaGreatProg
import Derived.KernelRfl
set_option linter.unusedVariables false
set_option maxRecDepth 100000
namespace Go.AI
open Go Go.Proofs
theorem zq1 {α β : Type} (a : α) (f : α → Option β) : Option.bind (some a) f = f a := rfl
theorem zq2 {α β : Type} (f : α → Option β) : Option.bind none f = none := rfl
theorem zq3 {α : Type} {a d : α} {l : List α} : (a :: l).getD 0 d = a := rfl
theorem zq4 {α : Type} {a d : α} {n : Nat} {l : List α} : (a :: l).getD (n + 1) d = l.getD n d := rfl
theorem zq5 {α : Type} (a b : α) : (bif true then a else b) = a := rfl
theorem zq6 {α : Type} (a b : α) : (bif false then a else b) = b := rfl
theorem zq7 {α β : Type} {l : List α} (f : α → β) : (l.map f).length = l.length := List.length_map f
theorem zq8 (b : Bool) : (b && true) = b := Bool.and_true b
theorem zq9 (b : Bool) : (true && b) = b := rfl
theorem zq10 (b : Bool) : (b && false) = false := Bool.and_false b
theorem zq11 (b : Bool) : (false && b) = false := rfl
theorem zq12 (b : Bool) : (b || true) = true := Bool.or_true b
theorem zq13 (b : Bool) : (true || b) = true := rfl
theorem zq14 (b : Bool) : (b || false) = b := Bool.or_false b
theorem zq15 (b : Bool) : (false || b) = b := rfl
theorem zq16 : (!true) = false := rfl
theorem zq17 : (!false) = true := rfl
def lookA : List (Nat × Nat × Keep) → Nat → Nat → Option Keep
  | [], _, _ => none
  | (f, k, kp) :: l, f', k' => bif Nat.beq f f' && Nat.beq k k' then some kp else lookA l f' k'
def loopTab : List (Nat × Nat × Keep) := [(7, 0, { slots := [(1, .any), (2, .any), (3, .any), (4, .any), (5, .any), (6, .any), (7, .any), (8, .any), (60, .any), (61, .any), (62, .any), (94, .any), (95, .any), (102, .any), (103, .any), (104, .any), (177, .any), (178, .any), (179, .any), (180, .any), (181, .any), (182, .any)], boxes := [(.n 1 0 0), (.n 1 1 0), (.n 1 2 0), (.n 2 1 0)], r := 1000, own := [((.n 1 1 0), 9), ((.n 1 1 0), 10), ((.n 1 1 0), 11), ((.n 1 1 0), 12), ((.n 1 1 0), 13), ((.n 1 1 0), 14), ((.n 2 1 0), 9), ((.n 2 1 0), 10), ((.n 2 1 0), 11), ((.n 2 1 0), 12), ((.n 2 1 0), 13), ((.n 2 1 0), 14)] }),
  (7, 2, { slots := [(1, .any), (2, .any), (3, .any), (4, .any), (5, .any), (6, .any), (7, .any), (12, .any), (102, .any), (103, .any), (104, .any), (177, .any), (178, .any), (179, .any), (180, .any), (181, .any), (182, .any)], boxes := [(.n 1 0 0), (.n 1 1 0), (.n 1 2 0), (.n 2 1 0)], r := 2000, own := [((.n 1 1 0), 9), ((.n 1 1 0), 10), ((.n 1 1 0), 11), ((.n 1 1 0), 12), ((.n 1 1 0), 13), ((.n 1 1 0), 14), ((.n 2 1 0), 9), ((.n 2 1 0), 10), ((.n 2 1 0), 11), ((.n 2 1 0), 12), ((.n 2 1 0), 13), ((.n 2 1 0), 14)] }),
  (11, 0, { slots := [(2, .any), (3, .any), (4, .any), (6, .any), (42, .pl 70), (43, .any), (44, .any)], boxes := [(.n 1 0 0), (.n 1 1 0), (.n 1 2 0), (.n 6 5 0)], r := 1000, own := [] }),
  (11, 2, { slots := [(2, .any), (3, .any), (4, .any), (6, .any), (64, .pl 74), (65, .any), (66, .any)], boxes := [(.n 1 0 0), (.n 1 1 0), (.n 1 2 0), (.n 6 5 0)], r := 2000, own := [] }),
  (15, 0, { slots := [(1, .any), (2, .any), (4, .any), (6, .any), (42, .pl 70), (43, .any), (44, .any)], boxes := [(.n 1 0 0), (.n 1 1 0), (.n 3 9 0)], r := 1000, own := [((.n 1 1 0), 5), ((.n 1 1 0), 6), ((.n 1 1 0), 7), ((.n 3 9 0), 5), ((.n 3 9 0), 6), ((.n 3 9 0), 7)] }),
  (15, 2, { slots := [(1, .any), (2, .any), (4, .any), (6, .any), (9, .any), (10, .any), (42, .pl 70), (43, .any), (44, .any), (74, .pl 107), (75, .any), (76, .any)], boxes := [(.n 1 0 0), (.n 1 1 0), (.n 3 9 0), (.n 1002 5 0), (.n 1003 19 0)], r := 2000, own := [((.n 1 1 0), 5), ((.n 1 1 0), 6), ((.n 1 1 0), 7), ((.n 3 9 0), 5), ((.n 3 9 0), 6), ((.n 3 9 0), 7), ((.n 1003 19 0), 12)] }),
  (15, 4, { slots := [(1, .any), (2, .any), (4, .any), (6, .any), (116, .pl 74), (117, .any), (118, .any)], boxes := [(.n 1 0 0), (.n 1 1 0), (.n 3 9 0)], r := 3000, own := [((.n 1 1 0), 5), ((.n 1 1 0), 6), ((.n 1 1 0), 7), ((.n 3 9 0), 5), ((.n 3 9 0), 6), ((.n 3 9 0), 7)] }),
  (15, 6, { slots := [(1, .any), (2, .any), (4, .any), (6, .any), (15, .any), (151, .pl 52), (152, .any), (153, .any)], boxes := [(.n 1 0 0), (.n 1 1 0), (.n 3 9 0)], r := 4000, own := [((.n 1 1 0), 5), ((.n 1 1 0), 6), ((.n 1 1 0), 7), ((.n 3 9 0), 5), ((.n 3 9 0), 6), ((.n 3 9 0), 7)] }),
  (31, 0, { slots := [(0, .pl 70), (1, .pl 74), (5, .any), (23, .any), (24, .any), (25, .any)], boxes := [], r := 1000, own := [] }),
  (47, 0, { slots := [(0, .any), (1, .any), (3, .any), (27, .pl 52), (28, .any), (29, .any), (39, .any), (40, .any), (41, .any), (42, .any), (43, .any), (44, .any), (45, .any), (48, .any), (49, .any), (50, .any), (51, .any), (52, .any), (53, .any), (54, .any)], boxes := [], r := 1000, own := [] }),
  (59, 0, { slots := [(5, .any), (7, .any), (8, .any), (9, .any), (10, .any), (11, .any)], boxes := [(.n 1 2 0), (.n 3 7 0)], r := 1000, own := [] }),
  (63, 0, { slots := [(3, .any), (9, .any), (14, .any)], boxes := [(.n 1 2 0), (.n 4 6 0)], r := 1000, own := [((.n 4 6 0), 7)] }),
  (71, 0, { slots := [(1, .any), (2, .any), (3, .any), (7, .any), (8, .row 3), (9, .any)], boxes := [(.n 1 0 0), (.n 1 2 0)], r := 1000, own := [] }),
  (75, 0, { slots := [(1, .any), (2, .any), (6, .any), (7, .any), (8, .any), (9, .any)], boxes := [(.n 1 0 0), (.n 1 1 0)], r := 1000, own := [] }),
  (99, 0, { slots := [(2, .pl 3), (3, .any), (6, .any), (7, .any), (8, .any)], boxes := [(.n 1 0 0), (.n 1 1 0)], r := 1000, own := [] }),
  (103, 0, { slots := [(1, .pl 3), (2, .any), (3, .any), (6, .any), (7, .any)], boxes := [(.n 1 0 0), (.n 1 1 0)], r := 1000, own := [] }),
  (127, 1, { slots := [(1, .any), (2, .any), (3, .any), (4, .any), (6, .any), (7, .any), (88, .any), (89, .any), (90, .any), (105, .any), (106, .any), (109, .any), (110, .any), (111, .any), (112, .any), (113, .any), (114, .any), (115, .any), (116, .any), (117, .any), (118, .any)], boxes := [(.n 1 0 0), (.n 1 1 0), (.n 1 2 0), (.n 2 1 0)], r := 1000, own := [((.n 1 1 0), 12), ((.n 2 1 0), 12)] }),
  (135, 0, { slots := [(0, .any), (3, .any), (4, .any), (16, .pl 3), (17, .any), (18, .any)], boxes := [(.p 0), (.n 1 0 0)], r := 1000, own := [] }),
  (135, 2, { slots := [(0, .any), (39, .pl 3), (40, .any), (41, .any)], boxes := [(.p 0)], r := 2000, own := [] }),
  (167, 0, { slots := [(5, .any), (6, .any)], boxes := [], r := 1000, own := [] }),
  (171, 1, { slots := [(2, .any), (4, .any), (28, .pl 107), (29, .any), (30, .any)], boxes := [(.n 1 0 0), (.n 1 2 0)], r := 1000, own := [] }),
  (179, 0, { slots := [(4, .any), (6, .any), (7, .row 70), (8, .row 74), (14, .any), (15, .any)], boxes := [(.n 1 3 0), (.n 2 2 0)], r := 1000, own := [] }),
  (179, 2, { slots := [(4, .any), (6, .any), (7, .row 70), (8, .row 74), (24, .any), (25, .any)], boxes := [(.n 1 3 0), (.n 2 2 0)], r := 2000, own := [] }),
  (183, 1, { slots := [(0, .any), (2, .any), (3, .any), (5, .any), (69, .any), (70, .any), (81, .any), (82, .any), (83, .any), (84, .any)], boxes := [(.p 0), (.n 1 0 0), (.n 2 3 0)], r := 1000, own := [((.n 1 0 0), 12), ((.n 2 3 0), 12)] }),
  (12, 0, { slots := [(1, .any), (3, .any), (68, .any), (69, .any), (70, .any), (71, .any), (72, .any), (75, .any), (76, .any), (77, .any), (78, .any), (79, .any), (82, .any), (83, .any), (84, .any), (85, .any), (86, .any), (87, .any), (88, .any), (96, .any), (97, .any), (98, .any), (99, .any), (100, .any), (104, .any), (105, .any), (106, .any), (107, .any), (108, .any), (109, .any), (110, .any), (111, .any), (112, .any), (115, .any), (116, .any), (117, .any)], boxes := [(.n 1 0 0)], r := 1000, own := [] }),
  (20, 1, { slots := [(0, .any), (2, .any), (3, .any), (4, .any), (5, .any), (7, .any), (8, .any), (89, .any), (90, .any), (106, .any), (107, .any), (108, .any), (109, .any), (110, .any), (111, .any), (112, .any), (113, .any), (114, .any), (115, .any)], boxes := [(.p 0), (.n 1 0 0), (.n 1 1 0), (.n 2 3 0), (.n 3 3 0)], r := 1000, own := [((.n 1 0 0), 12), ((.n 1 1 0), 12), ((.n 2 3 0), 12), ((.n 3 3 0), 12)] }),
  (28, 0, { slots := [(1, .any), (2, .any), (3, .any), (4, .any), (9, .any), (10, .row 52), (11, .any), (12, .any), (79, .any), (80, .any), (81, .any), (88, .any), (89, .any), (92, .any), (93, .any), (94, .any), (95, .any), (96, .any), (97, .any), (98, .any), (99, .any), (100, .any), (101, .any), (102, .any), (103, .any), (104, .any), (105, .any), (106, .any), (107, .any), (206, .any), (207, .any), (208, .any), (209, .any), (210, .any), (211, .any), (212, .any), (213, .any), (214, .any), (215, .any), (216, .any), (217, .any), (218, .any), (219, .any), (220, .any), (221, .any), (222, .any), (223, .any), (224, .any), (225, .any), (226, .any)], boxes := [(.n 1 0 0), (.n 1 2 0)], r := 1000, own := [] }),
  (32, 0, { slots := [(0, .pl 52), (1, .any), (5, .any), (11, .any), (12, .any), (13, .any)], boxes := [], r := 1000, own := [] }),
  (36, 0, { slots := [(3, .any), (5, .any), (6, .any), (74, .pl 107), (75, .any), (76, .any)], boxes := [(.n 1 0 0), (.n 1 2 0), (.n 1 3 0)], r := 1000, own := [] }),
  (52, 0, { slots := [(3, .pl 52), (9, .any), (10, .any), (11, .any), (12, .any)], boxes := [(.n 2 2 0)], r := 1000, own := [] }),
  (64, 0, { slots := [(5, .any), (7, .any), (8, .any), (9, .any), (10, .any), (11, .any)], boxes := [(.n 1 2 0), (.n 3 7 0)], r := 1000, own := [] }),
  (72, 0, { slots := [(1, .any), (4, .any), (5, .row 70), (6, .row 74), (7, .any), (8, .any), (29, .any), (30, .any), (31, .any), (54, .any), (55, .any), (62, .any), (63, .any), (64, .any)], boxes := [(.n 1 0 0), (.n 1 3 0)], r := 1000, own := [] }),
  (72, 2, { slots := [(1, .any), (4, .any), (5, .row 70), (6, .row 74), (7, .any), (10, .any), (62, .any), (63, .any), (64, .any)], boxes := [(.n 1 0 0), (.n 1 3 0)], r := 2000, own := [] }),
  (76, 0, { slots := [(2, .any), (3, .any), (5, .any)], boxes := [(.n 1 0 0), (.n 1 1 0)], r := 1000, own := [] }),
  (92, 1, { slots := [(1, .any), (3, .any), (68, .pl 107), (69, .any), (70, .any), (85, .any), (86, .any), (87, .any), (90, .any), (91, .any), (92, .any), (95, .any), (96, .any), (97, .any), (98, .any), (101, .any), (102, .any), (103, .any), (104, .any)], boxes := [(.n 1 0 0)], r := 1000, own := [] }),
  (100, 0, { slots := [(0, .any), (3, .any)], boxes := [], r := 1000, own := [] }),
  (104, 0, { slots := [(2, .any), (3, .any), (4, .any), (5, .any), (8, .any), (9, .row 3), (19, .row 3), (20, .any), (21, .any)], boxes := [(.n 1 0 0), (.n 1 1 0), (.n 1 2 0)], r := 1000, own := [] }),
  (120, 0, { slots := [(0, .any), (3, .any), (4, .any)], boxes := [], r := 1000, own := [] }),
  (128, 0, { slots := [(3, .any), (6, .pl 3), (7, .any), (8, .any)], boxes := [], r := 1000, own := [] }),
  (136, 0, { slots := [(2, .pl 74), (3, .any), (6, .any), (21, .pl 70), (22, .any), (23, .any)], boxes := [(.n 1 0 0), (.n 1 1 0)], r := 1000, own := [] }),
  (136, 2, { slots := [(3, .any), (6, .any), (35, .pl 74), (36, .any), (37, .any)], boxes := [(.n 1 0 0), (.n 1 1 0)], r := 2000, own := [] }),
  (140, 0, { slots := [(0, .pl 70), (1, .any), (7, .any), (8, .any)], boxes := [], r := 1000, own := [] }),
  (148, 0, { slots := [(2, .any), (3, .any), (23, .any), (24, .any), (46, .any), (47, .any), (48, .any), (49, .any), (50, .any), (53, .any), (54, .any), (55, .any), (56, .any), (57, .any), (60, .any), (61, .any), (62, .any), (63, .any), (64, .any), (67, .any), (68, .any), (69, .any), (70, .any), (71, .any), (74, .any), (75, .any), (76, .any), (77, .any), (78, .any), (81, .any), (82, .any), (83, .any), (84, .any), (85, .any), (88, .any), (89, .any), (90, .any), (91, .any), (92, .any)], boxes := [(.n 1 0 0), (.n 1 1 0)], r := 1000, own := [] }),
  (152, 0, { slots := [(0, .any), (3, .any), (7, .any), (8, .any), (11, .any), (12, .any), (13, .any), (14, .any), (15, .any), (16, .any), (17, .any), (18, .any), (19, .any), (20, .any), (21, .any), (22, .any), (23, .any), (24, .any), (25, .any), (26, .any), (27, .any), (28, .any), (29, .any), (30, .any), (31, .any), (32, .any), (35, .any), (36, .any), (37, .any), (38, .any), (39, .any), (40, .any), (41, .any), (42, .any), (43, .any), (44, .any), (45, .any)], boxes := [], r := 1000, own := [] }),
  (172, 0, { slots := [(0, .pl 107), (1, .pl 107), (12, .any), (13, .any)], boxes := [], r := 1000, own := [] }),
  (29, 0, { slots := [(0, .pl 70), (1, .pl 70), (2, .pl 74), (3, .pl 74), (9, .any)], boxes := [], r := 1000, own := [] }),
  (29, 2, { slots := [(2, .pl 74), (3, .pl 74), (10, .any)], boxes := [], r := 2000, own := [] }),
  (33, 0, { slots := [(1, .any), (3, .any), (6, .any), (8, .row 5), (31, .any), (32, .any)], boxes := [(.n 1 0 0), (.n 1 1 0)], r := 1000, own := [] }),
  (41, 0, { slots := [(0, .pl 70), (1, .pl 74), (5, .any), (35, .any), (36, .any), (37, .any)], boxes := [], r := 1000, own := [] }),
  (41, 2, { slots := [(0, .pl 70), (1, .pl 74), (6, .any), (35, .any), (36, .any), (37, .any)], boxes := [], r := 2000, own := [] }),
  (45, 0, { slots := [(1, .pl 70), (2, .any), (15, .pl 70), (16, .any), (17, .any)], boxes := [], r := 1000, own := [] }),
  (89, 0, { slots := [(0, .any), (1, .any), (9, .pl 3), (10, .any), (11, .any), (19, .any), (20, .any), (21, .any)], boxes := [], r := 1000, own := [] }),
  (101, 0, { slots := [(1, .pl 3), (2, .any), (3, .any), (6, .any), (7, .any)], boxes := [(.n 1 0 0), (.n 1 1 0)], r := 1000, own := [] }),
  (105, 0, { slots := [(0, .any), (1, .pl 70), (2, .pl 74), (7, .any), (53, .any), (54, .any), (55, .any)], boxes := [], r := 1000, own := [] }),
  (105, 2, { slots := [(0, .any), (1, .pl 70), (2, .pl 74), (7, .any), (8, .any), (9, .any), (53, .any), (54, .any), (55, .any)], boxes := [(.n 1001 4 0)], r := 2000, own := [] }),
  (105, 4, { slots := [(0, .any), (2, .pl 74), (10, .any)], boxes := [], r := 3000, own := [] }),
  (121, 0, { slots := [(2, .any), (3, .any), (7, .any), (8, .any), (9, .row 3), (10, .any)], boxes := [(.n 1 0 0), (.n 1 2 0)], r := 1000, own := [] }),
  (125, 0, { slots := [(1, .any), (2, .any), (5, .any), (7, .any), (8, .any)], boxes := [(.n 1 0 0), (.n 1 2 0)], r := 1000, own := [] }),
  (133, 0, { slots := [(3, .any), (6, .pl 3), (7, .any), (8, .any)], boxes := [], r := 1000, own := [] }),
  (137, 0, { slots := [(1, .any), (3, .any), (6, .any), (8, .row 5), (9, .any)], boxes := [(.n 1 0 0), (.n 1 1 0)], r := 1000, own := [] }),
  (145, 0, { slots := [(0, .pl 74), (1, .any), (7, .any), (8, .any)], boxes := [], r := 1000, own := [] }),
  (149, 0, { slots := [(1, .any), (3, .any), (6, .any), (8, .any)], boxes := [(.n 1 0 0), (.n 1 1 0)], r := 1000, own := [] }),
  (173, 0, { slots := [(0, .pl 3), (1, .any), (7, .any), (8, .any)], boxes := [(.p 0), (.p 1)], r := 1000, own := [] }),
  (6, 0, { slots := [(2, .any), (3, .any), (5, .any), (6, .any), (7, .any), (8, .any), (33, .any), (34, .any)], boxes := [(.n 1 1 0), (.n 1 2 0), (.n 2 2 0), (.n 3 7 0)], r := 1000, own := [((.n 1 1 0), 9), ((.n 1 1 0), 10), ((.n 1 1 0), 11), ((.n 1 1 0), 12), ((.n 1 1 0), 13), ((.n 1 1 0), 14), ((.n 3 7 0), 9), ((.n 3 7 0), 10), ((.n 3 7 0), 11), ((.n 3 7 0), 12), ((.n 3 7 0), 13), ((.n 3 7 0), 14)] }),
  (6, 2, { slots := [(2, .any), (3, .any), (5, .any), (6, .any), (7, .any), (8, .any), (55, .any), (56, .any)], boxes := [(.n 1 1 0), (.n 1 2 0), (.n 2 2 0), (.n 3 7 0)], r := 2000, own := [((.n 1 1 0), 9), ((.n 1 1 0), 10), ((.n 1 1 0), 11), ((.n 1 1 0), 12), ((.n 1 1 0), 13), ((.n 1 1 0), 14), ((.n 3 7 0), 9), ((.n 3 7 0), 10), ((.n 3 7 0), 11), ((.n 3 7 0), 12), ((.n 3 7 0), 13), ((.n 3 7 0), 14)] }),
  (14, 0, { slots := [(0, .any), (3, .any), (5, .any), (6, .any)], boxes := [(.n 1 0 0)], r := 1000, own := [] }),
  (14, 2, { slots := [(0, .any), (3, .any), (5, .any), (6, .any), (7, .any), (8, .any), (9, .any)], boxes := [(.n 1 0 0), (.n 1001 10 0), (.n 1001 11 0)], r := 2000, own := [] }),
  (14, 4, { slots := [(0, .any), (3, .any), (5, .any), (10, .any)], boxes := [(.n 1 0 0)], r := 3000, own := [] }),
  (26, 1, { slots := [(1, .any), (2, .any), (3, .any), (4, .any), (5, .any), (6, .any), (7, .any), (8, .any), (119, .any), (120, .any), (121, .any), (149, .any), (150, .any), (153, .any), (154, .any), (155, .any), (156, .any), (157, .any), (158, .any), (159, .any), (160, .any), (161, .any), (162, .any), (163, .any), (164, .any), (165, .any), (166, .any), (167, .any), (168, .any), (169, .any), (170, .any), (171, .any), (172, .any), (173, .any), (174, .any)], boxes := [(.n 1 0 0), (.n 1 1 0), (.n 1 2 0), (.n 1 3 0), (.n 2 2 0), (.n 2 3 0)], r := 1000, own := [((.n 1 1 0), 12), ((.n 1 2 0), 12), ((.n 2 2 0), 12), ((.n 2 3 0), 12)] }),
  (30, 0, { slots := [(0, .pl 52), (1, .pl 52), (5, .any), (33, .any), (34, .any), (35, .any), (36, .any), (37, .any), (40, .any), (41, .any), (42, .any), (43, .any), (44, .any), (47, .any), (48, .any), (49, .any), (50, .any), (51, .any), (54, .any), (55, .any), (56, .any), (57, .any), (58, .any), (61, .any), (62, .any), (63, .any), (64, .any), (65, .any), (68, .any), (69, .any), (70, .any), (71, .any), (72, .any), (75, .any), (76, .any), (77, .any), (78, .any), (79, .any)], boxes := [], r := 1000, own := [] }),
  (38, 0, { slots := [(10, .any), (12, .any), (30, .pl 52), (31, .any), (32, .any)], boxes := [(.n 1 1 0), (.n 3 3 0)], r := 1000, own := [] }),
  (42, 0, { slots := [(0, .any), (1, .any), (2, .pl 52), (3, .any), (9, .any), (43, .any), (44, .any), (45, .any), (46, .any), (47, .any), (48, .any), (49, .any), (50, .any), (51, .any), (52, .any), (55, .any), (56, .any), (57, .any), (58, .any), (59, .any), (60, .any), (61, .any), (62, .any), (63, .any), (64, .any)], boxes := [], r := 1000, own := [] }),
  (78, 0, { slots := [(0, .any), (6, .any), (15, .pl 3), (16, .any), (17, .any)], boxes := [(.p 0)], r := 1000, own := [] }),
  (86, 1, { slots := [(1, .any), (3, .any), (86, .any), (87, .any), (90, .any), (91, .any), (92, .any), (93, .any), (94, .any), (95, .any), (96, .any), (97, .any), (98, .any), (99, .any), (100, .any), (101, .any), (102, .any), (105, .any), (106, .any), (107, .any), (108, .any), (109, .any), (110, .any), (111, .any), (112, .any), (119, .any), (120, .any), (121, .any), (124, .any), (125, .any), (126, .any), (129, .any), (130, .any), (131, .any), (134, .any), (135, .any), (136, .any), (137, .any), (140, .any), (141, .any), (142, .any), (143, .any), (146, .any), (147, .any), (148, .any)], boxes := [(.n 1 0 0)], r := 1000, own := [] }),
  (102, 0, { slots := [(0, .pl 3), (1, .any), (5, .any)], boxes := [], r := 1000, own := [] }),
  (114, 1, { slots := [(1, .any), (2, .any), (5, .any), (7, .any), (8, .any)], boxes := [(.n 1 0 0), (.n 1 2 0)], r := 1000, own := [] }),
  (134, 0, { slots := [(0, .any), (1, .any), (8, .pl 3), (9, .any), (10, .any)], boxes := [(.p 0)], r := 1000, own := [] }),
  (138, 0, { slots := [(13, .pl 3), (14, .any), (15, .any), (22, .any), (23, .any)], boxes := [], r := 1000, own := [] }),
  (150, 0, { slots := [(0, .pl 3), (3, .any), (4, .any)], boxes := [], r := 1000, own := [] }),
  (158, 0, { slots := [(2, .any), (8, .any), (9, .any), (10, .any), (11, .any), (13, .any), (14, .any), (15, .any), (16, .any), (70, .any), (71, .any), (72, .any), (73, .any), (74, .any), (75, .any), (76, .any), (77, .any), (105, .any), (106, .any), (107, .any), (108, .any), (109, .any), (110, .any), (111, .any), (112, .any)], boxes := [], r := 1000, own := [] }),
  (158, 2, { slots := [(2, .any), (8, .any), (9, .any), (10, .any), (14, .any), (15, .any), (16, .any), (17, .any), (18, .any), (105, .any), (106, .any), (107, .any), (108, .any), (109, .any), (110, .any), (111, .any), (112, .any)], boxes := [], r := 2000, own := [] }),
  (174, 0, { slots := [(0, .pl 74), (1, .pl 74), (12, .any), (13, .any)], boxes := [], r := 1000, own := [] })]
def cutTab : List (Nat × Nat × Keep) := [(28, 27, { slots := [(1, .any), (2, .any), (3, .any), (4, .any), (9, .any), (10, .row 52), (11, .any), (12, .any), (14, .row 3), (17, .any), (18, .any), (79, .any), (80, .any), (81, .any), (88, .any), (89, .any), (92, .any), (93, .any), (94, .any), (95, .any), (96, .any), (97, .any), (98, .any), (99, .any), (100, .any), (101, .any), (102, .any), (103, .any), (104, .any), (105, .any), (106, .any), (107, .any), (206, .any), (207, .any), (208, .any), (209, .any), (210, .any), (211, .any), (212, .any), (213, .any), (214, .any), (215, .any), (216, .any), (217, .any), (218, .any), (219, .any), (220, .any), (221, .any), (222, .any), (223, .any), (224, .any), (225, .any), (226, .any)], boxes := [(.n 1 0 0), (.n 1 2 0), (.n 1029 2 0), (.n 1029 3 0)], r := 2000, own := [] }),
  (28, 29, { slots := [(1, .any), (2, .any), (3, .any), (4, .any), (9, .any), (10, .row 52), (11, .any), (12, .any), (14, .row 3), (17, .any), (18, .any), (79, .any), (80, .any), (81, .any), (88, .any), (89, .any), (92, .any), (93, .any), (94, .any), (95, .any), (96, .any), (97, .any), (98, .any), (99, .any), (100, .any), (101, .any), (102, .any), (103, .any), (104, .any), (105, .any), (106, .any), (107, .any), (206, .any), (207, .any), (208, .any), (209, .any), (210, .any), (211, .any), (212, .any), (213, .any), (214, .any), (215, .any), (216, .any), (217, .any), (218, .any), (219, .any), (220, .any), (221, .any), (222, .any), (223, .any), (224, .any), (225, .any), (226, .any)], boxes := [(.n 1 0 0), (.n 1 2 0), (.n 1029 2 0), (.n 1029 3 0)], r := 3000, own := [] }),
  (28, 31, { slots := [(1, .any), (2, .any), (3, .any), (4, .any), (9, .any), (10, .row 52), (11, .any), (12, .any), (14, .row 3), (17, .any), (18, .any), (79, .any), (80, .any), (81, .any), (88, .any), (89, .any), (92, .any), (93, .any), (94, .any), (95, .any), (96, .any), (97, .any), (98, .any), (99, .any), (100, .any), (101, .any), (102, .any), (103, .any), (104, .any), (105, .any), (106, .any), (107, .any), (206, .any), (207, .any), (208, .any), (209, .any), (210, .any), (211, .any), (212, .any), (213, .any), (214, .any), (215, .any), (216, .any), (217, .any), (218, .any), (219, .any), (220, .any), (221, .any), (222, .any), (223, .any), (224, .any), (225, .any), (226, .any)], boxes := [(.n 1 0 0), (.n 1 2 0), (.n 1029 2 0), (.n 1029 3 0)], r := 4000, own := [] }),
  (28, 33, { slots := [(1, .any), (2, .any), (3, .any), (4, .any), (9, .any), (10, .row 52), (11, .any), (12, .any), (14, .row 3), (17, .any), (18, .any), (79, .any), (80, .any), (81, .any), (88, .any), (89, .any), (92, .any), (93, .any), (94, .any), (95, .any), (96, .any), (97, .any), (98, .any), (99, .any), (100, .any), (101, .any), (102, .any), (103, .any), (104, .any), (105, .any), (106, .any), (107, .any), (206, .any), (207, .any), (208, .any), (209, .any), (210, .any), (211, .any), (212, .any), (213, .any), (214, .any), (215, .any), (216, .any), (217, .any), (218, .any), (219, .any), (220, .any), (221, .any), (222, .any), (223, .any), (224, .any), (225, .any), (226, .any)], boxes := [(.n 1 0 0), (.n 1 2 0), (.n 1029 2 0), (.n 1029 3 0)], r := 5000, own := [] }),
  (28, 39, { slots := [(1, .any), (2, .any), (3, .any), (4, .any), (9, .any), (10, .row 52), (11, .any), (12, .any), (14, .row 3), (17, .any), (18, .any), (79, .any), (80, .any), (81, .any), (88, .any), (89, .any), (92, .any), (93, .any), (94, .any), (95, .any), (96, .any), (97, .any), (98, .any), (99, .any), (100, .any), (101, .any), (102, .any), (103, .any), (104, .any), (105, .any), (106, .any), (107, .any), (206, .any), (207, .any), (208, .any), (209, .any), (210, .any), (211, .any), (212, .any), (213, .any), (214, .any), (215, .any), (216, .any), (217, .any), (218, .any), (219, .any), (220, .any), (221, .any), (222, .any), (223, .any), (224, .any), (225, .any), (226, .any)], boxes := [(.n 1 0 0), (.n 1 2 0), (.n 1029 2 0), (.n 1029 3 0)], r := 6000, own := [] }),
  (28, 41, { slots := [(1, .any), (2, .any), (3, .any), (4, .any), (9, .any), (10, .row 52), (11, .any), (12, .any), (14, .row 3), (17, .any), (18, .any), (79, .any), (80, .any), (81, .any), (88, .any), (89, .any), (92, .any), (93, .any), (94, .any), (95, .any), (96, .any), (97, .any), (98, .any), (99, .any), (100, .any), (101, .any), (102, .any), (103, .any), (104, .any), (105, .any), (106, .any), (107, .any), (206, .any), (207, .any), (208, .any), (209, .any), (210, .any), (211, .any), (212, .any), (213, .any), (214, .any), (215, .any), (216, .any), (217, .any), (218, .any), (219, .any), (220, .any), (221, .any), (222, .any), (223, .any), (224, .any), (225, .any), (226, .any)], boxes := [(.n 1 0 0), (.n 1 2 0), (.n 1029 2 0), (.n 1029 3 0)], r := 7000, own := [] }),
  (28, 43, { slots := [(1, .any), (2, .any), (3, .any), (4, .any), (9, .any), (10, .row 52), (11, .any), (12, .any), (14, .row 3), (18, .any), (79, .any), (80, .any), (81, .any), (88, .any), (89, .any), (92, .any), (93, .any), (94, .any), (95, .any), (96, .any), (97, .any), (98, .any), (99, .any), (100, .any), (101, .any), (102, .any), (103, .any), (104, .any), (105, .any), (106, .any), (107, .any), (206, .any), (207, .any), (208, .any), (209, .any), (210, .any), (211, .any), (212, .any), (213, .any), (214, .any), (215, .any), (216, .any), (217, .any), (218, .any), (219, .any), (220, .any), (221, .any), (222, .any), (223, .any), (224, .any), (225, .any), (226, .any)], boxes := [(.n 1 0 0), (.n 1 2 0), (.n 1029 3 0)], r := 8000, own := [] }),
  (118, 6, { slots := [(0, .any), (1, .any), (6, .any), (83, .any), (84, .any), (85, .any), (86, .any), (87, .any), (88, .any), (89, .any), (90, .any), (91, .any), (92, .any), (93, .any), (94, .any), (95, .any), (96, .any), (97, .any), (98, .any), (99, .any), (100, .any), (101, .any), (102, .any), (103, .any), (104, .any), (105, .any), (106, .any), (107, .any), (108, .any), (109, .any), (110, .any)], boxes := [(.p 0), (.n 2 1 0)], r := 1000, own := [((.p 0), 7), ((.n 2 1 0), 8), ((.n 2 1 0), 9)] }),
  (118, 9, { slots := [(0, .any), (1, .any), (6, .any), (8, .any), (83, .any), (84, .any), (85, .any), (86, .any), (87, .any), (88, .any), (89, .any), (90, .any), (91, .any), (92, .any), (93, .any), (94, .any), (95, .any), (96, .any), (97, .any), (98, .any), (99, .any), (100, .any), (101, .any), (102, .any), (103, .any), (104, .any), (105, .any), (106, .any), (107, .any), (108, .any), (109, .any), (110, .any)], boxes := [(.p 0), (.n 2 1 0), (.n 1000 1 0)], r := 2000, own := [((.p 0), 7), ((.n 2 1 0), 8), ((.n 2 1 0), 9), ((.n 1000 1 0), 8), ((.n 1000 1 0), 9)] }),
  (118, 11, { slots := [(0, .any), (1, .any), (6, .any), (8, .any), (83, .any), (84, .any), (85, .any), (86, .any), (87, .any), (88, .any), (89, .any), (90, .any), (91, .any), (92, .any), (93, .any), (94, .any), (95, .any), (96, .any), (97, .any), (98, .any), (99, .any), (100, .any), (101, .any), (102, .any), (103, .any), (104, .any), (105, .any), (106, .any), (107, .any), (108, .any), (109, .any), (110, .any)], boxes := [(.p 0), (.n 2 1 0), (.n 1000 1 0)], r := 3000, own := [((.p 0), 7), ((.n 2 1 0), 8), ((.n 2 1 0), 9), ((.n 1000 1 0), 8), ((.n 1000 1 0), 9)] }),
  (118, 13, { slots := [(0, .any), (1, .any), (6, .any), (8, .any), (83, .any), (84, .any), (85, .any), (86, .any), (87, .any), (88, .any), (89, .any), (90, .any), (91, .any), (92, .any), (93, .any), (94, .any), (95, .any), (96, .any), (97, .any), (98, .any), (99, .any), (100, .any), (101, .any), (102, .any), (103, .any), (104, .any), (105, .any), (106, .any), (107, .any), (108, .any), (109, .any), (110, .any)], boxes := [(.p 0), (.n 2 1 0), (.n 1000 1 0)], r := 4000, own := [((.p 0), 7), ((.n 2 1 0), 8), ((.n 2 1 0), 9), ((.n 1000 1 0), 8), ((.n 1000 1 0), 9)] }),
  (118, 15, { slots := [(0, .any), (1, .any), (6, .any), (8, .any), (83, .any), (84, .any), (85, .any), (86, .any), (87, .any), (88, .any), (89, .any), (90, .any), (91, .any), (92, .any), (93, .any), (94, .any), (95, .any), (96, .any), (97, .any), (98, .any), (99, .any), (100, .any), (101, .any), (102, .any), (103, .any), (104, .any), (105, .any), (106, .any), (107, .any), (108, .any), (109, .any), (110, .any)], boxes := [(.p 0), (.n 2 1 0), (.n 1000 1 0)], r := 5000, own := [((.p 0), 7), ((.n 2 1 0), 8), ((.n 2 1 0), 9), ((.n 1000 1 0), 8), ((.n 1000 1 0), 9)] }),
  (118, 17, { slots := [(0, .any), (1, .any), (6, .any), (8, .any)], boxes := [(.p 0), (.n 2 1 0), (.n 1000 1 0)], r := 6000, own := [((.p 0), 7), ((.n 2 1 0), 8), ((.n 2 1 0), 9), ((.n 1000 1 0), 8), ((.n 1000 1 0), 9)] }),
  (118, 19, { slots := [(0, .any), (1, .any), (8, .any)], boxes := [(.p 0), (.n 1000 1 0)], r := 7000, own := [((.p 0), 7), ((.n 1000 1 0), 8), ((.n 1000 1 0), 9)] })]
def ann : Ann := { loop := lookA loopTab, cut := lookA cutTab, ownT := fun t _ => Nat.beq t 184, ownA := fun f e => (Nat.beq f 70 || Nat.beq f 73) && Nat.beq e 52, ownR := fun f e => (Nat.beq f 70 || Nat.beq f 73) && Nat.beq e 52, wrT := fun f _ => Nat.beq f 104 }
noncomputable abbrev call (k : Nat) := callAt Tryz.prog ann k
noncomputable abbrev run (k : Nat) := runAt Tryz.prog ann k
noncomputable def cW : CallF := callW Tryz.prog ann
noncomputable def rW : FuncId → List TypeId → List Item → St → Option Res := runW Tryz.prog ann
theorem cW_fix (f : FuncId) (args : List PV) (bs : List BX) : cW f args bs = stepC Tryz.prog ann cW rW f args bs := callW_fix _ _ f args bs
theorem rW_fix (f : FuncId) (pts : List TypeId) (t : List Item) (st : St) : rW f pts t st = stepR Tryz.prog ann cW rW f pts t st := runW_fix _ _ f pts t st
theorem Ans.c {f : FuncId} {ps : List PV} {bs : List BX} {r : Res} (h : Ans (fun k => call k f ps bs) r) : cW f ps bs = some r := h.w
theorem c_at (n : Nat) {f : FuncId} {ps : List PV} {bs : List BX} {r : Res} (h : callAt Tryz.prog ann n f ps bs = some r) : cW f ps bs = some r := (callW_iff _ _).2 ⟨n, h⟩
theorem ans_c {f : FuncId} {ps : List PV} {bs : List BX} {r : Res} (h : cW f ps bs = some r) : Ans (fun k => call k f ps bs) r := ans_of _ _ h
def f_q163 : Nat := 4
def f_q203 : Nat := 5
def f_q168 : Nat := 6
def f_q190 : Nat := 8
def f_q147 : Nat := 9
def f_q191 : Nat := 10
def f_q177 : Nat := 11
def f_q139 : Nat := 12
def f_q209 : Nat := 13
def f_q49 : Nat := 14
def f_q26 : Nat := 17
def f_q136 : Nat := 18
def f_q137 : Nat := 19
def f_q28 : Nat := 20
def f_q59 : Nat := 21
def f_q124 : Nat := 22
def f_q61 : Nat := 23
def f_q55 : Nat := 29
def f_q131 : Nat := 30
def f_q113 : Nat := 31
def f_q125 : Nat := 32
def f_q102 : Nat := 33
def f_q194 : Nat := 34
def f_q169 : Nat := 35
def f_q192 : Nat := 36
def f_q135 : Nat := 37
def f_q154 : Nat := 38
def f_q180 : Nat := 39
def f_q182 : Nat := 40
def f_q74 : Nat := 41
def f_q103 : Nat := 42
def f_q179 : Nat := 43
def f_q198 : Nat := 44
def f_q6 : Nat := 45
def f_q205 : Nat := 46
def f_q117 : Nat := 47
def f_q127 : Nat := 48
def f_q72 : Nat := 49
def f_q140 : Nat := 50
def f_q56 : Nat := 51
def f_q31 : Nat := 52
def f_q156 : Nat := 53
def f_q186 : Nat := 59
def f_q207 : Nat := 60
def f_q52 : Nat := 61
def f_q200 : Nat := 62
def f_q143 : Nat := 63
def f_q195 : Nat := 74
def f_q142 : Nat := 76
def f_q181 : Nat := 77
def f_q22 : Nat := 78
def f_q90 : Nat := 79
def f_q145 : Nat := 80
def f_q166 : Nat := 81
def f_q129 : Nat := 82
def f_q78 : Nat := 83
def f_q18 : Nat := 84
def f_q107 : Nat := 85
def f_q120 : Nat := 86
def f_q188 : Nat := 87
def f_q71 : Nat := 88
def f_q164 : Nat := 89
def f_q69 : Nat := 90
def f_q173 : Nat := 91
def f_q167 : Nat := 92
def f_q60 : Nat := 93
def f_q174 : Nat := 94
def f_q199 : Nat := 95
def f_q121 : Nat := 96
def f_q213 : Nat := 97
def f_q79 : Nat := 98
def f_q9 : Nat := 99
def f_q106 : Nat := 100
def f_q16 : Nat := 101
def f_q110 : Nat := 102
def f_q96 : Nat := 103
def f_q108 : Nat := 104
def f_q34 : Nat := 105
def f_q212 : Nat := 108
def f_q210 : Nat := 109
def f_q29 : Nat := 110
def f_q11 : Nat := 111
def f_q91 : Nat := 112
def f_q193 : Nat := 113
def f_q170 : Nat := 114
def f_q183 : Nat := 115
def f_q20 : Nat := 116
def f_q157 : Nat := 117
def f_q4 : Nat := 118
def f_q75 : Nat := 120
def f_q133 : Nat := 128
def f_q114 : Nat := 129
def f_q201 : Nat := 130
def f_q123 : Nat := 131
def f_q104 : Nat := 132
def f_q146 : Nat := 133
def f_q40 : Nat := 134
def f_q21 : Nat := 135
def f_q178 : Nat := 136
def f_q128 : Nat := 137
def f_q101 : Nat := 138
def f_q144 : Nat := 139
def f_q33 : Nat := 140
def f_q184 : Nat := 141
def f_q189 : Nat := 142
def f_q202 : Nat := 143
def f_q214 : Nat := 144
def f_q27 : Nat := 145
def f_q175 : Nat := 146
def f_q185 : Nat := 147
def f_q171 : Nat := 148
def f_q53 : Nat := 149
def f_q126 : Nat := 150
def f_q165 : Nat := 151
def f_q97 : Nat := 152
def f_q118 : Nat := 153
def f_q176 : Nat := 154
def f_q208 : Nat := 160
def f_q211 : Nat := 161
def f_q215 : Nat := 162
def f_q35 : Nat := 163
def f_q62 : Nat := 164
def f_q119 : Nat := 165
def f_q155 : Nat := 166
def f_q196 : Nat := 169
def f_q187 : Nat := 170
def f_q204 : Nat := 171
def f_q30 : Nat := 172
def f_q116 : Nat := 173
def f_q24 : Nat := 174
def f_q197 : Nat := 175
def f_q172 : Nat := 179
def f_q206 : Nat := 181
def f_q138 : Nat := 182
def f_q63 : Nat := 183
def f_q68 : Nat := 184
def f_q100 : Nat := 185
def f_q105 : Nat := 186
def f_q130 : Nat := 187
def t_int : Nat := 3
def t_q2 : Nat := 60
def t_q41 : Nat := 146
def t_q5 : Nat := 153
def t_q1 : Nat := 184
def t_q19 : Nat := 216
def t_q12 : Nat := 234
theorem u_q180 (k : Nat) (a1 : List UInt8) (a2 : Int) (a3 : List UInt8) : call (k + 1) f_q180 [.s a1, .i a2, .s a3] [] =
  (bif (decide (((List.length a1) + (List.length a3)) ≤ 1099511627776)) then some ([(PV.s (a1 ++ a3)), PV.i 0], [])
  else none) := by kernel_rfl
theorem u_q179 (k : Nat) (a1 a2 : Int) (a3 a4 : Int) : call (k + 1) f_q179 [.i a1, .i a2, .i a3, .i a4] [] =
  ((call k f_q164 [(PV.i (-1048576 : Int)), PV.i 1048576, (PV.l (List.set (List.set (List.set (List.set [[PV.i 0], [PV.i 0], [PV.i 0], [PV.i 0]] 0 [PV.i a1]) 1 [PV.i a2]) 2 [PV.i a3]) 3 [PV.i a4]))] []).bind fun r1 =>
   (bif (r1.1.getD 0 PV.u).toB then (bif (decide (a1 ≤ a2)) then some [(PV.b (decide (a3 ≤ a4)))]
   else some [PV.b false])
   else some [PV.b false])).bind fun r2 =>
  some ([PV.b ((r2.getD 0 PV.u)).toB], []) := by kernel_rfl
theorem u_q56 (k : Nat) (a1 : List UInt8) (a2 a3 : Int) (a4 a5 : Int) (a6 a7 : Int) : call (k + 1) f_q56 [.s a1, .i a2, .i a3, .i a4, .i a5, .i a6, .i a7] [] =
  (bif (a2 != (65536 : Int)) then (call k f_q79 [(PV.s []), PV.i 0, PV.b true] []).bind fun r24 =>
  ((bif (a2 != (65536 : Int)) then some [PV.b true]
   else some [(PV.b (a5 != (65536 : Int)))])).bind fun r25 =>
  (bif ((r25.getD 0 PV.u)).toB then (call k f_q9 [PV.s (r24.1.getD 0 PV.u).toS, PV.i (r24.1.getD 1 PV.u).toI, PV.i 5, (PV.l (List.set (List.set [[PV.i 0], [PV.i 0]] 0 [PV.i a2]) 1 [PV.i a5]))] []).bind fun r26 =>
  (bif (a3 != (0 : Int)) then (call k f_q79 [PV.s (r26.1.getD 0 PV.u).toS, PV.i (r26.1.getD 1 PV.u).toI, PV.b true] []).bind fun r32 =>
  ((bif (a3 != (0 : Int)) then some [PV.b true]
   else some [(PV.b (a4 != (0 : Int)))])).bind fun r33 =>
  (bif ((r33.getD 0 PV.u)).toB then (call k f_q9 [PV.s (r32.1.getD 0 PV.u).toS, PV.i (r32.1.getD 1 PV.u).toI, PV.i 5, (PV.l (List.set (List.set [[PV.i 0], [PV.i 0]] 0 [PV.i a3]) 1 [PV.i a4]))] []).bind fun r34 =>
  (call k f_q9 [PV.s (r34.1.getD 0 PV.u).toS, PV.i (r34.1.getD 1 PV.u).toI, PV.i 5, (PV.l (List.set (List.set [[PV.i 0], [PV.i 0]] 0 [PV.i a6]) 1 [PV.i a7]))] []).bind fun r35 =>
  (bif (decide (((List.length a1) + (List.length (r35.1.getD 0 PV.u).toS)) ≤ 1099511627776)) then some ([(PV.s (a1 ++ (r35.1.getD 0 PV.u).toS))], [])
  else none)
  else (call k f_q9 [PV.s (r32.1.getD 0 PV.u).toS, PV.i (r32.1.getD 1 PV.u).toI, PV.i 5, (PV.l (List.set (List.set [[PV.i 0], [PV.i 0]] 0 [PV.i a6]) 1 [PV.i a7]))] []).bind fun r36 =>
  (bif (decide (((List.length a1) + (List.length (r36.1.getD 0 PV.u).toS)) ≤ 1099511627776)) then some ([(PV.s (a1 ++ (r36.1.getD 0 PV.u).toS))], [])
  else none))
  else (call k f_q79 [PV.s (r26.1.getD 0 PV.u).toS, PV.i (r26.1.getD 1 PV.u).toI, (PV.b (a4 != (0 : Int)))] []).bind fun r27 =>
  ((bif (a3 != (0 : Int)) then some [PV.b true]
   else some [(PV.b (a4 != (0 : Int)))])).bind fun r28 =>
  (bif ((r28.getD 0 PV.u)).toB then (call k f_q9 [PV.s (r27.1.getD 0 PV.u).toS, PV.i (r27.1.getD 1 PV.u).toI, PV.i 5, (PV.l (List.set (List.set [[PV.i 0], [PV.i 0]] 0 [PV.i a3]) 1 [PV.i a4]))] []).bind fun r29 =>
  (call k f_q9 [PV.s (r29.1.getD 0 PV.u).toS, PV.i (r29.1.getD 1 PV.u).toI, PV.i 5, (PV.l (List.set (List.set [[PV.i 0], [PV.i 0]] 0 [PV.i a6]) 1 [PV.i a7]))] []).bind fun r30 =>
  (bif (decide (((List.length a1) + (List.length (r30.1.getD 0 PV.u).toS)) ≤ 1099511627776)) then some ([(PV.s (a1 ++ (r30.1.getD 0 PV.u).toS))], [])
  else none)
  else (call k f_q9 [PV.s (r27.1.getD 0 PV.u).toS, PV.i (r27.1.getD 1 PV.u).toI, PV.i 5, (PV.l (List.set (List.set [[PV.i 0], [PV.i 0]] 0 [PV.i a6]) 1 [PV.i a7]))] []).bind fun r31 =>
  (bif (decide (((List.length a1) + (List.length (r31.1.getD 0 PV.u).toS)) ≤ 1099511627776)) then some ([(PV.s (a1 ++ (r31.1.getD 0 PV.u).toS))], [])
  else none)))
  else (bif (a3 != (0 : Int)) then (call k f_q79 [PV.s (r24.1.getD 0 PV.u).toS, PV.i (r24.1.getD 1 PV.u).toI, PV.b true] []).bind fun r42 =>
  ((bif (a3 != (0 : Int)) then some [PV.b true]
   else some [(PV.b (a4 != (0 : Int)))])).bind fun r43 =>
  (bif ((r43.getD 0 PV.u)).toB then (call k f_q9 [PV.s (r42.1.getD 0 PV.u).toS, PV.i (r42.1.getD 1 PV.u).toI, PV.i 5, (PV.l (List.set (List.set [[PV.i 0], [PV.i 0]] 0 [PV.i a3]) 1 [PV.i a4]))] []).bind fun r44 =>
  (call k f_q9 [PV.s (r44.1.getD 0 PV.u).toS, PV.i (r44.1.getD 1 PV.u).toI, PV.i 5, (PV.l (List.set (List.set [[PV.i 0], [PV.i 0]] 0 [PV.i a6]) 1 [PV.i a7]))] []).bind fun r45 =>
  (bif (decide (((List.length a1) + (List.length (r45.1.getD 0 PV.u).toS)) ≤ 1099511627776)) then some ([(PV.s (a1 ++ (r45.1.getD 0 PV.u).toS))], [])
  else none)
  else (call k f_q9 [PV.s (r42.1.getD 0 PV.u).toS, PV.i (r42.1.getD 1 PV.u).toI, PV.i 5, (PV.l (List.set (List.set [[PV.i 0], [PV.i 0]] 0 [PV.i a6]) 1 [PV.i a7]))] []).bind fun r46 =>
  (bif (decide (((List.length a1) + (List.length (r46.1.getD 0 PV.u).toS)) ≤ 1099511627776)) then some ([(PV.s (a1 ++ (r46.1.getD 0 PV.u).toS))], [])
  else none))
  else (call k f_q79 [PV.s (r24.1.getD 0 PV.u).toS, PV.i (r24.1.getD 1 PV.u).toI, (PV.b (a4 != (0 : Int)))] []).bind fun r37 =>
  ((bif (a3 != (0 : Int)) then some [PV.b true]
   else some [(PV.b (a4 != (0 : Int)))])).bind fun r38 =>
  (bif ((r38.getD 0 PV.u)).toB then (call k f_q9 [PV.s (r37.1.getD 0 PV.u).toS, PV.i (r37.1.getD 1 PV.u).toI, PV.i 5, (PV.l (List.set (List.set [[PV.i 0], [PV.i 0]] 0 [PV.i a3]) 1 [PV.i a4]))] []).bind fun r39 =>
  (call k f_q9 [PV.s (r39.1.getD 0 PV.u).toS, PV.i (r39.1.getD 1 PV.u).toI, PV.i 5, (PV.l (List.set (List.set [[PV.i 0], [PV.i 0]] 0 [PV.i a6]) 1 [PV.i a7]))] []).bind fun r40 =>
  (bif (decide (((List.length a1) + (List.length (r40.1.getD 0 PV.u).toS)) ≤ 1099511627776)) then some ([(PV.s (a1 ++ (r40.1.getD 0 PV.u).toS))], [])
  else none)
  else (call k f_q9 [PV.s (r37.1.getD 0 PV.u).toS, PV.i (r37.1.getD 1 PV.u).toI, PV.i 5, (PV.l (List.set (List.set [[PV.i 0], [PV.i 0]] 0 [PV.i a6]) 1 [PV.i a7]))] []).bind fun r41 =>
  (bif (decide (((List.length a1) + (List.length (r41.1.getD 0 PV.u).toS)) ≤ 1099511627776)) then some ([(PV.s (a1 ++ (r41.1.getD 0 PV.u).toS))], [])
  else none))))
  else (call k f_q79 [(PV.s []), PV.i 0, (PV.b (a5 != (65536 : Int)))] []).bind fun r1 =>
  ((bif (a2 != (65536 : Int)) then some [PV.b true]
   else some [(PV.b (a5 != (65536 : Int)))])).bind fun r2 =>
  (bif ((r2.getD 0 PV.u)).toB then (call k f_q9 [PV.s (r1.1.getD 0 PV.u).toS, PV.i (r1.1.getD 1 PV.u).toI, PV.i 5, (PV.l (List.set (List.set [[PV.i 0], [PV.i 0]] 0 [PV.i a2]) 1 [PV.i a5]))] []).bind fun r3 =>
  (bif (a3 != (0 : Int)) then (call k f_q79 [PV.s (r3.1.getD 0 PV.u).toS, PV.i (r3.1.getD 1 PV.u).toI, PV.b true] []).bind fun r9 =>
  ((bif (a3 != (0 : Int)) then some [PV.b true]
   else some [(PV.b (a4 != (0 : Int)))])).bind fun r10 =>
  (bif ((r10.getD 0 PV.u)).toB then (call k f_q9 [PV.s (r9.1.getD 0 PV.u).toS, PV.i (r9.1.getD 1 PV.u).toI, PV.i 5, (PV.l (List.set (List.set [[PV.i 0], [PV.i 0]] 0 [PV.i a3]) 1 [PV.i a4]))] []).bind fun r11 =>
  (call k f_q9 [PV.s (r11.1.getD 0 PV.u).toS, PV.i (r11.1.getD 1 PV.u).toI, PV.i 5, (PV.l (List.set (List.set [[PV.i 0], [PV.i 0]] 0 [PV.i a6]) 1 [PV.i a7]))] []).bind fun r12 =>
  (bif (decide (((List.length a1) + (List.length (r12.1.getD 0 PV.u).toS)) ≤ 1099511627776)) then some ([(PV.s (a1 ++ (r12.1.getD 0 PV.u).toS))], [])
  else none)
  else (call k f_q9 [PV.s (r9.1.getD 0 PV.u).toS, PV.i (r9.1.getD 1 PV.u).toI, PV.i 5, (PV.l (List.set (List.set [[PV.i 0], [PV.i 0]] 0 [PV.i a6]) 1 [PV.i a7]))] []).bind fun r13 =>
  (bif (decide (((List.length a1) + (List.length (r13.1.getD 0 PV.u).toS)) ≤ 1099511627776)) then some ([(PV.s (a1 ++ (r13.1.getD 0 PV.u).toS))], [])
  else none))
  else (call k f_q79 [PV.s (r3.1.getD 0 PV.u).toS, PV.i (r3.1.getD 1 PV.u).toI, (PV.b (a4 != (0 : Int)))] []).bind fun r4 =>
  ((bif (a3 != (0 : Int)) then some [PV.b true]
   else some [(PV.b (a4 != (0 : Int)))])).bind fun r5 =>
  (bif ((r5.getD 0 PV.u)).toB then (call k f_q9 [PV.s (r4.1.getD 0 PV.u).toS, PV.i (r4.1.getD 1 PV.u).toI, PV.i 5, (PV.l (List.set (List.set [[PV.i 0], [PV.i 0]] 0 [PV.i a3]) 1 [PV.i a4]))] []).bind fun r6 =>
  (call k f_q9 [PV.s (r6.1.getD 0 PV.u).toS, PV.i (r6.1.getD 1 PV.u).toI, PV.i 5, (PV.l (List.set (List.set [[PV.i 0], [PV.i 0]] 0 [PV.i a6]) 1 [PV.i a7]))] []).bind fun r7 =>
  (bif (decide (((List.length a1) + (List.length (r7.1.getD 0 PV.u).toS)) ≤ 1099511627776)) then some ([(PV.s (a1 ++ (r7.1.getD 0 PV.u).toS))], [])
  else none)
  else (call k f_q9 [PV.s (r4.1.getD 0 PV.u).toS, PV.i (r4.1.getD 1 PV.u).toI, PV.i 5, (PV.l (List.set (List.set [[PV.i 0], [PV.i 0]] 0 [PV.i a6]) 1 [PV.i a7]))] []).bind fun r8 =>
  (bif (decide (((List.length a1) + (List.length (r8.1.getD 0 PV.u).toS)) ≤ 1099511627776)) then some ([(PV.s (a1 ++ (r8.1.getD 0 PV.u).toS))], [])
  else none)))
  else (bif (a3 != (0 : Int)) then (call k f_q79 [PV.s (r1.1.getD 0 PV.u).toS, PV.i (r1.1.getD 1 PV.u).toI, PV.b true] []).bind fun r19 =>
  ((bif (a3 != (0 : Int)) then some [PV.b true]
   else some [(PV.b (a4 != (0 : Int)))])).bind fun r20 =>
  (bif ((r20.getD 0 PV.u)).toB then (call k f_q9 [PV.s (r19.1.getD 0 PV.u).toS, PV.i (r19.1.getD 1 PV.u).toI, PV.i 5, (PV.l (List.set (List.set [[PV.i 0], [PV.i 0]] 0 [PV.i a3]) 1 [PV.i a4]))] []).bind fun r21 =>
  (call k f_q9 [PV.s (r21.1.getD 0 PV.u).toS, PV.i (r21.1.getD 1 PV.u).toI, PV.i 5, (PV.l (List.set (List.set [[PV.i 0], [PV.i 0]] 0 [PV.i a6]) 1 [PV.i a7]))] []).bind fun r22 =>
  (bif (decide (((List.length a1) + (List.length (r22.1.getD 0 PV.u).toS)) ≤ 1099511627776)) then some ([(PV.s (a1 ++ (r22.1.getD 0 PV.u).toS))], [])
  else none)
  else (call k f_q9 [PV.s (r19.1.getD 0 PV.u).toS, PV.i (r19.1.getD 1 PV.u).toI, PV.i 5, (PV.l (List.set (List.set [[PV.i 0], [PV.i 0]] 0 [PV.i a6]) 1 [PV.i a7]))] []).bind fun r23 =>
  (bif (decide (((List.length a1) + (List.length (r23.1.getD 0 PV.u).toS)) ≤ 1099511627776)) then some ([(PV.s (a1 ++ (r23.1.getD 0 PV.u).toS))], [])
  else none))
  else (call k f_q79 [PV.s (r1.1.getD 0 PV.u).toS, PV.i (r1.1.getD 1 PV.u).toI, (PV.b (a4 != (0 : Int)))] []).bind fun r14 =>
  ((bif (a3 != (0 : Int)) then some [PV.b true]
   else some [(PV.b (a4 != (0 : Int)))])).bind fun r15 =>
  (bif ((r15.getD 0 PV.u)).toB then (call k f_q9 [PV.s (r14.1.getD 0 PV.u).toS, PV.i (r14.1.getD 1 PV.u).toI, PV.i 5, (PV.l (List.set (List.set [[PV.i 0], [PV.i 0]] 0 [PV.i a3]) 1 [PV.i a4]))] []).bind fun r16 =>
  (call k f_q9 [PV.s (r16.1.getD 0 PV.u).toS, PV.i (r16.1.getD 1 PV.u).toI, PV.i 5, (PV.l (List.set (List.set [[PV.i 0], [PV.i 0]] 0 [PV.i a6]) 1 [PV.i a7]))] []).bind fun r17 =>
  (bif (decide (((List.length a1) + (List.length (r17.1.getD 0 PV.u).toS)) ≤ 1099511627776)) then some ([(PV.s (a1 ++ (r17.1.getD 0 PV.u).toS))], [])
  else none)
  else (call k f_q9 [PV.s (r14.1.getD 0 PV.u).toS, PV.i (r14.1.getD 1 PV.u).toI, PV.i 5, (PV.l (List.set (List.set [[PV.i 0], [PV.i 0]] 0 [PV.i a6]) 1 [PV.i a7]))] []).bind fun r18 =>
  (bif (decide (((List.length a1) + (List.length (r18.1.getD 0 PV.u).toS)) ≤ 1099511627776)) then some ([(PV.s (a1 ++ (r18.1.getD 0 PV.u).toS))], [])
  else none))))) := by kernel_rfl
noncomputable def S_q141 (x1 : List UInt8) (x2 x3 x4 : Int) (x5 : List UInt8) (x6 : Int) (x7 : List UInt8) (x8 : Int) : St := mkSt [(5, .v (.ptr (.n 1 2 0) 0)), (7, .v (.str x1)), (8, .v (.ptr (.n 3 7 0) 0)), (9, .v (.int .i64 x2)), (10, .v (.int .i64 x3)), (11, .v (.int .i64 x4))] [((.n 1 2 0), .cells 23 [.str x5, .int .i64 x6]), ((.n 3 7 0), .cells 23 [.str x7, .int .i64 x8])] 1000 43
noncomputable def at_q141 : List Item := (atLoop Tryz.f59 0)
theorem u_q186 (k : Nat) (a1 : List UInt8) (a2 a3 : Int) : call (k + 1) f_q186 [.s a1, .i a2, .i a3] [] =
  ((bif (decide (a3 < (1 : Int))) then some [PV.b true]
   else some [(PV.b (decide (a3 > (4 : Int))))])).bind fun r1 =>
  (bif ((r1.getD 0 PV.u)).toB then some ([PV.i 0, (PV.s []), PV.i 0, PV.i 1], [])
  else (call k f_q212 [PV.s a1, PV.i a2, PV.i a3] []).bind fun r2 =>
  run k f_q186 [] at_q141 (S_q141 ((r2.1.getD 0 PV.u).toS) ((r2.1.getD 3 PV.u).toI) 0 ((IntKind.wrap .i64 ((((List.length (r2.1.getD 0 PV.u).toS) : Nat) : Int) - (1 : Int)))) ([]) 0 ((r2.1.getD 1 PV.u).toS) ((r2.1.getD 2 PV.u).toI))) := by kernel_rfl
theorem u_q141 (k : Nat) (x1 : List UInt8) (x2 x3 x4 : Int) (x5 : List UInt8) (x6 : Int) (x7 : List UInt8) (x8 : Int) : run (k + 1) f_q186 [] at_q141 (S_q141 x1 x2 x3 x4 x5 x6 x7 x8) =
  (bif (decide (x4 ≥ (0 : Int))) then (bif (inB x4 (List.length x1)) then run k f_q186 [] at_q141 (S_q141 x1 x2 ((bitsOp Go.BinOp.or .i64 (shl .i64 x3 (8 : Int)) (IntKind.wrap .i64 (bt x1 x4)))) ((IntKind.wrap .i64 (x4 - (1 : Int)))) x5 x6 x7 x8)
  else none)
  else some ([PV.i x3, PV.s x7, PV.i x8, PV.i x2], [])) := by kernel_rfl
/- celluloid/celluloidref07.TakeRGBA -/
/- celluloid/celluloidref02.Align -/
theorem u_q90 (k : Nat) (p0_1 : List UInt8) (p0_2 : Int) : call (k + 1) f_q90 [.u] [(t_q41, [.s p0_1, .i p0_2])] =
  (call k f_q181 [PV.s p0_1, PV.i p0_2] []).bind fun r1 =>
  some ([PV.s (r1.1.getD 0 PV.u).toS, PV.i (r1.1.getD 1 PV.u).toI], [(t_q41, [PV.s p0_1, PV.i p0_2])]) := by kernel_rfl
noncomputable def S_q73 (x1 : List (List PV)) (x2 x3 : Int) (x4 : List UInt8) (x5 : Int) (x6 : List UInt8) (x7 : Int) : St := mkSt [(2, .v (.sl 3 x1)), (3, .v (.ptr (.n 1 0 0) 0)), (6, .v (.ptr (.n 1 1 0) 0)), (7, .v (.int .i64 x2)), (8, .v (.int .i64 x3))] [((.n 1 0 0), .cells 163 [.str x4, .int .i64 x5]), ((.n 1 1 0), .cells 163 [.str x6, .int .i64 x7])] 1000 35
noncomputable def at_q73 : List Item := (atLoop Tryz.f99 0)
theorem u_q9 (k : Nat) (a1 : List UInt8) (a2 a3 : Int) (a4 : List (List PV)) : call (k + 1) f_q9 [.s a1, .i a2, .i a3, .l a4] [] =
  (call k f_q126 [PV.l a4] []).bind fun r1 =>
  (call k f_q53 [PV.s a1, PV.i a2, PV.i (r1.1.getD 0 PV.u).toI, PV.i a3] []).bind fun r2 =>
  run k f_q9 [] at_q73 (S_q73 (a4) ((r1.1.getD 0 PV.u).toI) 0 ((r2.1.getD 0 PV.u).toS) ((r2.1.getD 1 PV.u).toI) ([]) 0) := by kernel_rfl
theorem u_q73 (k : Nat) (x1 : List (List PV)) (x2 x3 : Int) (x4 : List UInt8) (x5 : Int) (x6 : List UInt8) (x7 : Int) : run (k + 1) f_q9 [] at_q73 (S_q73 x1 x2 x3 x4 x5 x6 x7) =
  (bif (decide (x3 < ((x1.length : Nat) : Int))) then (bif (inB x3 (List.length x1)) then (call k f_q165 [PV.s x4, PV.i x5, PV.i ((elemAt x1 x3).getD 0 PV.u).toI, PV.i x2] []).bind fun r3 =>
  run k f_q9 [] at_q73 (S_q73 x1 x2 ((IntKind.wrap .i64 (x3 + (1 : Int)))) ((r3.1.getD 0 PV.u).toS) ((r3.1.getD 1 PV.u).toI) x6 x7)
  else none)
  else some ([PV.s x4, PV.i x5], [])) := by kernel_rfl
theorem u_q11 (k : Nat) (a2 : Int) (p0_1 : List UInt8) (p0_2 p0_3 : Int) : call (k + 1) f_q11 [.u, .i a2] [(t_q19, [.s p0_1, .i p0_2, .i p0_3])] =
  (bif (p0_3 != (0 : Int)) then some ([PV.i 0], [(t_q19, [PV.s p0_1, PV.i p0_2, PV.i p0_3])])
  else (call k f_q211 [PV.s p0_1, PV.i p0_2, PV.i a2] []).bind fun r1 =>
  some ([PV.i (r1.1.getD 0 PV.u).toI], [(t_q19, [PV.s (r1.1.getD 1 PV.u).toS, PV.i (r1.1.getD 2 PV.u).toI, PV.i (r1.1.getD 3 PV.u).toI])])) := by kernel_rfl
theorem u_q183 (k : Nat) (a1 : List UInt8) (a2 : Int) : call (k + 1) f_q183 [.s a1, .i a2] [] =
  (call k f_q208 [PV.s a1, PV.i a2] []).bind fun r1 =>
  (bif (r1.1.getD 0 PV.u).toB then some ([PV.s a1, (PV.i (IntKind.wrap .i64 ((IntKind.wrap .i64 (Int.tdiv (IntKind.wrap .i64 (a2 + (7 : Int))) (8 : Int))) * (8 : Int))))], [])
  else some ([PV.s a1, PV.i a2], [])) := by kernel_rfl
/- celluloid/celluloidref02.Bytes -/
/- celluloid/celluloidref07.TakeMatrix -/
theorem u_q123 (k : Nat) (a1 a2 : Int) (a3 a4 : Int) (a5 a6 : Int) : call (k + 1) f_q123 [.i a1, .i a2, .i a3, .i a4, .i a5, .i a6] [] =
  ((call k f_q164 [(PV.i (-4194304 : Int)), PV.i 4194304, (PV.l (List.set (List.set (List.set (List.set [[PV.i 0], [PV.i 0], [PV.i 0], [PV.i 0]] 0 [PV.i a1]) 1 [PV.i a2]) 2 [PV.i a3]) 3 [PV.i a4]))] []).bind fun r1 =>
   (bif (r1.1.getD 0 PV.u).toB then (call k f_q164 [(PV.i (-1048576 : Int)), PV.i 1048576, (PV.l (List.set (List.set [[PV.i 0], [PV.i 0]] 0 [PV.i a5]) 1 [PV.i a6]))] []).bind fun r2 =>
   some [PV.b (r2.1.getD 0 PV.u).toB]
   else some [PV.b false])).bind fun r3 =>
  some ([PV.b ((r3.getD 0 PV.u)).toB], []) := by kernel_rfl
theorem u_q144 (k : Nat) (a1 a2 : Int) (a3 a4 : Int) (a5 a6 : Int) : call (k + 1) f_q144 [.i a1, .i a2, .i a3, .i a4, .i a5, .i a6] [] =
  ((call k f_q107 [PV.i a1, PV.i 4194304] []).bind fun r1 =>
   (bif (r1.1.getD 0 PV.u).toB then (call k f_q107 [PV.i a2, PV.i 4194304] []).bind fun r2 =>
   (bif (r2.1.getD 0 PV.u).toB then (call k f_q107 [PV.i a3, PV.i 4194304] []).bind fun r3 =>
   (bif (r3.1.getD 0 PV.u).toB then (call k f_q107 [PV.i a4, PV.i 4194304] []).bind fun r4 =>
   (bif (r4.1.getD 0 PV.u).toB then (call k f_q107 [PV.i a5, PV.i 1048576] []).bind fun r5 =>
   (bif (r5.1.getD 0 PV.u).toB then (call k f_q107 [PV.i a6, PV.i 1048576] []).bind fun r6 =>
   some [PV.b (r6.1.getD 0 PV.u).toB]
   else some [PV.b false])
   else some [PV.b false])
   else some [PV.b false])
   else some [PV.b false])
   else some [PV.b false])).bind fun r7 =>
  some ([PV.b ((r7.getD 0 PV.u)).toB], []) := by kernel_rfl
theorem u_q165 (k : Nat) (a1 : List UInt8) (a2 a3 a4 : Int) : call (k + 1) f_q165 [.s a1, .i a2, .i a3, .i a4] [] =
  ((bif (decide (a4 < (0 : Int))) then some [PV.b true]
   else (bif (decide (a4 > (31 : Int))) then some [PV.b true]
   else (call k f_q97 [PV.i a3] []).bind fun r1 =>
   some [(PV.b (decide ((r1.1.getD 0 PV.u).toI > a4)))]))).bind fun r2 =>
  (bif ((r2.getD 0 PV.u)).toB then some ([(PV.s []), PV.i 0, PV.b false], [])
  else (bif (decide (a3 < (0 : Int))) then (call k f_q75 [PV.i a4] []).bind fun r3 =>
  (call k f_q53 [PV.s a1, PV.i a2, (PV.i (IntKind.wrap .i64 (a3 + (r3.1.getD 0 PV.u).toI))), PV.i a4] []).bind fun r4 =>
  some ([PV.s (r4.1.getD 0 PV.u).toS, PV.i (r4.1.getD 1 PV.u).toI, PV.b (r4.1.getD 2 PV.u).toB], [])
  else (call k f_q53 [PV.s a1, PV.i a2, PV.i a3, PV.i a4] []).bind fun r5 =>
  some ([PV.s (r5.1.getD 0 PV.u).toS, PV.i (r5.1.getD 1 PV.u).toI, PV.b (r5.1.getD 2 PV.u).toB], []))) := by kernel_rfl
/- celluloid/celluloidref02.Bit -/
theorem u_q197 (k : Nat) (a1 : List UInt8) (a2 a3 : Int) : call (k + 1) f_q197 [.s a1, .i a2, .i a3] [] =
  (bif (a2 == (0 : Int)) then (bif (decide (((List.length a1) + (List.length (toBytes (List.set [[PV.i 0]] 0 [(PV.i (IntKind.wrap .u8 (IntKind.wrap .i64 ((128 : Int) * a3))))])))) ≤ 1099511627776)) then some ([(PV.s (a1 ++ (toBytes (List.set [[PV.i 0]] 0 [(PV.i (IntKind.wrap .u8 (IntKind.wrap .i64 ((128 : Int) * a3))))])))), PV.i 7], [])
  else none)
  else (bif (inB (IntKind.wrap .i64 (((a1.length : Nat) : Int) - (1 : Int))) (List.length a1)) then (call k f_q75 [(PV.i (IntKind.wrap .i64 (a2 - (1 : Int))))] []).bind fun r1 =>
  (bif (okB (0 : Int) (IntKind.wrap .i64 (((a1.length : Nat) : Int) - (1 : Int))) (List.length a1)) then (bif (decide (((List.length (cutL (0 : Int) (IntKind.wrap .i64 (((a1.length : Nat) : Int) - (1 : Int))) a1)) + (List.length (toBytes (List.set [[PV.i 0]] 0 [(PV.i (IntKind.wrap .u8 (IntKind.wrap .i64 ((IntKind.wrap .i64 (bt a1 (IntKind.wrap .i64 (((a1.length : Nat) : Int) - (1 : Int))))) + (IntKind.wrap .i64 (a3 * (r1.1.getD 0 PV.u).toI))))))])))) ≤ 1099511627776)) then some ([(PV.s ((cutL (0 : Int) (IntKind.wrap .i64 (((a1.length : Nat) : Int) - (1 : Int))) a1) ++ (toBytes (List.set [[PV.i 0]] 0 [(PV.i (IntKind.wrap .u8 (IntKind.wrap .i64 ((IntKind.wrap .i64 (bt a1 (IntKind.wrap .i64 (((a1.length : Nat) : Int) - (1 : Int))))) + (IntKind.wrap .i64 (a3 * (r1.1.getD 0 PV.u).toI))))))])))), (PV.i (IntKind.wrap .i64 (a2 - (1 : Int))))], [])
  else none)
  else none)
  else none)) := by kernel_rfl
theorem u_q182 (k : Nat) (a1 a2 : Int) (a3 a4 : Int) : call (k + 1) f_q182 [.i a1, .i a2, .i a3, .i a4] [] =
  ((call k f_q107 [PV.i a1, PV.i 1048576] []).bind fun r1 =>
   (bif (r1.1.getD 0 PV.u).toB then (call k f_q107 [PV.i a2, PV.i 1048576] []).bind fun r2 =>
   (bif (r2.1.getD 0 PV.u).toB then (call k f_q107 [PV.i a3, PV.i 1048576] []).bind fun r3 =>
   (bif (r3.1.getD 0 PV.u).toB then (call k f_q107 [PV.i a4, PV.i 1048576] []).bind fun r4 =>
   (bif (r4.1.getD 0 PV.u).toB then (bif (decide (a1 ≤ a2)) then some [(PV.b (decide (a3 ≤ a4)))]
   else some [PV.b false])
   else some [PV.b false])
   else some [PV.b false])
   else some [PV.b false])
   else some [PV.b false])).bind fun r5 =>
  some ([PV.b ((r5.getD 0 PV.u)).toB], []) := by kernel_rfl
theorem u_q207 (k : Nat) (a1 : List UInt8) (a2 : Int) : call (k + 1) f_q207 [.s a1, .i a2] [] =
  (call k f_q210 [PV.s a1, PV.i a2] []).bind fun r1 =>
  (call k f_q29 [PV.u, PV.i 5] [(t_q19, [PV.s ((r1.2.getD 0 (0, [])).2.getD 0 PV.u).toS, PV.i ((r1.2.getD 0 (0, [])).2.getD 1 PV.u).toI, PV.i ((r1.2.getD 0 (0, [])).2.getD 2 PV.u).toI])]).bind fun r2 =>
  (call k f_q11 [PV.u, PV.i (r2.1.getD 0 PV.u).toI] [(t_q19, [PV.s ((r2.2.getD 0 (0, [])).2.getD 0 PV.u).toS, PV.i ((r2.2.getD 0 (0, [])).2.getD 1 PV.u).toI, PV.i ((r2.2.getD 0 (0, [])).2.getD 2 PV.u).toI])]).bind fun r3 =>
  (call k f_q11 [PV.u, PV.i (r2.1.getD 0 PV.u).toI] [(t_q19, [PV.s ((r3.2.getD 0 (0, [])).2.getD 0 PV.u).toS, PV.i ((r3.2.getD 0 (0, [])).2.getD 1 PV.u).toI, PV.i ((r3.2.getD 0 (0, [])).2.getD 2 PV.u).toI])]).bind fun r4 =>
  (call k f_q11 [PV.u, PV.i (r2.1.getD 0 PV.u).toI] [(t_q19, [PV.s ((r4.2.getD 0 (0, [])).2.getD 0 PV.u).toS, PV.i ((r4.2.getD 0 (0, [])).2.getD 1 PV.u).toI, PV.i ((r4.2.getD 0 (0, [])).2.getD 2 PV.u).toI])]).bind fun r5 =>
  (call k f_q11 [PV.u, PV.i (r2.1.getD 0 PV.u).toI] [(t_q19, [PV.s ((r5.2.getD 0 (0, [])).2.getD 0 PV.u).toS, PV.i ((r5.2.getD 0 (0, [])).2.getD 1 PV.u).toI, PV.i ((r5.2.getD 0 (0, [])).2.getD 2 PV.u).toI])]).bind fun r6 =>
  (call k f_q179 [PV.i (r3.1.getD 0 PV.u).toI, PV.i (r4.1.getD 0 PV.u).toI, PV.i (r5.1.getD 0 PV.u).toI, PV.i (r6.1.getD 0 PV.u).toI] []).bind fun r7 =>
  (call k f_q91 [PV.u, PV.b (r7.1.getD 0 PV.u).toB] [(t_q19, [PV.s ((r6.2.getD 0 (0, [])).2.getD 0 PV.u).toS, PV.i ((r6.2.getD 0 (0, [])).2.getD 1 PV.u).toI, PV.i ((r6.2.getD 0 (0, [])).2.getD 2 PV.u).toI])]).bind fun r8 =>
  (bif ((r8.1.getD 2 PV.u).toI != (0 : Int)) then some ([PV.i 0, PV.i 0, PV.i 0, PV.i 0, PV.s (r8.1.getD 0 PV.u).toS, PV.i (r8.1.getD 1 PV.u).toI, PV.i (r8.1.getD 2 PV.u).toI], [])
  else some ([PV.i (r3.1.getD 0 PV.u).toI, PV.i (r4.1.getD 0 PV.u).toI, PV.i (r5.1.getD 0 PV.u).toI, PV.i (r6.1.getD 0 PV.u).toI, PV.s (r8.1.getD 0 PV.u).toS, PV.i (r8.1.getD 1 PV.u).toI, PV.i 0], [])) := by kernel_rfl
/- celluloid/celluloidref02.Little -/
/- celluloid/celluloidref07.Begin -/
theorem u_q145 (k : Nat) (a1 : List UInt8) (a2 a3 : Int) (a4 a5 : Int) (a6 a7 a8 : Int) : call (k + 1) f_q145 [.s a1, .i a2, .i a3, .i a4, .i a5, .i a6, .i a7, .i a8] [] =
  (call k f_q123 [PV.i a3, PV.i a4, PV.i a5, PV.i a6, PV.i a7, PV.i a8] []).bind fun r1 =>
  (bif (!(r1.1.getD 0 PV.u).toB) then some ([(PV.s []), PV.i 0, PV.i 1], [])
  else (call k f_q181 [PV.s a1, PV.i a2] []).bind fun r2 =>
  ((bif (a3 != (65536 : Int)) then (bif (a4 != (0 : Int)) then some [PV.b true, PV.b true]
   else some [PV.b true, (PV.b (a5 != (0 : Int)))])
   else (bif (a4 != (0 : Int)) then some [(PV.b (a6 != (65536 : Int))), PV.b true]
   else some [(PV.b (a6 != (65536 : Int))), (PV.b (a5 != (0 : Int)))]))).bind fun r3 =>
  (call k f_q104 [PV.u, PV.b ((r3.getD 0 PV.u)).toB] [(t_q41, [PV.s (r2.1.getD 0 PV.u).toS, PV.i (r2.1.getD 1 PV.u).toI])]).bind fun r4 =>
  (bif ((r3.getD 0 PV.u)).toB then (call k f_q22 [PV.u, PV.i 5, (PV.l (List.set (List.set [[PV.i 0], [PV.i 0]] 0 [PV.i a3]) 1 [PV.i a6]))] [(t_q41, [PV.s ((r4.2.getD 0 (0, [])).2.getD 0 PV.u).toS, PV.i ((r4.2.getD 0 (0, [])).2.getD 1 PV.u).toI])]).bind fun r5 =>
  (call k f_q104 [PV.u, PV.b ((r3.getD 1 PV.u)).toB] [(t_q41, [PV.s ((r5.2.getD 0 (0, [])).2.getD 0 PV.u).toS, PV.i ((r5.2.getD 0 (0, [])).2.getD 1 PV.u).toI])]).bind fun r6 =>
  (bif ((r3.getD 1 PV.u)).toB then (call k f_q22 [PV.u, PV.i 5, (PV.l (List.set (List.set [[PV.i 0], [PV.i 0]] 0 [PV.i a4]) 1 [PV.i a5]))] [(t_q41, [PV.s ((r6.2.getD 0 (0, [])).2.getD 0 PV.u).toS, PV.i ((r6.2.getD 0 (0, [])).2.getD 1 PV.u).toI])]).bind fun r7 =>
  (call k f_q22 [PV.u, PV.i 5, (PV.l (List.set (List.set [[PV.i 0], [PV.i 0]] 0 [PV.i a7]) 1 [PV.i a8]))] [(t_q41, [PV.s ((r7.2.getD 0 (0, [])).2.getD 0 PV.u).toS, PV.i ((r7.2.getD 0 (0, [])).2.getD 1 PV.u).toI])]).bind fun r8 =>
  (call k f_q90 [PV.u] [(t_q41, [PV.s ((r8.2.getD 0 (0, [])).2.getD 0 PV.u).toS, PV.i ((r8.2.getD 0 (0, [])).2.getD 1 PV.u).toI])]).bind fun r9 =>
  some ([PV.s (r9.1.getD 0 PV.u).toS, PV.i (r9.1.getD 1 PV.u).toI, PV.i 0], [])
  else (call k f_q22 [PV.u, PV.i 5, (PV.l (List.set (List.set [[PV.i 0], [PV.i 0]] 0 [PV.i a7]) 1 [PV.i a8]))] [(t_q41, [PV.s ((r6.2.getD 0 (0, [])).2.getD 0 PV.u).toS, PV.i ((r6.2.getD 0 (0, [])).2.getD 1 PV.u).toI])]).bind fun r10 =>
  (call k f_q90 [PV.u] [(t_q41, [PV.s ((r10.2.getD 0 (0, [])).2.getD 0 PV.u).toS, PV.i ((r10.2.getD 0 (0, [])).2.getD 1 PV.u).toI])]).bind fun r11 =>
  some ([PV.s (r11.1.getD 0 PV.u).toS, PV.i (r11.1.getD 1 PV.u).toI, PV.i 0], []))
  else (call k f_q104 [PV.u, PV.b ((r3.getD 1 PV.u)).toB] [(t_q41, [PV.s ((r4.2.getD 0 (0, [])).2.getD 0 PV.u).toS, PV.i ((r4.2.getD 0 (0, [])).2.getD 1 PV.u).toI])]).bind fun r12 =>
  (bif ((r3.getD 1 PV.u)).toB then (call k f_q22 [PV.u, PV.i 5, (PV.l (List.set (List.set [[PV.i 0], [PV.i 0]] 0 [PV.i a4]) 1 [PV.i a5]))] [(t_q41, [PV.s ((r12.2.getD 0 (0, [])).2.getD 0 PV.u).toS, PV.i ((r12.2.getD 0 (0, [])).2.getD 1 PV.u).toI])]).bind fun r13 =>
  (call k f_q22 [PV.u, PV.i 5, (PV.l (List.set (List.set [[PV.i 0], [PV.i 0]] 0 [PV.i a7]) 1 [PV.i a8]))] [(t_q41, [PV.s ((r13.2.getD 0 (0, [])).2.getD 0 PV.u).toS, PV.i ((r13.2.getD 0 (0, [])).2.getD 1 PV.u).toI])]).bind fun r14 =>
  (call k f_q90 [PV.u] [(t_q41, [PV.s ((r14.2.getD 0 (0, [])).2.getD 0 PV.u).toS, PV.i ((r14.2.getD 0 (0, [])).2.getD 1 PV.u).toI])]).bind fun r15 =>
  some ([PV.s (r15.1.getD 0 PV.u).toS, PV.i (r15.1.getD 1 PV.u).toI, PV.i 0], [])
  else (call k f_q22 [PV.u, PV.i 5, (PV.l (List.set (List.set [[PV.i 0], [PV.i 0]] 0 [PV.i a7]) 1 [PV.i a8]))] [(t_q41, [PV.s ((r12.2.getD 0 (0, [])).2.getD 0 PV.u).toS, PV.i ((r12.2.getD 0 (0, [])).2.getD 1 PV.u).toI])]).bind fun r16 =>
  (call k f_q90 [PV.u] [(t_q41, [PV.s ((r16.2.getD 0 (0, [])).2.getD 0 PV.u).toS, PV.i ((r16.2.getD 0 (0, [])).2.getD 1 PV.u).toI])]).bind fun r17 =>
  some ([PV.s (r17.1.getD 0 PV.u).toS, PV.i (r17.1.getD 1 PV.u).toI, PV.i 0], [])))) := by kernel_rfl
theorem u_q212 (k : Nat) (a1 : List UInt8) (a2 a3 : Int) : call (k + 1) f_q212 [.s a1, .i a2, .i a3] [] =
  ((call k f_q208 [PV.s a1, PV.i a2] []).bind fun r1 =>
   (bif (!(r1.1.getD 0 PV.u).toB) then some [PV.b true]
   else some [(PV.b (decide (a3 < (0 : Int))))])).bind fun r2 =>
  (bif ((r2.getD 0 PV.u)).toB then some ([(PV.s []), (PV.s []), PV.i 0, PV.i 1], [])
  else (call k f_q183 [PV.s a1, PV.i a2] []).bind fun r3 =>
  (bif (decide (a3 > (IntKind.wrap .i64 (((a1.length : Nat) : Int) - (IntKind.wrap .i64 (Int.tdiv (r3.1.getD 1 PV.u).toI (8 : Int))))))) then some ([(PV.s []), (PV.s []), PV.i 0, PV.i 2], [])
  else (bif (okB (IntKind.wrap .i64 (Int.tdiv (r3.1.getD 1 PV.u).toI (8 : Int))) (IntKind.wrap .i64 ((IntKind.wrap .i64 (Int.tdiv (r3.1.getD 1 PV.u).toI (8 : Int))) + a3)) (List.length a1)) then some ([(PV.s (cutL (IntKind.wrap .i64 (Int.tdiv (r3.1.getD 1 PV.u).toI (8 : Int))) (IntKind.wrap .i64 ((IntKind.wrap .i64 (Int.tdiv (r3.1.getD 1 PV.u).toI (8 : Int))) + a3)) a1)), PV.s a1, (PV.i (IntKind.wrap .i64 ((8 : Int) * (IntKind.wrap .i64 ((IntKind.wrap .i64 (Int.tdiv (r3.1.getD 1 PV.u).toI (8 : Int))) + a3))))), PV.i 0], [])
  else none))) := by kernel_rfl
theorem u_q91 (k : Nat) (a2 : Bool) (p0_1 : List UInt8) (p0_2 p0_3 : Int) : call (k + 1) f_q91 [.u, .b a2] [(t_q19, [.s p0_1, .i p0_2, .i p0_3])] =
  (bif (p0_3 != (0 : Int)) then some ([(PV.s []), PV.i 0, PV.i p0_3], [(t_q19, [PV.s p0_1, PV.i p0_2, PV.i p0_3])])
  else (bif (!a2) then some ([(PV.s []), PV.i 0, PV.i 3], [(t_q19, [PV.s p0_1, PV.i p0_2, PV.i p0_3])])
  else (call k f_q183 [PV.s p0_1, PV.i p0_2] []).bind fun r1 =>
  some ([PV.s (r1.1.getD 0 PV.u).toS, PV.i (r1.1.getD 1 PV.u).toI, PV.i 0], [(t_q19, [PV.s p0_1, PV.i p0_2, PV.i p0_3])]))) := by kernel_rfl
noncomputable def S_q81 (x1 x2 x3 : Int) : St := mkSt [(0, .v (.int .i64 x1)), (3, .v (.int .i64 x2)), (4, .v (.int .i64 x3))] [] 1000 13
noncomputable def at_q81 : List Item := (atLoop Tryz.f120 0)
theorem u_q75 (k : Nat) (a1 : Int) : call (k + 1) f_q75 [.i a1] [] =
  run k f_q75 [] at_q81 (S_q81 (a1) 1 0) := by kernel_rfl
theorem u_q81 (k : Nat) (x1 x2 x3 : Int) : run (k + 1) f_q75 [] at_q81 (S_q81 x1 x2 x3) =
  (bif (decide (x3 < x1)) then run k f_q75 [] at_q81 (S_q81 x1 ((IntKind.wrap .i64 (x2 * (2 : Int)))) ((IntKind.wrap .i64 (x3 + (1 : Int)))))
  else some ([PV.i x2], [])) := by kernel_rfl
/- celluloid/celluloidref02.Right -/
noncomputable def S_q115 (x1 : Int) (x2 : List (List PV)) (x3 x4 : Int) : St := mkSt [(3, .v (.int .i64 x1)), (6, .v (.sl 3 x2)), (7, .v (.int .i64 x3)), (8, .v (.int .i64 x4))] [] 1000 26
noncomputable def at_q115 : List Item := (atLoop Tryz.f128 0)
theorem u_q133 (k : Nat) (a1 : List (List PV)) : call (k + 1) f_q133 [.l a1] [] =
  run k f_q133 [] at_q115 (S_q115 0 (a1) (((a1.length : Nat) : Int)) 0) := by kernel_rfl
theorem u_q115 (k : Nat) (x1 : Int) (x2 : List (List PV)) (x3 x4 : Int) : run (k + 1) f_q133 [] at_q115 (S_q115 x1 x2 x3 x4) =
  (bif (decide (x4 < x3)) then (bif (inB x4 (List.length x2)) then (bif (decide (((elemAt x2 x4).getD 0 PV.u).toI < (0 : Int))) then (call k f_q196 [(PV.i (IntKind.wrap .u64 (bitsOp Go.BinOp.xor .i64 (-1 : Int) ((elemAt x2 x4).getD 0 PV.u).toI)))] []).bind fun r1 =>
  run k f_q133 [] at_q115 (S_q115 ((bif (decide ((IntKind.wrap .i64 ((r1.1.getD 0 PV.u).toI + (1 : Int))) > x1)) then (IntKind.wrap .i64 ((r1.1.getD 0 PV.u).toI + (1 : Int))) else x1)) x2 x3 ((IntKind.wrap .i64 (x4 + (1 : Int)))))
  else (bif (((elemAt x2 x4).getD 0 PV.u).toI == (0 : Int)) then run k f_q133 [] at_q115 (S_q115 x1 x2 x3 ((IntKind.wrap .i64 (x4 + (1 : Int)))))
  else (call k f_q196 [(PV.i (IntKind.wrap .u64 ((elemAt x2 x4).getD 0 PV.u).toI))] []).bind fun r2 =>
  run k f_q133 [] at_q115 (S_q115 ((bif (decide ((IntKind.wrap .i64 ((r2.1.getD 0 PV.u).toI + (1 : Int))) > x1)) then (IntKind.wrap .i64 ((r2.1.getD 0 PV.u).toI + (1 : Int))) else x1)) x2 x3 ((IntKind.wrap .i64 (x4 + (1 : Int)))))))
  else none)
  else some ([PV.i x1], [])) := by kernel_rfl
theorem u_q104 (k : Nat) (a2 : Bool) (p0_1 : List UInt8) (p0_2 : Int) : call (k + 1) f_q104 [.u, .b a2] [(t_q41, [.s p0_1, .i p0_2])] =
  (bif a2 then (call k f_q114 [PV.u, PV.i 1, PV.i 1] [(t_q41, [PV.s p0_1, PV.i p0_2])]).bind fun r1 =>
  some ([], [(t_q41, [PV.s ((r1.2.getD 0 (0, [])).2.getD 0 PV.u).toS, PV.i ((r1.2.getD 0 (0, [])).2.getD 1 PV.u).toI])])
  else (call k f_q114 [PV.u, PV.i 0, PV.i 1] [(t_q41, [PV.s p0_1, PV.i p0_2])]).bind fun r2 =>
  some ([], [(t_q41, [PV.s ((r2.2.getD 0 (0, [])).2.getD 0 PV.u).toS, PV.i ((r2.2.getD 0 (0, [])).2.getD 1 PV.u).toI])])) := by kernel_rfl
noncomputable def S_q82 (x1 x2 : Int) : St := mkSt [(0, .v (.int .i64 x1)), (3, .v (.int .i64 x2)), (7, .any), (8, .any), (11, .any), (12, .any), (13, .any), (14, .any), (15, .any), (16, .any), (17, .any), (18, .any), (19, .any), (20, .any), (21, .any), (22, .any), (23, .any), (24, .any), (25, .any), (26, .any), (27, .any), (28, .any), (29, .any), (30, .any), (31, .any), (32, .any), (35, .any), (36, .any), (37, .any), (38, .any), (39, .any), (40, .any), (41, .any), (42, .any), (43, .any), (44, .any), (45, .any)] [] 1000 50
noncomputable def at_q82 : List Item := (atLoop Tryz.f152 0)
theorem u_q97 (k : Nat) (a1 : Int) : call (k + 1) f_q97 [.i a1] [] =
  run k f_q97 [] at_q82 (S_q82 (a1) 0) := by kernel_rfl
theorem u_q82 (k : Nat) (x1 x2 : Int) : run (k + 1) f_q97 [] at_q82 (S_q82 x1 x2) =
  ((bif (decide (x2 < (64 : Int))) then (bif (x1 != (0 : Int)) then (bif (decide (x2 > (0 : Int))) then (bif (decide (x2 < (63 : Int))) then (call k f_q75 [(PV.i (IntKind.wrap .i64 (x2 - (1 : Int))))] []).bind fun r1 =>
   (bif (decide (x1 ≥ (IntKind.wrap .i64 ((0 : Int) - (r1.1.getD 0 PV.u).toI)))) then (call k f_q75 [(PV.i (IntKind.wrap .i64 (x2 - (1 : Int))))] []).bind fun r2 =>
   (bif (!(decide (x1 < (r2.1.getD 0 PV.u).toI))) then (bif (x2 == (63 : Int)) then (bif (decide (x1 ≥ (-4611686018427387904 : Int))) then some [(PV.b (!(decide (x1 < (4611686018427387904 : Int)))))]
   else some [PV.b true])
   else some [PV.b true])
   else some [PV.b false])
   else (bif (x2 == (63 : Int)) then (bif (decide (x1 ≥ (-4611686018427387904 : Int))) then some [(PV.b (!(decide (x1 < (4611686018427387904 : Int)))))]
   else some [PV.b true])
   else some [PV.b true]))
   else (bif (x2 == (63 : Int)) then (bif (decide (x1 ≥ (-4611686018427387904 : Int))) then some [(PV.b (!(decide (x1 < (4611686018427387904 : Int)))))]
   else some [PV.b true])
   else some [PV.b true]))
   else (bif (x2 == (63 : Int)) then (bif (decide (x1 ≥ (-4611686018427387904 : Int))) then some [(PV.b (!(decide (x1 < (4611686018427387904 : Int)))))]
   else some [PV.b true])
   else some [PV.b true]))
   else some [PV.b false])
   else some [PV.b false])).bind fun r3 =>
  (bif ((r3.getD 0 PV.u)).toB then run k f_q97 [] at_q82 (S_q82 x1 ((IntKind.wrap .i64 (x2 + (1 : Int)))))
  else some ([PV.i x2], [])) := by kernel_rfl
theorem u_q208 (k : Nat) (a1 : List UInt8) (a2 : Int) : call (k + 1) f_q208 [.s a1, .i a2] [] =
  ((bif (decide (a2 ≥ (0 : Int))) then some [(PV.b (decide (a2 ≤ (IntKind.wrap .i64 ((8 : Int) * ((a1.length : Nat) : Int))))))]
   else some [PV.b false])).bind fun r1 =>
  some ([PV.b ((r1.getD 0 PV.u)).toB], []) := by kernel_rfl
/- celluloid/celluloidref02.Signed -/
/- math/bits.Len32 -/
noncomputable def S_q122 (x1 x2 x3 : Int) (x4 : List (List PV)) (x5 : List UInt8) (x6 : Int) (x7 : List UInt8) (x8 : Int) : St := mkSt [(1, .v (.int .i64 x1)), (3, .v (.ptr (.n 1 0 0) 0)), (6, .v (.ptr (.n 1 1 0) 0)), (8, .v (.wr (.w 8))), (31, .v (.int .i64 x2)), (32, .v (.int .i64 x3))] [((.w 8), .row 5 x4), ((.n 1 0 0), .cells 46 [.str x5, .int .i64 x6]), ((.n 1 1 0), .cells 46 [.str x7, .int .i64 x8])] 1000 48
noncomputable def at_q122 : List Item := (atLoop Tryz.f33 0)
theorem u_q102 (k : Nat) (a1 : List UInt8) (a2 a3 a4 : Int) : call (k + 1) f_q102 [.s a1, .i a2, .i a3, .i a4] [] =
  ((bif (decide (a4 < (1 : Int))) then some [PV.b true]
   else (bif (decide (a4 > (4 : Int))) then some [PV.b true]
   else (bif (decide (a3 < (0 : Int))) then some [PV.b true]
   else (bif (decide ((0 : Int) ≤ (IntKind.wrap .i64 ((8 : Int) * a4)))) then some [(PV.b ((shr .i64 a3 (IntKind.wrap .i64 ((8 : Int) * a4))) != (0 : Int)))]
   else none))))).bind fun r1 =>
  (bif ((r1.getD 0 PV.u)).toB then some ([(PV.s []), PV.i 0, PV.i 1], [])
  else (bif ((decide ((0 : Int) ≤ a4)) && ((decide (a4 ≤ a4)) && (decide (a4 ≤ (1073741824 : Int))))) then run k f_q102 [] at_q122 (S_q122 (a3) ((((List.length (List.replicate (Int.toNat a4) [PV.i 0])) : Nat) : Int)) 0 ((List.replicate (Int.toNat a4) [PV.i 0])) (a1) (a2) ([]) 0)
  else none)) := by kernel_rfl
theorem u_q122 (k : Nat) (x1 x2 x3 : Int) (x4 : List (List PV)) (x5 : List UInt8) (x6 : Int) (x7 : List UInt8) (x8 : Int) : run (k + 1) f_q102 [] at_q122 (S_q122 x1 x2 x3 x4 x5 x6 x7 x8) =
  (bif (decide (x3 < x2)) then (bif (decide ((0 : Int) ≤ (IntKind.wrap .i64 ((8 : Int) * x3)))) then (bif (inB x3 (List.length x4)) then (bif (inB x3 (List.length x4)) then run k f_q102 [] at_q122 (S_q122 x1 x2 ((IntKind.wrap .i64 (x3 + (1 : Int)))) ((List.set x4 (Int.toNat x3) (putAt (elemAt x4 x3) 0 [(PV.i (IntKind.wrap .u8 (shr .i64 x1 (IntKind.wrap .i64 ((8 : Int) * x3)))))]))) x5 x6 x7 x8)
  else none)
  else none)
  else none)
  else (call k f_q180 [PV.s x5, PV.i x6, (PV.s (toBytes x4))] []).bind fun r2 =>
  some ([PV.s (r2.1.getD 0 PV.u).toS, PV.i (r2.1.getD 1 PV.u).toI, PV.i 0], [])) := by kernel_rfl
theorem u_q135 (k : Nat) (a1 : List UInt8) (a2 a3 : Int) (a4 a5 a6 : Int) : call (k + 1) f_q135 [.s a1, .i a2, .i a3, .i a4, .i a5, .i a6] [] =
  (call k f_q166 [PV.i a3, PV.i a4, PV.i a5, PV.i a6] []).bind fun r1 =>
  (bif (!(r1.1.getD 0 PV.u).toB) then some ([(PV.s []), PV.i 0, PV.i 1], [])
  else (call k f_q180 [PV.s a1, PV.i a2, (PV.s (toBytes (List.set (List.set (List.set (List.set [[PV.i 0], [PV.i 0], [PV.i 0], [PV.i 0]] 0 [(PV.i (IntKind.wrap .u8 a3))]) 1 [(PV.i (IntKind.wrap .u8 a4))]) 2 [(PV.i (IntKind.wrap .u8 a5))]) 3 [(PV.i (IntKind.wrap .u8 a6))])))] []).bind fun r2 =>
  some ([PV.s (r2.1.getD 0 PV.u).toS, PV.i (r2.1.getD 1 PV.u).toI, PV.i 0], [])) := by kernel_rfl
theorem u_q72 (k : Nat) (a1 : List UInt8) (a2 a3 : Int) (a4 a5 : Int) : call (k + 1) f_q72 [.s a1, .i a2, .i a3, .i a4, .i a5] [] =
  (bif (decide (((List.length a1) + (List.length (toBytes (List.set (List.set (List.set (List.set [[PV.i 0], [PV.i 0], [PV.i 0], [PV.i 0]] 0 [(PV.i (IntKind.wrap .u8 a2))]) 1 [(PV.i (IntKind.wrap .u8 a3))]) 2 [(PV.i (IntKind.wrap .u8 a4))]) 3 [(PV.i (IntKind.wrap .u8 a5))])))) ≤ 1099511627776)) then some ([(PV.s (a1 ++ (toBytes (List.set (List.set (List.set (List.set [[PV.i 0], [PV.i 0], [PV.i 0], [PV.i 0]] 0 [(PV.i (IntKind.wrap .u8 a2))]) 1 [(PV.i (IntKind.wrap .u8 a3))]) 2 [(PV.i (IntKind.wrap .u8 a4))]) 3 [(PV.i (IntKind.wrap .u8 a5))]))))], [])
  else none) := by kernel_rfl
theorem u_q156 (k : Nat) (a1 : List UInt8) (a2 a3 : Int) (a4 a5 : Int) : call (k + 1) f_q156 [.s a1, .i a2, .i a3, .i a4, .i a5] [] =
  (call k f_q9 [(PV.s []), PV.i 0, PV.i 5, (PV.l (List.set (List.set (List.set (List.set [[PV.i 0], [PV.i 0], [PV.i 0], [PV.i 0]] 0 [PV.i a2]) 1 [PV.i a3]) 2 [PV.i a4]) 3 [PV.i a5]))] []).bind fun r1 =>
  (bif (decide (((List.length a1) + (List.length (r1.1.getD 0 PV.u).toS)) ≤ 1099511627776)) then some ([(PV.s (a1 ++ (r1.1.getD 0 PV.u).toS))], [])
  else none) := by kernel_rfl
/- celluloid/celluloidref07.TakeRect -/
/- celluloid/celluloidref07.Plain -/
theorem u_q181 (k : Nat) (a1 : List UInt8) (a2 : Int) : call (k + 1) f_q181 [.s a1, .i a2] [] =
  some ([PV.s a1, PV.i 0], []) := by kernel_rfl
theorem u_q166 (k : Nat) (a1 a2 : Int) (a3 a4 : Int) : call (k + 1) f_q166 [.i a1, .i a2, .i a3, .i a4] [] =
  (call k f_q164 [PV.i 0, PV.i 255, (PV.l (List.set (List.set (List.set (List.set [[PV.i 0], [PV.i 0], [PV.i 0], [PV.i 0]] 0 [PV.i a1]) 1 [PV.i a2]) 2 [PV.i a3]) 3 [PV.i a4]))] []).bind fun r1 =>
  some ([PV.b (r1.1.getD 0 PV.u).toB], []) := by kernel_rfl
theorem u_q107 (k : Nat) (a1 a2 : Int) : call (k + 1) f_q107 [.i a1, .i a2] [] =
  ((bif (decide (a1 ≥ (IntKind.wrap .i64 ((0 : Int) - a2)))) then some [(PV.b (decide (a1 ≤ a2)))]
   else some [PV.b false])).bind fun r1 =>
  some ([PV.b ((r1.getD 0 PV.u)).toB], []) := by kernel_rfl
noncomputable def S_q134 (x1 x2 : Int) (x3 : List (List PV)) (x4 x5 : Int) : St := mkSt [(0, .v (.int .i64 x1)), (1, .v (.int .i64 x2)), (9, .v (.sl 3 x3)), (10, .v (.int .i64 x4)), (11, .v (.int .i64 x5)), (19, .any), (20, .any), (21, .any)] [] 1000 24
noncomputable def at_q134 : List Item := (atLoop Tryz.f89 0)
theorem u_q164 (k : Nat) (a1 a2 : Int) (a3 : List (List PV)) : call (k + 1) f_q164 [.i a1, .i a2, .l a3] [] =
  run k f_q164 [] at_q134 (S_q134 (a1) (a2) (a3) (((a3.length : Nat) : Int)) 0) := by kernel_rfl
theorem u_q134 (k : Nat) (x1 x2 : Int) (x3 : List (List PV)) (x4 x5 : Int) : run (k + 1) f_q164 [] at_q134 (S_q134 x1 x2 x3 x4 x5) =
  (bif (decide (x5 < x4)) then (bif (inB x5 (List.length x3)) then ((bif (decide (((elemAt x3 x5).getD 0 PV.u).toI < x1)) then some [PV.b true]
   else some [(PV.b (decide (((elemAt x3 x5).getD 0 PV.u).toI > x2)))])).bind fun r1 =>
  (bif ((r1.getD 0 PV.u)).toB then some ([PV.b false], [])
  else run k f_q164 [] at_q134 (S_q134 x1 x2 x3 x4 ((IntKind.wrap .i64 (x5 + (1 : Int))))))
  else none)
  else some ([PV.b true], [])) := by kernel_rfl
theorem u_q210 (k : Nat) (a1 : List UInt8) (a2 : Int) : call (k + 1) f_q210 [.s a1, .i a2] [] =
  (call k f_q170 [PV.s a1, PV.i a2, PV.i 0] []).bind fun r1 =>
  (call k f_q183 [PV.s a1, PV.i a2] []).bind fun r2 =>
  some ([PV.u], [(t_q19, [PV.s (r2.1.getD 0 PV.u).toS, PV.i (r2.1.getD 1 PV.u).toI, PV.i (r1.1.getD 3 PV.u).toI])]) := by kernel_rfl
theorem u_q193 (k : Nat) (a1 : List UInt8) (a2 : Int) : call (k + 1) f_q193 [.s a1, .i a2] [] =
  (call k f_q210 [PV.s a1, PV.i a2] []).bind fun r1 =>
  (call k f_q215 [] []).bind fun r2 =>
  (call k f_q29 [PV.u, PV.i 1] [(t_q19, [PV.s ((r1.2.getD 0 (0, [])).2.getD 0 PV.u).toS, PV.i ((r1.2.getD 0 (0, [])).2.getD 1 PV.u).toI, PV.i ((r1.2.getD 0 (0, [])).2.getD 2 PV.u).toI])]).bind fun r3 =>
  (bif ((r3.1.getD 0 PV.u).toI == (1 : Int)) then (call k f_q29 [PV.u, PV.i 5] [(t_q19, [PV.s ((r3.2.getD 0 (0, [])).2.getD 0 PV.u).toS, PV.i ((r3.2.getD 0 (0, [])).2.getD 1 PV.u).toI, PV.i ((r3.2.getD 0 (0, [])).2.getD 2 PV.u).toI])]).bind fun r4 =>
  (call k f_q11 [PV.u, PV.i (r4.1.getD 0 PV.u).toI] [(t_q19, [PV.s ((r4.2.getD 0 (0, [])).2.getD 0 PV.u).toS, PV.i ((r4.2.getD 0 (0, [])).2.getD 1 PV.u).toI, PV.i ((r4.2.getD 0 (0, [])).2.getD 2 PV.u).toI])]).bind fun r5 =>
  (call k f_q11 [PV.u, PV.i (r4.1.getD 0 PV.u).toI] [(t_q19, [PV.s ((r5.2.getD 0 (0, [])).2.getD 0 PV.u).toS, PV.i ((r5.2.getD 0 (0, [])).2.getD 1 PV.u).toI, PV.i ((r5.2.getD 0 (0, [])).2.getD 2 PV.u).toI])]).bind fun r6 =>
  (call k f_q29 [PV.u, PV.i 1] [(t_q19, [PV.s ((r6.2.getD 0 (0, [])).2.getD 0 PV.u).toS, PV.i ((r6.2.getD 0 (0, [])).2.getD 1 PV.u).toI, PV.i ((r6.2.getD 0 (0, [])).2.getD 2 PV.u).toI])]).bind fun r7 =>
  (bif ((r7.1.getD 0 PV.u).toI == (1 : Int)) then (call k f_q29 [PV.u, PV.i 5] [(t_q19, [PV.s ((r7.2.getD 0 (0, [])).2.getD 0 PV.u).toS, PV.i ((r7.2.getD 0 (0, [])).2.getD 1 PV.u).toI, PV.i ((r7.2.getD 0 (0, [])).2.getD 2 PV.u).toI])]).bind fun r8 =>
  (call k f_q11 [PV.u, PV.i (r8.1.getD 0 PV.u).toI] [(t_q19, [PV.s ((r8.2.getD 0 (0, [])).2.getD 0 PV.u).toS, PV.i ((r8.2.getD 0 (0, [])).2.getD 1 PV.u).toI, PV.i ((r8.2.getD 0 (0, [])).2.getD 2 PV.u).toI])]).bind fun r9 =>
  (call k f_q11 [PV.u, PV.i (r8.1.getD 0 PV.u).toI] [(t_q19, [PV.s ((r9.2.getD 0 (0, [])).2.getD 0 PV.u).toS, PV.i ((r9.2.getD 0 (0, [])).2.getD 1 PV.u).toI, PV.i ((r9.2.getD 0 (0, [])).2.getD 2 PV.u).toI])]).bind fun r10 =>
  (call k f_q29 [PV.u, PV.i 5] [(t_q19, [PV.s ((r10.2.getD 0 (0, [])).2.getD 0 PV.u).toS, PV.i ((r10.2.getD 0 (0, [])).2.getD 1 PV.u).toI, PV.i ((r10.2.getD 0 (0, [])).2.getD 2 PV.u).toI])]).bind fun r11 =>
  (call k f_q11 [PV.u, PV.i (r11.1.getD 0 PV.u).toI] [(t_q19, [PV.s ((r11.2.getD 0 (0, [])).2.getD 0 PV.u).toS, PV.i ((r11.2.getD 0 (0, [])).2.getD 1 PV.u).toI, PV.i ((r11.2.getD 0 (0, [])).2.getD 2 PV.u).toI])]).bind fun r12 =>
  (call k f_q11 [PV.u, PV.i (r11.1.getD 0 PV.u).toI] [(t_q19, [PV.s ((r12.2.getD 0 (0, [])).2.getD 0 PV.u).toS, PV.i ((r12.2.getD 0 (0, [])).2.getD 1 PV.u).toI, PV.i ((r12.2.getD 0 (0, [])).2.getD 2 PV.u).toI])]).bind fun r13 =>
  (call k f_q123 [PV.i (r5.1.getD 0 PV.u).toI, PV.i (r9.1.getD 0 PV.u).toI, PV.i (r10.1.getD 0 PV.u).toI, PV.i (r6.1.getD 0 PV.u).toI, PV.i (r12.1.getD 0 PV.u).toI, PV.i (r13.1.getD 0 PV.u).toI] []).bind fun r14 =>
  (call k f_q91 [PV.u, PV.b (r14.1.getD 0 PV.u).toB] [(t_q19, [PV.s ((r13.2.getD 0 (0, [])).2.getD 0 PV.u).toS, PV.i ((r13.2.getD 0 (0, [])).2.getD 1 PV.u).toI, PV.i ((r13.2.getD 0 (0, [])).2.getD 2 PV.u).toI])]).bind fun r15 =>
  (bif ((r15.1.getD 2 PV.u).toI != (0 : Int)) then some ([PV.i 0, PV.i 0, PV.i 0, PV.i 0, PV.i 0, PV.i 0, PV.s (r15.1.getD 0 PV.u).toS, PV.i (r15.1.getD 1 PV.u).toI, PV.i (r15.1.getD 2 PV.u).toI], [])
  else some ([PV.i (r5.1.getD 0 PV.u).toI, PV.i (r9.1.getD 0 PV.u).toI, PV.i (r10.1.getD 0 PV.u).toI, PV.i (r6.1.getD 0 PV.u).toI, PV.i (r12.1.getD 0 PV.u).toI, PV.i (r13.1.getD 0 PV.u).toI, PV.s (r15.1.getD 0 PV.u).toS, PV.i (r15.1.getD 1 PV.u).toI, PV.i 0], []))
  else (call k f_q29 [PV.u, PV.i 5] [(t_q19, [PV.s ((r7.2.getD 0 (0, [])).2.getD 0 PV.u).toS, PV.i ((r7.2.getD 0 (0, [])).2.getD 1 PV.u).toI, PV.i ((r7.2.getD 0 (0, [])).2.getD 2 PV.u).toI])]).bind fun r16 =>
  (call k f_q11 [PV.u, PV.i (r16.1.getD 0 PV.u).toI] [(t_q19, [PV.s ((r16.2.getD 0 (0, [])).2.getD 0 PV.u).toS, PV.i ((r16.2.getD 0 (0, [])).2.getD 1 PV.u).toI, PV.i ((r16.2.getD 0 (0, [])).2.getD 2 PV.u).toI])]).bind fun r17 =>
  (call k f_q11 [PV.u, PV.i (r16.1.getD 0 PV.u).toI] [(t_q19, [PV.s ((r17.2.getD 0 (0, [])).2.getD 0 PV.u).toS, PV.i ((r17.2.getD 0 (0, [])).2.getD 1 PV.u).toI, PV.i ((r17.2.getD 0 (0, [])).2.getD 2 PV.u).toI])]).bind fun r18 =>
  (call k f_q123 [PV.i (r5.1.getD 0 PV.u).toI, PV.i (r2.1.getD 1 PV.u).toI, PV.i (r2.1.getD 2 PV.u).toI, PV.i (r6.1.getD 0 PV.u).toI, PV.i (r17.1.getD 0 PV.u).toI, PV.i (r18.1.getD 0 PV.u).toI] []).bind fun r19 =>
  (call k f_q91 [PV.u, PV.b (r19.1.getD 0 PV.u).toB] [(t_q19, [PV.s ((r18.2.getD 0 (0, [])).2.getD 0 PV.u).toS, PV.i ((r18.2.getD 0 (0, [])).2.getD 1 PV.u).toI, PV.i ((r18.2.getD 0 (0, [])).2.getD 2 PV.u).toI])]).bind fun r20 =>
  (bif ((r20.1.getD 2 PV.u).toI != (0 : Int)) then some ([PV.i 0, PV.i 0, PV.i 0, PV.i 0, PV.i 0, PV.i 0, PV.s (r20.1.getD 0 PV.u).toS, PV.i (r20.1.getD 1 PV.u).toI, PV.i (r20.1.getD 2 PV.u).toI], [])
  else some ([PV.i (r5.1.getD 0 PV.u).toI, PV.i (r2.1.getD 1 PV.u).toI, PV.i (r2.1.getD 2 PV.u).toI, PV.i (r6.1.getD 0 PV.u).toI, PV.i (r17.1.getD 0 PV.u).toI, PV.i (r18.1.getD 0 PV.u).toI, PV.s (r20.1.getD 0 PV.u).toS, PV.i (r20.1.getD 1 PV.u).toI, PV.i 0], [])))
  else (call k f_q29 [PV.u, PV.i 1] [(t_q19, [PV.s ((r3.2.getD 0 (0, [])).2.getD 0 PV.u).toS, PV.i ((r3.2.getD 0 (0, [])).2.getD 1 PV.u).toI, PV.i ((r3.2.getD 0 (0, [])).2.getD 2 PV.u).toI])]).bind fun r21 =>
  (bif ((r21.1.getD 0 PV.u).toI == (1 : Int)) then (call k f_q29 [PV.u, PV.i 5] [(t_q19, [PV.s ((r21.2.getD 0 (0, [])).2.getD 0 PV.u).toS, PV.i ((r21.2.getD 0 (0, [])).2.getD 1 PV.u).toI, PV.i ((r21.2.getD 0 (0, [])).2.getD 2 PV.u).toI])]).bind fun r22 =>
  (call k f_q11 [PV.u, PV.i (r22.1.getD 0 PV.u).toI] [(t_q19, [PV.s ((r22.2.getD 0 (0, [])).2.getD 0 PV.u).toS, PV.i ((r22.2.getD 0 (0, [])).2.getD 1 PV.u).toI, PV.i ((r22.2.getD 0 (0, [])).2.getD 2 PV.u).toI])]).bind fun r23 =>
  (call k f_q11 [PV.u, PV.i (r22.1.getD 0 PV.u).toI] [(t_q19, [PV.s ((r23.2.getD 0 (0, [])).2.getD 0 PV.u).toS, PV.i ((r23.2.getD 0 (0, [])).2.getD 1 PV.u).toI, PV.i ((r23.2.getD 0 (0, [])).2.getD 2 PV.u).toI])]).bind fun r24 =>
  (call k f_q29 [PV.u, PV.i 5] [(t_q19, [PV.s ((r24.2.getD 0 (0, [])).2.getD 0 PV.u).toS, PV.i ((r24.2.getD 0 (0, [])).2.getD 1 PV.u).toI, PV.i ((r24.2.getD 0 (0, [])).2.getD 2 PV.u).toI])]).bind fun r25 =>
  (call k f_q11 [PV.u, PV.i (r25.1.getD 0 PV.u).toI] [(t_q19, [PV.s ((r25.2.getD 0 (0, [])).2.getD 0 PV.u).toS, PV.i ((r25.2.getD 0 (0, [])).2.getD 1 PV.u).toI, PV.i ((r25.2.getD 0 (0, [])).2.getD 2 PV.u).toI])]).bind fun r26 =>
  (call k f_q11 [PV.u, PV.i (r25.1.getD 0 PV.u).toI] [(t_q19, [PV.s ((r26.2.getD 0 (0, [])).2.getD 0 PV.u).toS, PV.i ((r26.2.getD 0 (0, [])).2.getD 1 PV.u).toI, PV.i ((r26.2.getD 0 (0, [])).2.getD 2 PV.u).toI])]).bind fun r27 =>
  (call k f_q123 [PV.i (r2.1.getD 0 PV.u).toI, PV.i (r23.1.getD 0 PV.u).toI, PV.i (r24.1.getD 0 PV.u).toI, PV.i (r2.1.getD 3 PV.u).toI, PV.i (r26.1.getD 0 PV.u).toI, PV.i (r27.1.getD 0 PV.u).toI] []).bind fun r28 =>
  (call k f_q91 [PV.u, PV.b (r28.1.getD 0 PV.u).toB] [(t_q19, [PV.s ((r27.2.getD 0 (0, [])).2.getD 0 PV.u).toS, PV.i ((r27.2.getD 0 (0, [])).2.getD 1 PV.u).toI, PV.i ((r27.2.getD 0 (0, [])).2.getD 2 PV.u).toI])]).bind fun r29 =>
  (bif ((r29.1.getD 2 PV.u).toI != (0 : Int)) then some ([PV.i 0, PV.i 0, PV.i 0, PV.i 0, PV.i 0, PV.i 0, PV.s (r29.1.getD 0 PV.u).toS, PV.i (r29.1.getD 1 PV.u).toI, PV.i (r29.1.getD 2 PV.u).toI], [])
  else some ([PV.i (r2.1.getD 0 PV.u).toI, PV.i (r23.1.getD 0 PV.u).toI, PV.i (r24.1.getD 0 PV.u).toI, PV.i (r2.1.getD 3 PV.u).toI, PV.i (r26.1.getD 0 PV.u).toI, PV.i (r27.1.getD 0 PV.u).toI, PV.s (r29.1.getD 0 PV.u).toS, PV.i (r29.1.getD 1 PV.u).toI, PV.i 0], []))
  else (call k f_q29 [PV.u, PV.i 5] [(t_q19, [PV.s ((r21.2.getD 0 (0, [])).2.getD 0 PV.u).toS, PV.i ((r21.2.getD 0 (0, [])).2.getD 1 PV.u).toI, PV.i ((r21.2.getD 0 (0, [])).2.getD 2 PV.u).toI])]).bind fun r30 =>
  (call k f_q11 [PV.u, PV.i (r30.1.getD 0 PV.u).toI] [(t_q19, [PV.s ((r30.2.getD 0 (0, [])).2.getD 0 PV.u).toS, PV.i ((r30.2.getD 0 (0, [])).2.getD 1 PV.u).toI, PV.i ((r30.2.getD 0 (0, [])).2.getD 2 PV.u).toI])]).bind fun r31 =>
  (call k f_q11 [PV.u, PV.i (r30.1.getD 0 PV.u).toI] [(t_q19, [PV.s ((r31.2.getD 0 (0, [])).2.getD 0 PV.u).toS, PV.i ((r31.2.getD 0 (0, [])).2.getD 1 PV.u).toI, PV.i ((r31.2.getD 0 (0, [])).2.getD 2 PV.u).toI])]).bind fun r32 =>
  (call k f_q123 [PV.i (r2.1.getD 0 PV.u).toI, PV.i (r2.1.getD 1 PV.u).toI, PV.i (r2.1.getD 2 PV.u).toI, PV.i (r2.1.getD 3 PV.u).toI, PV.i (r31.1.getD 0 PV.u).toI, PV.i (r32.1.getD 0 PV.u).toI] []).bind fun r33 =>
  (call k f_q91 [PV.u, PV.b (r33.1.getD 0 PV.u).toB] [(t_q19, [PV.s ((r32.2.getD 0 (0, [])).2.getD 0 PV.u).toS, PV.i ((r32.2.getD 0 (0, [])).2.getD 1 PV.u).toI, PV.i ((r32.2.getD 0 (0, [])).2.getD 2 PV.u).toI])]).bind fun r34 =>
  (bif ((r34.1.getD 2 PV.u).toI != (0 : Int)) then some ([PV.i 0, PV.i 0, PV.i 0, PV.i 0, PV.i 0, PV.i 0, PV.s (r34.1.getD 0 PV.u).toS, PV.i (r34.1.getD 1 PV.u).toI, PV.i (r34.1.getD 2 PV.u).toI], [])
  else some ([PV.i (r2.1.getD 0 PV.u).toI, PV.i (r2.1.getD 1 PV.u).toI, PV.i (r2.1.getD 2 PV.u).toI, PV.i (r2.1.getD 3 PV.u).toI, PV.i (r31.1.getD 0 PV.u).toI, PV.i (r32.1.getD 0 PV.u).toI, PV.s (r34.1.getD 0 PV.u).toS, PV.i (r34.1.getD 1 PV.u).toI, PV.i 0], [])))) := by kernel_rfl
/- celluloid/celluloidref07.several -/
/- celluloid/celluloidref02.Plain -/
theorem u_q114 (k : Nat) (a2 a3 : Int) (p0_1 : List UInt8) (p0_2 : Int) : call (k + 1) f_q114 [.u, .i a2, .i a3] [(t_q41, [.s p0_1, .i p0_2])] =
  (call k f_q128 [PV.s p0_1, PV.i p0_2, PV.i a2, PV.i a3] []).bind fun r1 =>
  some ([], [(t_q41, [PV.s (r1.1.getD 0 PV.u).toS, PV.i (r1.1.getD 1 PV.u).toI])]) := by kernel_rfl
noncomputable def S_q111 (x1 : Int) (x2 : List (List PV)) (x3 x4 : Int) : St := mkSt [(3, .v (.int .i64 x1)), (6, .v (.sl 3 x2)), (7, .v (.int .i64 x3)), (8, .v (.int .i64 x4))] [] 1000 20
noncomputable def at_q111 : List Item := (atLoop Tryz.f133 0)
theorem u_q146 (k : Nat) (a1 : List (List PV)) : call (k + 1) f_q146 [.l a1] [] =
  run k f_q146 [] at_q111 (S_q111 0 (a1) (((a1.length : Nat) : Int)) 0) := by kernel_rfl
theorem u_q111 (k : Nat) (x1 : Int) (x2 : List (List PV)) (x3 x4 : Int) : run (k + 1) f_q146 [] at_q111 (S_q111 x1 x2 x3 x4) =
  (bif (decide (x4 < x3)) then (bif (inB x4 (List.length x2)) then (call k f_q196 [(PV.i (IntKind.wrap .u64 (bif (decide ((0 : Int) > ((elemAt x2 x4).getD 0 PV.u).toI)) then (0 : Int) else ((elemAt x2 x4).getD 0 PV.u).toI)))] []).bind fun r1 =>
  run k f_q146 [] at_q111 (S_q111 ((bif (decide ((r1.1.getD 0 PV.u).toI > x1)) then (r1.1.getD 0 PV.u).toI else x1)) x2 x3 ((IntKind.wrap .i64 (x4 + (1 : Int)))))
  else none)
  else some ([PV.i x1], [])) := by kernel_rfl
noncomputable def S_q77 (x1 x2 : Int) (x3 : List (List PV)) (x4 : List UInt8) (x5 : Int) (x6 : List UInt8) (x7 : Int) : St := mkSt [(1, .v (.int .i64 x1)), (3, .v (.ptr (.n 1 0 0) 0)), (6, .v (.ptr (.n 1 1 0) 0)), (8, .v (.wr (.w 8))), (9, .v (.int .i64 x2))] [((.w 8), .row 5 x3), ((.n 1 0 0), .cells 46 [.str x4, .int .i64 x5]), ((.n 1 1 0), .cells 46 [.str x6, .int .i64 x7])] 1000 96
noncomputable def at_q77 : List Item := (atLoop Tryz.f137 0)
theorem u_q128 (k : Nat) (a1 : List UInt8) (a2 a3 a4 : Int) : call (k + 1) f_q128 [.s a1, .i a2, .i a3, .i a4] [] =
  ((bif (decide (a4 < (0 : Int))) then some [PV.b true]
   else (bif (decide (a4 > (31 : Int))) then some [PV.b true]
   else (bif (decide (a3 < (0 : Int))) then some [PV.b true]
   else (bif (decide ((0 : Int) ≤ a4)) then some [(PV.b ((shr .i64 a3 a4) != (0 : Int)))]
   else none))))).bind fun r1 =>
  (bif ((r1.getD 0 PV.u)).toB then some ([(PV.s []), PV.i 0, PV.i 1], [])
  else ((bif (decide (a2 < (0 : Int))) then some [PV.b true]
   else (bif (decide (a2 > (7 : Int))) then some [PV.b true]
   else (bif ((((List.length (ofBytes a1)) : Nat) : Int) == (0 : Int)) then some [PV.b true]
   else (bif (inB (IntKind.wrap .i64 ((((List.length (ofBytes a1)) : Nat) : Int) - (1 : Int))) (List.length (ofBytes a1))) then (bif (inB (IntKind.wrap .i64 ((((List.length (ofBytes a1)) : Nat) : Int) - (1 : Int))) (List.length (ofBytes a1))) then (bif (decide ((0 : Int) ≤ a2)) then some [(PV.b ((bitsOp Go.BinOp.and .u8 (((elemAt (ofBytes a1) (IntKind.wrap .i64 ((((List.length (ofBytes a1)) : Nat) : Int) - (1 : Int)))).getD 0 PV.u)).toI (IntKind.wrap .u8 ((shl .u8 (1 : Int) a2) - (1 : Int)))) != (0 : Int)))]
   else none)
   else none)
   else none))))).bind fun r2 =>
  (bif ((r2.getD 0 PV.u)).toB then run k f_q128 [] at_q77 (S_q77 (a3) ((IntKind.wrap .i64 (a4 - (1 : Int)))) ((ofBytes a1)) (a1) 0 ([]) 0)
  else run k f_q128 [] at_q77 (S_q77 (a3) ((IntKind.wrap .i64 (a4 - (1 : Int)))) ((ofBytes a1)) (a1) (a2) ([]) 0))) := by kernel_rfl
theorem u_q77 (k : Nat) (x1 x2 : Int) (x3 : List (List PV)) (x4 : List UInt8) (x5 : Int) (x6 : List UInt8) (x7 : Int) : run (k + 1) f_q128 [] at_q77 (S_q77 x1 x2 x3 x4 x5 x6 x7) =
  (bif (decide (x2 ≥ (0 : Int))) then (bif (x5 == (0 : Int)) then (bif (decide (((((List.length x3) + 1) + 1000) * 2) ≤ 1099511627776)) then (bif (inB (IntKind.wrap .i64 ((((List.length (x3 ++ [[PV.i 0]])) : Nat) : Int) - (1 : Int))) (List.length (x3 ++ [[PV.i 0]]))) then (bif (inB (IntKind.wrap .i64 ((((List.length (x3 ++ [[PV.i 0]])) : Nat) : Int) - (1 : Int))) (List.length (x3 ++ [[PV.i 0]]))) then (bif (decide ((0 : Int) ≤ x2)) then (bif (inB (IntKind.wrap .i64 ((((List.length (x3 ++ [[PV.i 0]])) : Nat) : Int) - (1 : Int))) (List.length (x3 ++ [[PV.i 0]]))) then (bif (inB (IntKind.wrap .i64 ((((List.length (x3 ++ [[PV.i 0]])) : Nat) : Int) - (1 : Int))) (List.length (x3 ++ [[PV.i 0]]))) then run k f_q128 [] at_q77 (S_q77 x1 ((IntKind.wrap .i64 (x2 - (1 : Int)))) ((List.set (x3 ++ [[PV.i 0]]) (Int.toNat (IntKind.wrap .i64 ((((List.length (x3 ++ [[PV.i 0]])) : Nat) : Int) - (1 : Int)))) (putAt (elemAt (x3 ++ [[PV.i 0]]) (IntKind.wrap .i64 ((((List.length (x3 ++ [[PV.i 0]])) : Nat) : Int) - (1 : Int)))) 0 [(PV.i (bitsOp Go.BinOp.or .u8 (((elemAt (x3 ++ [[PV.i 0]]) (IntKind.wrap .i64 ((((List.length (x3 ++ [[PV.i 0]])) : Nat) : Int) - (1 : Int)))).getD 0 PV.u)).toI (shl .u8 (IntKind.wrap .u8 (bitsOp Go.BinOp.and .i64 (shr .i64 x1 x2) (1 : Int))) (7 : Int))))]))) x4 7 x6 x7)
  else none)
  else none)
  else none)
  else none)
  else none)
  else none)
  else (bif (inB (IntKind.wrap .i64 (((x3.length : Nat) : Int) - (1 : Int))) (List.length x3)) then (bif (inB (IntKind.wrap .i64 (((x3.length : Nat) : Int) - (1 : Int))) (List.length x3)) then (bif (decide ((0 : Int) ≤ x2)) then (bif (decide ((0 : Int) ≤ (IntKind.wrap .i64 (x5 - (1 : Int))))) then (bif (inB (IntKind.wrap .i64 (((x3.length : Nat) : Int) - (1 : Int))) (List.length x3)) then (bif (inB (IntKind.wrap .i64 (((x3.length : Nat) : Int) - (1 : Int))) (List.length x3)) then run k f_q128 [] at_q77 (S_q77 x1 ((IntKind.wrap .i64 (x2 - (1 : Int)))) ((List.set x3 (Int.toNat (IntKind.wrap .i64 (((x3.length : Nat) : Int) - (1 : Int)))) (putAt (elemAt x3 (IntKind.wrap .i64 (((x3.length : Nat) : Int) - (1 : Int)))) 0 [(PV.i (bitsOp Go.BinOp.or .u8 (((elemAt x3 (IntKind.wrap .i64 (((x3.length : Nat) : Int) - (1 : Int)))).getD 0 PV.u)).toI (shl .u8 (IntKind.wrap .u8 (bitsOp Go.BinOp.and .i64 (shr .i64 x1 x2) (1 : Int))) (IntKind.wrap .i64 (x5 - (1 : Int))))))]))) x4 ((IntKind.wrap .i64 (x5 - (1 : Int)))) x6 x7)
  else none)
  else none)
  else none)
  else none)
  else none)
  else none))
  else some ([(PV.s (toBytes x3)), PV.i x5, PV.i 0], [])) := by kernel_rfl
noncomputable def S_q39 (x1 x2 : Int) (x3 : List UInt8) (x4 : Int) (x5 : List UInt8) (x6 : Int) : St := mkSt [(1, .v (.int .i64 x1)), (3, .v (.ptr (.n 1 0 0) 0)), (6, .v (.ptr (.n 1 1 0) 0)), (8, .v (.int .i64 x2))] [((.n 1 0 0), .cells 163 [.str x3, .int .i64 x4]), ((.n 1 1 0), .cells 163 [.str x5, .int .i64 x6])] 1000 70
noncomputable def at_q39 : List Item := (atLoop Tryz.f149 0)
theorem u_q53 (k : Nat) (a1 : List UInt8) (a2 a3 a4 : Int) : call (k + 1) f_q53 [.s a1, .i a2, .i a3, .i a4] [] =
  ((bif (decide (a4 < (0 : Int))) then some [PV.b true]
   else (bif (decide (a4 > (31 : Int))) then some [PV.b true]
   else (bif (decide (a3 < (0 : Int))) then some [PV.b true]
   else (call k f_q75 [PV.i a4] []).bind fun r1 =>
   some [(PV.b (decide (a3 ≥ (r1.1.getD 0 PV.u).toI)))])))).bind fun r2 =>
  (bif ((r2.getD 0 PV.u)).toB then some ([(PV.s []), PV.i 0, PV.b false], [])
  else ((bif (decide (a2 < (0 : Int))) then some [PV.b true]
   else (bif (decide (a2 > (7 : Int))) then some [PV.b true]
   else (bif (((a1.length : Nat) : Int) == (0 : Int)) then some [PV.b true]
   else (bif (inB (IntKind.wrap .i64 (((a1.length : Nat) : Int) - (1 : Int))) (List.length a1)) then (call k f_q75 [PV.i a2] []).bind fun r3 =>
   (bif ((r3.1.getD 0 PV.u).toI != (0 : Int)) then some [(PV.b ((Int.tmod (IntKind.wrap .i64 (bt a1 (IntKind.wrap .i64 (((a1.length : Nat) : Int) - (1 : Int))))) (r3.1.getD 0 PV.u).toI) != (0 : Int)))]
   else none)
   else none))))).bind fun r4 =>
  (bif ((r4.getD 0 PV.u)).toB then run k f_q53 [] at_q39 (S_q39 (a3) ((IntKind.wrap .i64 (a4 - (1 : Int)))) (a1) 0 ([]) 0)
  else run k f_q53 [] at_q39 (S_q39 (a3) ((IntKind.wrap .i64 (a4 - (1 : Int)))) (a1) (a2) ([]) 0))) := by kernel_rfl
theorem u_q39 (k : Nat) (x1 x2 : Int) (x3 : List UInt8) (x4 : Int) (x5 : List UInt8) (x6 : Int) : run (k + 1) f_q53 [] at_q39 (S_q39 x1 x2 x3 x4 x5 x6) =
  (bif (decide (x2 ≥ (0 : Int))) then (call k f_q75 [PV.i x2] []).bind fun r5 =>
  (bif ((r5.1.getD 0 PV.u).toI != (0 : Int)) then (call k f_q197 [PV.s x3, PV.i x4, (PV.i (Int.tmod (IntKind.wrap .i64 (Int.tdiv x1 (r5.1.getD 0 PV.u).toI)) (2 : Int)))] []).bind fun r6 =>
  run k f_q53 [] at_q39 (S_q39 x1 ((IntKind.wrap .i64 (x2 - (1 : Int)))) ((r6.1.getD 0 PV.u).toS) ((r6.1.getD 1 PV.u).toI) x5 x6)
  else none)
  else some ([PV.s x3, PV.i x4, PV.b true], [])) := by kernel_rfl
theorem u_q211 (k : Nat) (a1 : List UInt8) (a2 a3 : Int) : call (k + 1) f_q211 [.s a1, .i a2, .i a3] [] =
  (call k f_q170 [PV.s a1, PV.i a2, PV.i a3] []).bind fun r1 =>
  ((bif ((r1.1.getD 3 PV.u).toI == (0 : Int)) then (bif (decide (a3 > (0 : Int))) then (bif (decide ((0 : Int) ≤ (IntKind.wrap .i64 (a3 - (1 : Int))))) then some [(PV.b ((shr .i64 (r1.1.getD 0 PV.u).toI (IntKind.wrap .i64 (a3 - (1 : Int)))) == (1 : Int)))]
   else none)
   else some [PV.b false])
   else some [PV.b false])).bind fun r2 =>
  (bif ((r2.getD 0 PV.u)).toB then (bif (decide ((0 : Int) ≤ a3)) then some ([(PV.i (IntKind.wrap .i64 ((r1.1.getD 0 PV.u).toI - (shl .i64 (1 : Int) a3)))), PV.s (r1.1.getD 1 PV.u).toS, PV.i (r1.1.getD 2 PV.u).toI, PV.i (r1.1.getD 3 PV.u).toI], [])
  else none)
  else some ([PV.i (r1.1.getD 0 PV.u).toI, PV.s (r1.1.getD 1 PV.u).toS, PV.i (r1.1.getD 2 PV.u).toI, PV.i (r1.1.getD 3 PV.u).toI], [])) := by kernel_rfl
theorem u_q196 (k : Nat) (a1 : Int) : call (k + 1) f_q196 [.i a1] [] =
  (call k f_q206 [PV.i a1] []).bind fun r1 =>
  some ([PV.i (r1.1.getD 0 PV.u).toI], []) := by kernel_rfl
theorem u_q206 (k : Nat) (a1 : Int) : call (k + 1) f_q206 [.i a1] [] =
  (bif (decide (a1 ≥ (4294967296 : Int))) then (bif (decide ((shr .u64 a1 (32 : Int)) ≥ (65536 : Int))) then (bif (decide ((shr .u64 (shr .u64 a1 (32 : Int)) (16 : Int)) ≥ (256 : Int))) then (bif (inB (IntKind.wrap .u8 (shr .u64 (shr .u64 (shr .u64 a1 (32 : Int)) (16 : Int)) (8 : Int))) 256) then some ([(PV.i (IntKind.wrap .i64 ((56 : Int) + (IntKind.wrap .i64 (bt [0, 1, 2, 2, 3, 3, 3, 3, 4, 4, 4, 4, 4, 4, 4, 4, 5, 5, 5, 5, 5, 5, 5, 5, 5, 5, 5, 5, 5, 5, 5, 5, 6, 6, 6, 6, 6, 6, 6, 6, 6, 6, 6, 6, 6, 6, 6, 6, 6, 6, 6, 6, 6, 6, 6, 6, 6, 6, 6, 6, 6, 6, 6, 6, 7, 7, 7, 7, 7, 7, 7, 7, 7, 7, 7, 7, 7, 7, 7, 7, 7, 7, 7, 7, 7, 7, 7, 7, 7, 7, 7, 7, 7, 7, 7, 7, 7, 7, 7, 7, 7, 7, 7, 7, 7, 7, 7, 7, 7, 7, 7, 7, 7, 7, 7, 7, 7, 7, 7, 7, 7, 7, 7, 7, 7, 7, 7, 7, 8, 8, 8, 8, 8, 8, 8, 8, 8, 8, 8, 8, 8, 8, 8, 8, 8, 8, 8, 8, 8, 8, 8, 8, 8, 8, 8, 8, 8, 8, 8, 8, 8, 8, 8, 8, 8, 8, 8, 8, 8, 8, 8, 8, 8, 8, 8, 8, 8, 8, 8, 8, 8, 8, 8, 8, 8, 8, 8, 8, 8, 8, 8, 8, 8, 8, 8, 8, 8, 8, 8, 8, 8, 8, 8, 8, 8, 8, 8, 8, 8, 8, 8, 8, 8, 8, 8, 8, 8, 8, 8, 8, 8, 8, 8, 8, 8, 8, 8, 8, 8, 8, 8, 8, 8, 8, 8, 8, 8, 8, 8, 8, 8, 8, 8, 8, 8, 8, 8, 8, 8, 8, 8, 8, 8, 8, 8, 8] (IntKind.wrap .u8 (shr .u64 (shr .u64 (shr .u64 a1 (32 : Int)) (16 : Int)) (8 : Int))))))))], [])
  else none)
  else (bif (inB (IntKind.wrap .u8 (shr .u64 (shr .u64 a1 (32 : Int)) (16 : Int))) 256) then some ([(PV.i (IntKind.wrap .i64 ((48 : Int) + (IntKind.wrap .i64 (bt [0, 1, 2, 2, 3, 3, 3, 3, 4, 4, 4, 4, 4, 4, 4, 4, 5, 5, 5, 5, 5, 5, 5, 5, 5, 5, 5, 5, 5, 5, 5, 5, 6, 6, 6, 6, 6, 6, 6, 6, 6, 6, 6, 6, 6, 6, 6, 6, 6, 6, 6, 6, 6, 6, 6, 6, 6, 6, 6, 6, 6, 6, 6, 6, 7, 7, 7, 7, 7, 7, 7, 7, 7, 7, 7, 7, 7, 7, 7, 7, 7, 7, 7, 7, 7, 7, 7, 7, 7, 7, 7, 7, 7, 7, 7, 7, 7, 7, 7, 7, 7, 7, 7, 7, 7, 7, 7, 7, 7, 7, 7, 7, 7, 7, 7, 7, 7, 7, 7, 7, 7, 7, 7, 7, 7, 7, 7, 7, 8, 8, 8, 8, 8, 8, 8, 8, 8, 8, 8, 8, 8, 8, 8, 8, 8, 8, 8, 8, 8, 8, 8, 8, 8, 8, 8, 8, 8, 8, 8, 8, 8, 8, 8, 8, 8, 8, 8, 8, 8, 8, 8, 8, 8, 8, 8, 8, 8, 8, 8, 8, 8, 8, 8, 8, 8, 8, 8, 8, 8, 8, 8, 8, 8, 8, 8, 8, 8, 8, 8, 8, 8, 8, 8, 8, 8, 8, 8, 8, 8, 8, 8, 8, 8, 8, 8, 8, 8, 8, 8, 8, 8, 8, 8, 8, 8, 8, 8, 8, 8, 8, 8, 8, 8, 8, 8, 8, 8, 8, 8, 8, 8, 8, 8, 8, 8, 8, 8, 8, 8, 8, 8, 8, 8, 8, 8, 8] (IntKind.wrap .u8 (shr .u64 (shr .u64 a1 (32 : Int)) (16 : Int))))))))], [])
  else none))
  else (bif (decide ((shr .u64 a1 (32 : Int)) ≥ (256 : Int))) then (bif (inB (IntKind.wrap .u8 (shr .u64 (shr .u64 a1 (32 : Int)) (8 : Int))) 256) then some ([(PV.i (IntKind.wrap .i64 ((40 : Int) + (IntKind.wrap .i64 (bt [0, 1, 2, 2, 3, 3, 3, 3, 4, 4, 4, 4, 4, 4, 4, 4, 5, 5, 5, 5, 5, 5, 5, 5, 5, 5, 5, 5, 5, 5, 5, 5, 6, 6, 6, 6, 6, 6, 6, 6, 6, 6, 6, 6, 6, 6, 6, 6, 6, 6, 6, 6, 6, 6, 6, 6, 6, 6, 6, 6, 6, 6, 6, 6, 7, 7, 7, 7, 7, 7, 7, 7, 7, 7, 7, 7, 7, 7, 7, 7, 7, 7, 7, 7, 7, 7, 7, 7, 7, 7, 7, 7, 7, 7, 7, 7, 7, 7, 7, 7, 7, 7, 7, 7, 7, 7, 7, 7, 7, 7, 7, 7, 7, 7, 7, 7, 7, 7, 7, 7, 7, 7, 7, 7, 7, 7, 7, 7, 8, 8, 8, 8, 8, 8, 8, 8, 8, 8, 8, 8, 8, 8, 8, 8, 8, 8, 8, 8, 8, 8, 8, 8, 8, 8, 8, 8, 8, 8, 8, 8, 8, 8, 8, 8, 8, 8, 8, 8, 8, 8, 8, 8, 8, 8, 8, 8, 8, 8, 8, 8, 8, 8, 8, 8, 8, 8, 8, 8, 8, 8, 8, 8, 8, 8, 8, 8, 8, 8, 8, 8, 8, 8, 8, 8, 8, 8, 8, 8, 8, 8, 8, 8, 8, 8, 8, 8, 8, 8, 8, 8, 8, 8, 8, 8, 8, 8, 8, 8, 8, 8, 8, 8, 8, 8, 8, 8, 8, 8, 8, 8, 8, 8, 8, 8, 8, 8, 8, 8, 8, 8, 8, 8, 8, 8, 8, 8] (IntKind.wrap .u8 (shr .u64 (shr .u64 a1 (32 : Int)) (8 : Int))))))))], [])
  else none)
  else (bif (inB (IntKind.wrap .u8 (shr .u64 a1 (32 : Int))) 256) then some ([(PV.i (IntKind.wrap .i64 ((32 : Int) + (IntKind.wrap .i64 (bt [0, 1, 2, 2, 3, 3, 3, 3, 4, 4, 4, 4, 4, 4, 4, 4, 5, 5, 5, 5, 5, 5, 5, 5, 5, 5, 5, 5, 5, 5, 5, 5, 6, 6, 6, 6, 6, 6, 6, 6, 6, 6, 6, 6, 6, 6, 6, 6, 6, 6, 6, 6, 6, 6, 6, 6, 6, 6, 6, 6, 6, 6, 6, 6, 7, 7, 7, 7, 7, 7, 7, 7, 7, 7, 7, 7, 7, 7, 7, 7, 7, 7, 7, 7, 7, 7, 7, 7, 7, 7, 7, 7, 7, 7, 7, 7, 7, 7, 7, 7, 7, 7, 7, 7, 7, 7, 7, 7, 7, 7, 7, 7, 7, 7, 7, 7, 7, 7, 7, 7, 7, 7, 7, 7, 7, 7, 7, 7, 8, 8, 8, 8, 8, 8, 8, 8, 8, 8, 8, 8, 8, 8, 8, 8, 8, 8, 8, 8, 8, 8, 8, 8, 8, 8, 8, 8, 8, 8, 8, 8, 8, 8, 8, 8, 8, 8, 8, 8, 8, 8, 8, 8, 8, 8, 8, 8, 8, 8, 8, 8, 8, 8, 8, 8, 8, 8, 8, 8, 8, 8, 8, 8, 8, 8, 8, 8, 8, 8, 8, 8, 8, 8, 8, 8, 8, 8, 8, 8, 8, 8, 8, 8, 8, 8, 8, 8, 8, 8, 8, 8, 8, 8, 8, 8, 8, 8, 8, 8, 8, 8, 8, 8, 8, 8, 8, 8, 8, 8, 8, 8, 8, 8, 8, 8, 8, 8, 8, 8, 8, 8, 8, 8, 8, 8, 8, 8] (IntKind.wrap .u8 (shr .u64 a1 (32 : Int))))))))], [])
  else none)))
  else (bif (decide (a1 ≥ (65536 : Int))) then (bif (decide ((shr .u64 a1 (16 : Int)) ≥ (256 : Int))) then (bif (inB (IntKind.wrap .u8 (shr .u64 (shr .u64 a1 (16 : Int)) (8 : Int))) 256) then some ([(PV.i (IntKind.wrap .i64 ((24 : Int) + (IntKind.wrap .i64 (bt [0, 1, 2, 2, 3, 3, 3, 3, 4, 4, 4, 4, 4, 4, 4, 4, 5, 5, 5, 5, 5, 5, 5, 5, 5, 5, 5, 5, 5, 5, 5, 5, 6, 6, 6, 6, 6, 6, 6, 6, 6, 6, 6, 6, 6, 6, 6, 6, 6, 6, 6, 6, 6, 6, 6, 6, 6, 6, 6, 6, 6, 6, 6, 6, 7, 7, 7, 7, 7, 7, 7, 7, 7, 7, 7, 7, 7, 7, 7, 7, 7, 7, 7, 7, 7, 7, 7, 7, 7, 7, 7, 7, 7, 7, 7, 7, 7, 7, 7, 7, 7, 7, 7, 7, 7, 7, 7, 7, 7, 7, 7, 7, 7, 7, 7, 7, 7, 7, 7, 7, 7, 7, 7, 7, 7, 7, 7, 7, 8, 8, 8, 8, 8, 8, 8, 8, 8, 8, 8, 8, 8, 8, 8, 8, 8, 8, 8, 8, 8, 8, 8, 8, 8, 8, 8, 8, 8, 8, 8, 8, 8, 8, 8, 8, 8, 8, 8, 8, 8, 8, 8, 8, 8, 8, 8, 8, 8, 8, 8, 8, 8, 8, 8, 8, 8, 8, 8, 8, 8, 8, 8, 8, 8, 8, 8, 8, 8, 8, 8, 8, 8, 8, 8, 8, 8, 8, 8, 8, 8, 8, 8, 8, 8, 8, 8, 8, 8, 8, 8, 8, 8, 8, 8, 8, 8, 8, 8, 8, 8, 8, 8, 8, 8, 8, 8, 8, 8, 8, 8, 8, 8, 8, 8, 8, 8, 8, 8, 8, 8, 8, 8, 8, 8, 8, 8, 8] (IntKind.wrap .u8 (shr .u64 (shr .u64 a1 (16 : Int)) (8 : Int))))))))], [])
  else none)
  else (bif (inB (IntKind.wrap .u8 (shr .u64 a1 (16 : Int))) 256) then some ([(PV.i (IntKind.wrap .i64 ((16 : Int) + (IntKind.wrap .i64 (bt [0, 1, 2, 2, 3, 3, 3, 3, 4, 4, 4, 4, 4, 4, 4, 4, 5, 5, 5, 5, 5, 5, 5, 5, 5, 5, 5, 5, 5, 5, 5, 5, 6, 6, 6, 6, 6, 6, 6, 6, 6, 6, 6, 6, 6, 6, 6, 6, 6, 6, 6, 6, 6, 6, 6, 6, 6, 6, 6, 6, 6, 6, 6, 6, 7, 7, 7, 7, 7, 7, 7, 7, 7, 7, 7, 7, 7, 7, 7, 7, 7, 7, 7, 7, 7, 7, 7, 7, 7, 7, 7, 7, 7, 7, 7, 7, 7, 7, 7, 7, 7, 7, 7, 7, 7, 7, 7, 7, 7, 7, 7, 7, 7, 7, 7, 7, 7, 7, 7, 7, 7, 7, 7, 7, 7, 7, 7, 7, 8, 8, 8, 8, 8, 8, 8, 8, 8, 8, 8, 8, 8, 8, 8, 8, 8, 8, 8, 8, 8, 8, 8, 8, 8, 8, 8, 8, 8, 8, 8, 8, 8, 8, 8, 8, 8, 8, 8, 8, 8, 8, 8, 8, 8, 8, 8, 8, 8, 8, 8, 8, 8, 8, 8, 8, 8, 8, 8, 8, 8, 8, 8, 8, 8, 8, 8, 8, 8, 8, 8, 8, 8, 8, 8, 8, 8, 8, 8, 8, 8, 8, 8, 8, 8, 8, 8, 8, 8, 8, 8, 8, 8, 8, 8, 8, 8, 8, 8, 8, 8, 8, 8, 8, 8, 8, 8, 8, 8, 8, 8, 8, 8, 8, 8, 8, 8, 8, 8, 8, 8, 8, 8, 8, 8, 8, 8, 8] (IntKind.wrap .u8 (shr .u64 a1 (16 : Int))))))))], [])
  else none))
  else (bif (decide (a1 ≥ (256 : Int))) then (bif (inB (IntKind.wrap .u8 (shr .u64 a1 (8 : Int))) 256) then some ([(PV.i (IntKind.wrap .i64 ((8 : Int) + (IntKind.wrap .i64 (bt [0, 1, 2, 2, 3, 3, 3, 3, 4, 4, 4, 4, 4, 4, 4, 4, 5, 5, 5, 5, 5, 5, 5, 5, 5, 5, 5, 5, 5, 5, 5, 5, 6, 6, 6, 6, 6, 6, 6, 6, 6, 6, 6, 6, 6, 6, 6, 6, 6, 6, 6, 6, 6, 6, 6, 6, 6, 6, 6, 6, 6, 6, 6, 6, 7, 7, 7, 7, 7, 7, 7, 7, 7, 7, 7, 7, 7, 7, 7, 7, 7, 7, 7, 7, 7, 7, 7, 7, 7, 7, 7, 7, 7, 7, 7, 7, 7, 7, 7, 7, 7, 7, 7, 7, 7, 7, 7, 7, 7, 7, 7, 7, 7, 7, 7, 7, 7, 7, 7, 7, 7, 7, 7, 7, 7, 7, 7, 7, 8, 8, 8, 8, 8, 8, 8, 8, 8, 8, 8, 8, 8, 8, 8, 8, 8, 8, 8, 8, 8, 8, 8, 8, 8, 8, 8, 8, 8, 8, 8, 8, 8, 8, 8, 8, 8, 8, 8, 8, 8, 8, 8, 8, 8, 8, 8, 8, 8, 8, 8, 8, 8, 8, 8, 8, 8, 8, 8, 8, 8, 8, 8, 8, 8, 8, 8, 8, 8, 8, 8, 8, 8, 8, 8, 8, 8, 8, 8, 8, 8, 8, 8, 8, 8, 8, 8, 8, 8, 8, 8, 8, 8, 8, 8, 8, 8, 8, 8, 8, 8, 8, 8, 8, 8, 8, 8, 8, 8, 8, 8, 8, 8, 8, 8, 8, 8, 8, 8, 8, 8, 8, 8, 8, 8, 8, 8, 8] (IntKind.wrap .u8 (shr .u64 a1 (8 : Int))))))))], [])
  else none)
  else (bif (inB (IntKind.wrap .u8 a1) 256) then some ([(PV.i (IntKind.wrap .i64 ((0 : Int) + (IntKind.wrap .i64 (bt [0, 1, 2, 2, 3, 3, 3, 3, 4, 4, 4, 4, 4, 4, 4, 4, 5, 5, 5, 5, 5, 5, 5, 5, 5, 5, 5, 5, 5, 5, 5, 5, 6, 6, 6, 6, 6, 6, 6, 6, 6, 6, 6, 6, 6, 6, 6, 6, 6, 6, 6, 6, 6, 6, 6, 6, 6, 6, 6, 6, 6, 6, 6, 6, 7, 7, 7, 7, 7, 7, 7, 7, 7, 7, 7, 7, 7, 7, 7, 7, 7, 7, 7, 7, 7, 7, 7, 7, 7, 7, 7, 7, 7, 7, 7, 7, 7, 7, 7, 7, 7, 7, 7, 7, 7, 7, 7, 7, 7, 7, 7, 7, 7, 7, 7, 7, 7, 7, 7, 7, 7, 7, 7, 7, 7, 7, 7, 7, 8, 8, 8, 8, 8, 8, 8, 8, 8, 8, 8, 8, 8, 8, 8, 8, 8, 8, 8, 8, 8, 8, 8, 8, 8, 8, 8, 8, 8, 8, 8, 8, 8, 8, 8, 8, 8, 8, 8, 8, 8, 8, 8, 8, 8, 8, 8, 8, 8, 8, 8, 8, 8, 8, 8, 8, 8, 8, 8, 8, 8, 8, 8, 8, 8, 8, 8, 8, 8, 8, 8, 8, 8, 8, 8, 8, 8, 8, 8, 8, 8, 8, 8, 8, 8, 8, 8, 8, 8, 8, 8, 8, 8, 8, 8, 8, 8, 8, 8, 8, 8, 8, 8, 8, 8, 8, 8, 8, 8, 8, 8, 8, 8, 8, 8, 8, 8, 8, 8, 8, 8, 8, 8, 8, 8, 8, 8, 8] (IntKind.wrap .u8 a1))))))], [])
  else none)))) := by kernel_rfl
theorem u_q194 (k : Nat) (a1 : List UInt8) (a2 a3 : Int) (a4 a5 a6 : Int) : call (k + 1) f_q194 [.s a1, .i a2, .i a3, .i a4, .i a5, .i a6] [] =
  (call k f_q179 [PV.i a3, PV.i a4, PV.i a5, PV.i a6] []).bind fun r1 =>
  (bif (!(r1.1.getD 0 PV.u).toB) then some ([(PV.s []), PV.i 0, PV.i 1], [])
  else (call k f_q181 [PV.s a1, PV.i a2] []).bind fun r2 =>
  (call k f_q22 [PV.u, PV.i 5, (PV.l (List.set (List.set (List.set (List.set [[PV.i 0], [PV.i 0], [PV.i 0], [PV.i 0]] 0 [PV.i a3]) 1 [PV.i a4]) 2 [PV.i a5]) 3 [PV.i a6]))] [(t_q41, [PV.s (r2.1.getD 0 PV.u).toS, PV.i (r2.1.getD 1 PV.u).toI])]).bind fun r3 =>
  (call k f_q90 [PV.u] [(t_q41, [PV.s ((r3.2.getD 0 (0, [])).2.getD 0 PV.u).toS, PV.i ((r3.2.getD 0 (0, [])).2.getD 1 PV.u).toI])]).bind fun r4 =>
  some ([PV.s (r4.1.getD 0 PV.u).toS, PV.i (r4.1.getD 1 PV.u).toI, PV.i 0], [])) := by kernel_rfl
theorem u_q200 (k : Nat) (a1 : List UInt8) (a2 : Int) : call (k + 1) f_q200 [.s a1, .i a2] [] =
  (call k f_q212 [PV.s a1, PV.i a2, PV.i 4] []).bind fun r1 =>
  (bif ((r1.1.getD 3 PV.u).toI != (0 : Int)) then some ([PV.i 0, PV.i 0, PV.i 0, PV.i 0, (PV.s []), PV.i 0, PV.i (r1.1.getD 3 PV.u).toI], [])
  else (bif (inB (0 : Int) (List.length (r1.1.getD 0 PV.u).toS)) then (bif (inB (1 : Int) (List.length (r1.1.getD 0 PV.u).toS)) then (bif (inB (2 : Int) (List.length (r1.1.getD 0 PV.u).toS)) then (bif (inB (3 : Int) (List.length (r1.1.getD 0 PV.u).toS)) then some ([(PV.i (IntKind.wrap .i64 (bt (r1.1.getD 0 PV.u).toS (0 : Int)))), (PV.i (IntKind.wrap .i64 (bt (r1.1.getD 0 PV.u).toS (1 : Int)))), (PV.i (IntKind.wrap .i64 (bt (r1.1.getD 0 PV.u).toS (2 : Int)))), (PV.i (IntKind.wrap .i64 (bt (r1.1.getD 0 PV.u).toS (3 : Int)))), PV.s (r1.1.getD 1 PV.u).toS, PV.i (r1.1.getD 2 PV.u).toI, PV.i 0], [])
  else none)
  else none)
  else none)
  else none)) := by kernel_rfl
noncomputable def S_q37 (x1 : Int) (x2 : List (List PV)) (x3 x4 : Int) (x5 : List UInt8) (x6 : Int) : St := mkSt [(0, .v (.ptr (.p 0) 0)), (6, .v (.int .i64 x1)), (15, .v (.sl 3 x2)), (16, .v (.int .i64 x3)), (17, .v (.int .i64 x4))] [((.p 0), .cells 146 [.str x5, .int .i64 x6])] 1000 35
noncomputable def at_q37 : List Item := (atLoop Tryz.f78 0)
theorem u_q22 (k : Nat) (a2 : Int) (a3 : List (List PV)) (p0_1 : List UInt8) (p0_2 : Int) : call (k + 1) f_q22 [.u, .i a2, .l a3] [(t_q41, [.s p0_1, .i p0_2])] =
  (call k f_q133 [PV.l a3] []).bind fun r1 =>
  (call k f_q114 [PV.u, PV.i (r1.1.getD 0 PV.u).toI, PV.i a2] [(t_q41, [PV.s p0_1, PV.i p0_2])]).bind fun r2 =>
  run k f_q22 [t_q41] at_q37 (S_q37 ((r1.1.getD 0 PV.u).toI) (a3) (((a3.length : Nat) : Int)) 0 (((r2.2.getD 0 (0, [])).2.getD 0 PV.u).toS) (((r2.2.getD 0 (0, [])).2.getD 1 PV.u).toI)) := by kernel_rfl
theorem u_q37 (k : Nat) (x1 : Int) (x2 : List (List PV)) (x3 x4 : Int) (x5 : List UInt8) (x6 : Int) : run (k + 1) f_q22 [t_q41] at_q37 (S_q37 x1 x2 x3 x4 x5 x6) =
  (bif (decide (x4 < x3)) then (bif (inB x4 (List.length x2)) then (call k f_q201 [PV.s x5, PV.i x6, PV.i ((elemAt x2 x4).getD 0 PV.u).toI, PV.i x1] []).bind fun r3 =>
  run k f_q22 [t_q41] at_q37 (S_q37 x1 x2 x3 ((IntKind.wrap .i64 (x4 + (1 : Int)))) ((r3.1.getD 0 PV.u).toS) ((r3.1.getD 1 PV.u).toI))
  else none)
  else some ([], [(t_q41, [PV.s x5, PV.i x6])])) := by kernel_rfl
theorem u_q79 (k : Nat) (a1 : List UInt8) (a2 : Int) (a3 : Bool) : call (k + 1) f_q79 [.s a1, .i a2, .b a3] [] =
  (bif a3 then (call k f_q53 [PV.s a1, PV.i a2, PV.i 1, PV.i 1] []).bind fun r1 =>
  some ([PV.s (r1.1.getD 0 PV.u).toS, PV.i (r1.1.getD 1 PV.u).toI], [])
  else (call k f_q53 [PV.s a1, PV.i a2, PV.i 0, PV.i 1] []).bind fun r2 =>
  some ([PV.s (r2.1.getD 0 PV.u).toS, PV.i (r2.1.getD 1 PV.u).toI], [])) := by kernel_rfl
theorem u_q29 (k : Nat) (a2 : Int) (p0_1 : List UInt8) (p0_2 p0_3 : Int) : call (k + 1) f_q29 [.u, .i a2] [(t_q19, [.s p0_1, .i p0_2, .i p0_3])] =
  (bif (p0_3 != (0 : Int)) then some ([PV.i 0], [(t_q19, [PV.s p0_1, PV.i p0_2, PV.i p0_3])])
  else (call k f_q170 [PV.s p0_1, PV.i p0_2, PV.i a2] []).bind fun r1 =>
  some ([PV.i (r1.1.getD 0 PV.u).toI], [(t_q19, [PV.s (r1.1.getD 1 PV.u).toS, PV.i (r1.1.getD 2 PV.u).toI, PV.i (r1.1.getD 3 PV.u).toI])])) := by kernel_rfl
noncomputable def S_q148 (x1 x2 x3 : Int) (x4 : List UInt8) (x5 : Int) (x6 : List UInt8) (x7 : Int) : St := mkSt [(1, .v (.int .i64 x1)), (2, .v (.ptr (.n 1 0 0) 0)), (5, .v (.ptr (.n 1 2 0) 0)), (7, .v (.int .i64 x2)), (8, .v (.int .i64 x3))] [((.n 1 0 0), .cells 23 [.str x4, .int .i64 x5]), ((.n 1 2 0), .cells 23 [.str x6, .int .i64 x7])] 1000 64
noncomputable def at_q148 : List Item := (atLoop Tryz.f114 1)
theorem u_q170 (k : Nat) (a1 : List UInt8) (a2 a3 : Int) : call (k + 1) f_q170 [.s a1, .i a2, .i a3] [] =
  ((call k f_q208 [PV.s a1, PV.i a2] []).bind fun r1 =>
   (bif (!(r1.1.getD 0 PV.u).toB) then some [PV.b true]
   else (bif (decide (a3 < (0 : Int))) then some [PV.b true]
   else some [(PV.b (decide (a3 > (31 : Int))))]))).bind fun r2 =>
  (bif ((r2.getD 0 PV.u)).toB then some ([PV.i 0, (PV.s []), PV.i 0, PV.i 1], [])
  else (bif (decide ((IntKind.wrap .i64 (a2 + a3)) > (IntKind.wrap .i64 ((8 : Int) * ((a1.length : Nat) : Int))))) then some ([PV.i 0, (PV.s []), PV.i 0, PV.i 2], [])
  else run k f_q170 [] at_q148 (S_q148 (a3) 0 (a2) (a1) (a2) ([]) 0))) := by kernel_rfl
theorem u_q148 (k : Nat) (x1 x2 x3 : Int) (x4 : List UInt8) (x5 : Int) (x6 : List UInt8) (x7 : Int) : run (k + 1) f_q170 [] at_q148 (S_q148 x1 x2 x3 x4 x5 x6 x7) =
  (bif (decide (x3 < (IntKind.wrap .i64 (x5 + x1)))) then (bif (inB (IntKind.wrap .i64 (Int.tdiv x3 (8 : Int))) (List.length x4)) then (bif (decide ((0 : Int) ≤ (IntKind.wrap .i64 ((7 : Int) - (Int.tmod x3 (8 : Int)))))) then run k f_q170 [] at_q148 (S_q148 x1 ((bitsOp Go.BinOp.or .i64 (shl .i64 x2 (1 : Int)) (IntKind.wrap .i64 (bitsOp Go.BinOp.and .u8 (shr .u8 (bt x4 (IntKind.wrap .i64 (Int.tdiv x3 (8 : Int)))) (IntKind.wrap .i64 ((7 : Int) - (Int.tmod x3 (8 : Int))))) (1 : Int))))) ((IntKind.wrap .i64 (x3 + (1 : Int)))) x4 x5 x6 x7)
  else none)
  else none)
  else some ([PV.i x2, PV.s x4, (PV.i (IntKind.wrap .i64 (x5 + x1))), PV.i 0], [])) := by kernel_rfl
/- celluloid/celluloidref07.Done -/
/- celluloid/celluloidref07.Signed -/
theorem u_q201 (k : Nat) (a1 : List UInt8) (a2 a3 a4 : Int) : call (k + 1) f_q201 [.s a1, .i a2, .i a3, .i a4] [] =
  ((bif (decide (a4 < (0 : Int))) then some [PV.b true]
   else (bif (decide (a4 > (31 : Int))) then some [PV.b true]
   else (call k f_q133 [(PV.l (List.set [[PV.i 0]] 0 [PV.i a3]))] []).bind fun r1 =>
   some [(PV.b (decide ((r1.1.getD 0 PV.u).toI > a4)))]))).bind fun r2 =>
  (bif ((r2.getD 0 PV.u)).toB then some ([(PV.s []), PV.i 0, PV.i 1], [])
  else (bif (decide (a3 < (0 : Int))) then (bif (decide ((0 : Int) ≤ a4)) then (call k f_q128 [PV.s a1, PV.i a2, (PV.i (IntKind.wrap .i64 (a3 + (shl .i64 (1 : Int) a4)))), PV.i a4] []).bind fun r3 =>
  some ([PV.s (r3.1.getD 0 PV.u).toS, PV.i (r3.1.getD 1 PV.u).toI, PV.i (r3.1.getD 2 PV.u).toI], [])
  else none)
  else (call k f_q128 [PV.s a1, PV.i a2, PV.i a3, PV.i a4] []).bind fun r4 =>
  some ([PV.s (r4.1.getD 0 PV.u).toS, PV.i (r4.1.getD 1 PV.u).toI, PV.i (r4.1.getD 2 PV.u).toI], []))) := by kernel_rfl
noncomputable def S_q92 (x1 : List (List PV)) (x2 x3 : Int) : St := mkSt [(13, .v (.sl 3 x1)), (14, .v (.int .i64 x2)), (15, .v (.int .i64 x3)), (22, .any), (23, .any)] [] 1000 26
noncomputable def at_q92 : List Item := (atLoop Tryz.f138 0)
theorem u_q101 (k : Nat) (a1 a2 : Int) (a3 a4 : Int) : call (k + 1) f_q101 [.i a1, .i a2, .i a3, .i a4] [] =
  run k f_q101 [] at_q92 (S_q92 ((List.set (List.set (List.set (List.set [[PV.i 0], [PV.i 0], [PV.i 0], [PV.i 0]] 0 [PV.i a1]) 1 [PV.i a2]) 2 [PV.i a3]) 3 [PV.i a4])) ((((List.length (List.set (List.set (List.set (List.set [[PV.i 0], [PV.i 0], [PV.i 0], [PV.i 0]] 0 [PV.i a1]) 1 [PV.i a2]) 2 [PV.i a3]) 3 [PV.i a4])) : Nat) : Int)) 0) := by kernel_rfl
theorem u_q92 (k : Nat) (x1 : List (List PV)) (x2 x3 : Int) : run (k + 1) f_q101 [] at_q92 (S_q92 x1 x2 x3) =
  (bif (decide (x3 < x2)) then (bif (inB x3 (List.length x1)) then ((bif (decide (((elemAt x1 x3).getD 0 PV.u).toI < (0 : Int))) then some [PV.b true]
   else some [(PV.b (decide (((elemAt x1 x3).getD 0 PV.u).toI > (255 : Int))))])).bind fun r1 =>
  (bif ((r1.getD 0 PV.u)).toB then some ([PV.b false], [])
  else run k f_q101 [] at_q92 (S_q92 x1 x2 ((IntKind.wrap .i64 (x3 + (1 : Int))))))
  else none)
  else some ([PV.b true], [])) := by kernel_rfl
noncomputable def S_q66 (x1 : List (List PV)) (x2 x3 : Int) : St := mkSt [(0, .v (.sl 3 x1)), (3, .v (.int .i64 x2)), (4, .v (.int .i64 x3))] [] 1000 24
noncomputable def at_q66 : List Item := (atLoop Tryz.f150 0)
theorem u_q126 (k : Nat) (a1 : List (List PV)) : call (k + 1) f_q126 [.l a1] [] =
  run k f_q126 [] at_q66 (S_q66 (a1) 0 0) := by kernel_rfl
theorem u_q66 (k : Nat) (x1 : List (List PV)) (x2 x3 : Int) : run (k + 1) f_q126 [] at_q66 (S_q66 x1 x2 x3) =
  (bif (decide (x3 < ((x1.length : Nat) : Int))) then (bif (inB x3 (List.length x1)) then (call k f_q97 [PV.i ((elemAt x1 x3).getD 0 PV.u).toI] []).bind fun r1 =>
  (bif (decide ((r1.1.getD 0 PV.u).toI > x2)) then (bif (inB x3 (List.length x1)) then (call k f_q97 [PV.i ((elemAt x1 x3).getD 0 PV.u).toI] []).bind fun r2 =>
  run k f_q126 [] at_q66 (S_q66 x1 ((r2.1.getD 0 PV.u).toI) ((IntKind.wrap .i64 (x3 + (1 : Int)))))
  else none)
  else run k f_q126 [] at_q66 (S_q66 x1 x2 ((IntKind.wrap .i64 (x3 + (1 : Int))))))
  else none)
  else some ([PV.i x2], [])) := by kernel_rfl
theorem u_q215 (k : Nat)  : call (k + 1) f_q215 [] [] =
  some ([PV.i 65536, PV.i 0, PV.i 0, PV.i 65536, PV.i 0, PV.i 0], []) := by kernel_rfl
end Go.AI
