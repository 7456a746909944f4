/- Equations of the program's functions: each says what the interpreter answers for a call, by the answers one level below. -/
import Derived.Test.YtkclfiliefadlaaGreatAiM
import Derived.Test.YtkclfiliefadlaaGreatProg
import Derived.KernelRfl
set_option linter.unusedVariables false
set_option maxRecDepth 100000
namespace Go.AI
open Go Go.Proofs
def lookA : List (Nat × Nat × Keep) → Nat → Nat → Option Keep
  | [], _, _ => none
  | (f, k, kp) :: l, f', k' => bif Nat.beq f f' && Nat.beq k k' then some kp else lookA l f' k'
def loopTab : List (Nat × Nat × Keep) := [(7, 0, { slots := [(1, .any), (2, .any), (3, .any), (4, .any), (5, .any), (6, .any), (7, .any), (8, .any), (60, .any), (61, .any), (62, .any), (94, .any), (95, .any), (102, .any), (103, .any), (104, .any), (177, .any), (178, .any), (179, .any), (180, .any), (181, .any), (182, .any)], boxes := [(.n 1 0 0), (.n 1 1 0), (.n 1 2 0), (.n 2 1 0)], r := 1000, own := [((.n 1 1 0), 9), ((.n 1 1 0), 10), ((.n 1 1 0), 11), ((.n 1 1 0), 12), ((.n 1 1 0), 13), ((.n 1 1 0), 14), ((.n 2 1 0), 9), ((.n 2 1 0), 10), ((.n 2 1 0), 11), ((.n 2 1 0), 12), ((.n 2 1 0), 13), ((.n 2 1 0), 14)] }),
  (7, 2, { slots := [(1, .any), (2, .any), (3, .any), (4, .any), (5, .any), (6, .any), (7, .any), (12, .any), (102, .any), (103, .any), (104, .any), (177, .any), (178, .any), (179, .any), (180, .any), (181, .any), (182, .any)], boxes := [(.n 1 0 0), (.n 1 1 0), (.n 1 2 0), (.n 2 1 0)], r := 2000, own := [((.n 1 1 0), 9), ((.n 1 1 0), 10), ((.n 1 1 0), 11), ((.n 1 1 0), 12), ((.n 1 1 0), 13), ((.n 1 1 0), 14), ((.n 2 1 0), 9), ((.n 2 1 0), 10), ((.n 2 1 0), 11), ((.n 2 1 0), 12), ((.n 2 1 0), 13), ((.n 2 1 0), 14)] }),
  (11, 0, { slots := [(2, .any), (3, .any), (4, .any), (6, .any), (42, .pl 70), (43, .any), (44, .any)], boxes := [(.n 1 0 0), (.n 1 1 0), (.n 1 2 0), (.n 6 5 0)], r := 1000, own := [] }),
  (11, 2, { slots := [(2, .any), (3, .any), (4, .any), (6, .any), (64, .pl 74), (65, .any), (66, .any)], boxes := [(.n 1 0 0), (.n 1 1 0), (.n 1 2 0), (.n 6 5 0)], r := 2000, own := [] }),
  (15, 0, { slots := [(1, .any), (2, .any), (4, .any), (6, .any), (42, .pl 70), (43, .any), (44, .any)], boxes := [(.n 1 0 0), (.n 1 1 0), (.n 3 9 0)], r := 1000, own := [((.n 1 1 0), 5), ((.n 1 1 0), 6), ((.n 1 1 0), 7), ((.n 3 9 0), 5), ((.n 3 9 0), 6), ((.n 3 9 0), 7)] }),
  (15, 2, { slots := [(1, .any), (2, .any), (4, .any), (6, .any), (9, .any), (10, .any), (42, .pl 70), (43, .any), (44, .any), (74, .pl 107), (75, .any), (76, .any)], boxes := [(.n 1 0 0), (.n 1 1 0), (.n 3 9 0), (.n 1002 5 0), (.n 1003 19 0)], r := 2000, own := [((.n 1 1 0), 5), ((.n 1 1 0), 6), ((.n 1 1 0), 7), ((.n 3 9 0), 5), ((.n 3 9 0), 6), ((.n 3 9 0), 7), ((.n 1003 19 0), 12)] }),
  (15, 4, { slots := [(1, .any), (2, .any), (4, .any), (6, .any), (116, .pl 74), (117, .any), (118, .any)], boxes := [(.n 1 0 0), (.n 1 1 0), (.n 3 9 0)], r := 3000, own := [((.n 1 1 0), 5), ((.n 1 1 0), 6), ((.n 1 1 0), 7), ((.n 3 9 0), 5), ((.n 3 9 0), 6), ((.n 3 9 0), 7)] }),
  (15, 6, { slots := [(1, .any), (2, .any), (4, .any), (6, .any), (15, .any), (151, .pl 52), (152, .any), (153, .any)], boxes := [(.n 1 0 0), (.n 1 1 0), (.n 3 9 0)], r := 4000, own := [((.n 1 1 0), 5), ((.n 1 1 0), 6), ((.n 1 1 0), 7), ((.n 3 9 0), 5), ((.n 3 9 0), 6), ((.n 3 9 0), 7)] }),
  (31, 0, { slots := [(0, .pl 70), (1, .pl 74), (5, .any), (23, .any), (24, .any), (25, .any)], boxes := [], r := 1000, own := [] }),
  (47, 0, { slots := [(0, .any), (1, .any), (3, .any), (27, .pl 52), (28, .any), (29, .any), (39, .any), (40, .any), (41, .any), (42, .any), (43, .any), (44, .any), (45, .any), (48, .any), (49, .any), (50, .any), (51, .any), (52, .any), (53, .any), (54, .any)], boxes := [], r := 1000, own := [] }),
  (59, 0, { slots := [(5, .any), (7, .any), (8, .any), (9, .any), (10, .any), (11, .any)], boxes := [(.n 1 2 0), (.n 3 7 0)], r := 1000, own := [] }),
  (63, 0, { slots := [(3, .any), (9, .any), (14, .any)], boxes := [(.n 1 2 0), (.n 4 6 0)], r := 1000, own := [((.n 4 6 0), 7)] }),
  (71, 0, { slots := [(1, .any), (2, .any), (3, .any), (7, .any), (8, .row 3), (9, .any)], boxes := [(.n 1 0 0), (.n 1 2 0)], r := 1000, own := [] }),
  (75, 0, { slots := [(1, .any), (2, .any), (6, .any), (7, .any), (8, .any), (9, .any)], boxes := [(.n 1 0 0), (.n 1 1 0)], r := 1000, own := [] }),
  (99, 0, { slots := [(2, .pl 3), (3, .any), (6, .any), (7, .any), (8, .any)], boxes := [(.n 1 0 0), (.n 1 1 0)], r := 1000, own := [] }),
  (103, 0, { slots := [(1, .pl 3), (2, .any), (3, .any), (6, .any), (7, .any)], boxes := [(.n 1 0 0), (.n 1 1 0)], r := 1000, own := [] }),
  (127, 1, { slots := [(1, .any), (2, .any), (3, .any), (4, .any), (6, .any), (7, .any), (88, .any), (89, .any), (90, .any), (105, .any), (106, .any), (109, .any), (110, .any), (111, .any), (112, .any), (113, .any), (114, .any), (115, .any), (116, .any), (117, .any), (118, .any)], boxes := [(.n 1 0 0), (.n 1 1 0), (.n 1 2 0), (.n 2 1 0)], r := 1000, own := [((.n 1 1 0), 12), ((.n 2 1 0), 12)] }),
  (135, 0, { slots := [(0, .any), (3, .any), (4, .any), (16, .pl 3), (17, .any), (18, .any)], boxes := [(.p 0), (.n 1 0 0)], r := 1000, own := [] }),
  (135, 2, { slots := [(0, .any), (39, .pl 3), (40, .any), (41, .any)], boxes := [(.p 0)], r := 2000, own := [] }),
  (167, 0, { slots := [(5, .any), (6, .any)], boxes := [], r := 1000, own := [] }),
  (171, 1, { slots := [(2, .any), (4, .any), (28, .pl 107), (29, .any), (30, .any)], boxes := [(.n 1 0 0), (.n 1 2 0)], r := 1000, own := [] }),
  (179, 0, { slots := [(4, .any), (6, .any), (7, .row 70), (8, .row 74), (14, .any), (15, .any)], boxes := [(.n 1 3 0), (.n 2 2 0)], r := 1000, own := [] }),
  (179, 2, { slots := [(4, .any), (6, .any), (7, .row 70), (8, .row 74), (24, .any), (25, .any)], boxes := [(.n 1 3 0), (.n 2 2 0)], r := 2000, own := [] }),
  (183, 1, { slots := [(0, .any), (2, .any), (3, .any), (5, .any), (69, .any), (70, .any), (81, .any), (82, .any), (83, .any), (84, .any)], boxes := [(.p 0), (.n 1 0 0), (.n 2 3 0)], r := 1000, own := [((.n 1 0 0), 12), ((.n 2 3 0), 12)] }),
  (12, 0, { slots := [(1, .any), (3, .any), (68, .any), (69, .any), (70, .any), (71, .any), (72, .any), (75, .any), (76, .any), (77, .any), (78, .any), (79, .any), (82, .any), (83, .any), (84, .any), (85, .any), (86, .any), (87, .any), (88, .any), (96, .any), (97, .any), (98, .any), (99, .any), (100, .any), (104, .any), (105, .any), (106, .any), (107, .any), (108, .any), (109, .any), (110, .any), (111, .any), (112, .any), (115, .any), (116, .any), (117, .any)], boxes := [(.n 1 0 0)], r := 1000, own := [] }),
  (20, 1, { slots := [(0, .any), (2, .any), (3, .any), (4, .any), (5, .any), (7, .any), (8, .any), (89, .any), (90, .any), (106, .any), (107, .any), (108, .any), (109, .any), (110, .any), (111, .any), (112, .any), (113, .any), (114, .any), (115, .any)], boxes := [(.p 0), (.n 1 0 0), (.n 1 1 0), (.n 2 3 0), (.n 3 3 0)], r := 1000, own := [((.n 1 0 0), 12), ((.n 1 1 0), 12), ((.n 2 3 0), 12), ((.n 3 3 0), 12)] }),
  (28, 0, { slots := [(1, .any), (2, .any), (3, .any), (4, .any), (9, .any), (10, .row 52), (11, .any), (12, .any), (79, .any), (80, .any), (81, .any), (88, .any), (89, .any), (92, .any), (93, .any), (94, .any), (95, .any), (96, .any), (97, .any), (98, .any), (99, .any), (100, .any), (101, .any), (102, .any), (103, .any), (104, .any), (105, .any), (106, .any), (107, .any), (206, .any), (207, .any), (208, .any), (209, .any), (210, .any), (211, .any), (212, .any), (213, .any), (214, .any), (215, .any), (216, .any), (217, .any), (218, .any), (219, .any), (220, .any), (221, .any), (222, .any), (223, .any), (224, .any), (225, .any), (226, .any)], boxes := [(.n 1 0 0), (.n 1 2 0)], r := 1000, own := [] }),
  (32, 0, { slots := [(0, .pl 52), (1, .any), (5, .any), (11, .any), (12, .any), (13, .any)], boxes := [], r := 1000, own := [] }),
  (36, 0, { slots := [(3, .any), (5, .any), (6, .any), (74, .pl 107), (75, .any), (76, .any)], boxes := [(.n 1 0 0), (.n 1 2 0), (.n 1 3 0)], r := 1000, own := [] }),
  (52, 0, { slots := [(3, .pl 52), (9, .any), (10, .any), (11, .any), (12, .any)], boxes := [(.n 2 2 0)], r := 1000, own := [] }),
  (64, 0, { slots := [(5, .any), (7, .any), (8, .any), (9, .any), (10, .any), (11, .any)], boxes := [(.n 1 2 0), (.n 3 7 0)], r := 1000, own := [] }),
  (72, 0, { slots := [(1, .any), (4, .any), (5, .row 70), (6, .row 74), (7, .any), (8, .any), (29, .any), (30, .any), (31, .any), (54, .any), (55, .any), (62, .any), (63, .any), (64, .any)], boxes := [(.n 1 0 0), (.n 1 3 0)], r := 1000, own := [] }),
  (72, 2, { slots := [(1, .any), (4, .any), (5, .row 70), (6, .row 74), (7, .any), (10, .any), (62, .any), (63, .any), (64, .any)], boxes := [(.n 1 0 0), (.n 1 3 0)], r := 2000, own := [] }),
  (76, 0, { slots := [(2, .any), (3, .any), (5, .any)], boxes := [(.n 1 0 0), (.n 1 1 0)], r := 1000, own := [] }),
  (92, 1, { slots := [(1, .any), (3, .any), (68, .pl 107), (69, .any), (70, .any), (85, .any), (86, .any), (87, .any), (90, .any), (91, .any), (92, .any), (95, .any), (96, .any), (97, .any), (98, .any), (101, .any), (102, .any), (103, .any), (104, .any)], boxes := [(.n 1 0 0)], r := 1000, own := [] }),
  (100, 0, { slots := [(0, .any), (3, .any)], boxes := [], r := 1000, own := [] }),
  (104, 0, { slots := [(2, .any), (3, .any), (4, .any), (5, .any), (8, .any), (9, .row 3), (19, .row 3), (20, .any), (21, .any)], boxes := [(.n 1 0 0), (.n 1 1 0), (.n 1 2 0)], r := 1000, own := [] }),
  (120, 0, { slots := [(0, .any), (3, .any), (4, .any)], boxes := [], r := 1000, own := [] }),
  (128, 0, { slots := [(3, .any), (6, .pl 3), (7, .any), (8, .any)], boxes := [], r := 1000, own := [] }),
  (136, 0, { slots := [(2, .pl 74), (3, .any), (6, .any), (21, .pl 70), (22, .any), (23, .any)], boxes := [(.n 1 0 0), (.n 1 1 0)], r := 1000, own := [] }),
  (136, 2, { slots := [(3, .any), (6, .any), (35, .pl 74), (36, .any), (37, .any)], boxes := [(.n 1 0 0), (.n 1 1 0)], r := 2000, own := [] }),
  (140, 0, { slots := [(0, .pl 70), (1, .any), (7, .any), (8, .any)], boxes := [], r := 1000, own := [] }),
  (148, 0, { slots := [(2, .any), (3, .any), (23, .any), (24, .any), (46, .any), (47, .any), (48, .any), (49, .any), (50, .any), (53, .any), (54, .any), (55, .any), (56, .any), (57, .any), (60, .any), (61, .any), (62, .any), (63, .any), (64, .any), (67, .any), (68, .any), (69, .any), (70, .any), (71, .any), (74, .any), (75, .any), (76, .any), (77, .any), (78, .any), (81, .any), (82, .any), (83, .any), (84, .any), (85, .any), (88, .any), (89, .any), (90, .any), (91, .any), (92, .any)], boxes := [(.n 1 0 0), (.n 1 1 0)], r := 1000, own := [] }),
  (152, 0, { slots := [(0, .any), (3, .any), (7, .any), (8, .any), (11, .any), (12, .any), (13, .any), (14, .any), (15, .any), (16, .any), (17, .any), (18, .any), (19, .any), (20, .any), (21, .any), (22, .any), (23, .any), (24, .any), (25, .any), (26, .any), (27, .any), (28, .any), (29, .any), (30, .any), (31, .any), (32, .any), (35, .any), (36, .any), (37, .any), (38, .any), (39, .any), (40, .any), (41, .any), (42, .any), (43, .any), (44, .any), (45, .any)], boxes := [], r := 1000, own := [] }),
  (172, 0, { slots := [(0, .pl 107), (1, .pl 107), (12, .any), (13, .any)], boxes := [], r := 1000, own := [] }),
  (29, 0, { slots := [(0, .pl 70), (1, .pl 70), (2, .pl 74), (3, .pl 74), (9, .any)], boxes := [], r := 1000, own := [] }),
  (29, 2, { slots := [(2, .pl 74), (3, .pl 74), (10, .any)], boxes := [], r := 2000, own := [] }),
  (33, 0, { slots := [(1, .any), (3, .any), (6, .any), (8, .row 5), (31, .any), (32, .any)], boxes := [(.n 1 0 0), (.n 1 1 0)], r := 1000, own := [] }),
  (41, 0, { slots := [(0, .pl 70), (1, .pl 74), (5, .any), (35, .any), (36, .any), (37, .any)], boxes := [], r := 1000, own := [] }),
  (41, 2, { slots := [(0, .pl 70), (1, .pl 74), (6, .any), (35, .any), (36, .any), (37, .any)], boxes := [], r := 2000, own := [] }),
  (45, 0, { slots := [(1, .pl 70), (2, .any), (15, .pl 70), (16, .any), (17, .any)], boxes := [], r := 1000, own := [] }),
  (89, 0, { slots := [(0, .any), (1, .any), (9, .pl 3), (10, .any), (11, .any), (19, .any), (20, .any), (21, .any)], boxes := [], r := 1000, own := [] }),
  (101, 0, { slots := [(1, .pl 3), (2, .any), (3, .any), (6, .any), (7, .any)], boxes := [(.n 1 0 0), (.n 1 1 0)], r := 1000, own := [] }),
  (105, 0, { slots := [(0, .any), (1, .pl 70), (2, .pl 74), (7, .any), (53, .any), (54, .any), (55, .any)], boxes := [], r := 1000, own := [] }),
  (105, 2, { slots := [(0, .any), (1, .pl 70), (2, .pl 74), (7, .any), (8, .any), (9, .any), (53, .any), (54, .any), (55, .any)], boxes := [(.n 1001 4 0)], r := 2000, own := [] }),
  (105, 4, { slots := [(0, .any), (2, .pl 74), (10, .any)], boxes := [], r := 3000, own := [] }),
  (121, 0, { slots := [(2, .any), (3, .any), (7, .any), (8, .any), (9, .row 3), (10, .any)], boxes := [(.n 1 0 0), (.n 1 2 0)], r := 1000, own := [] }),
  (125, 0, { slots := [(1, .any), (2, .any), (5, .any), (7, .any), (8, .any)], boxes := [(.n 1 0 0), (.n 1 2 0)], r := 1000, own := [] }),
  (133, 0, { slots := [(3, .any), (6, .pl 3), (7, .any), (8, .any)], boxes := [], r := 1000, own := [] }),
  (137, 0, { slots := [(1, .any), (3, .any), (6, .any), (8, .row 5), (9, .any)], boxes := [(.n 1 0 0), (.n 1 1 0)], r := 1000, own := [] }),
  (145, 0, { slots := [(0, .pl 74), (1, .any), (7, .any), (8, .any)], boxes := [], r := 1000, own := [] }),
  (149, 0, { slots := [(1, .any), (3, .any), (6, .any), (8, .any)], boxes := [(.n 1 0 0), (.n 1 1 0)], r := 1000, own := [] }),
  (173, 0, { slots := [(0, .pl 3), (1, .any), (7, .any), (8, .any)], boxes := [(.p 0), (.p 1)], r := 1000, own := [] }),
  (6, 0, { slots := [(2, .any), (3, .any), (5, .any), (6, .any), (7, .any), (8, .any), (33, .any), (34, .any)], boxes := [(.n 1 1 0), (.n 1 2 0), (.n 2 2 0), (.n 3 7 0)], r := 1000, own := [((.n 1 1 0), 9), ((.n 1 1 0), 10), ((.n 1 1 0), 11), ((.n 1 1 0), 12), ((.n 1 1 0), 13), ((.n 1 1 0), 14), ((.n 3 7 0), 9), ((.n 3 7 0), 10), ((.n 3 7 0), 11), ((.n 3 7 0), 12), ((.n 3 7 0), 13), ((.n 3 7 0), 14)] }),
  (6, 2, { slots := [(2, .any), (3, .any), (5, .any), (6, .any), (7, .any), (8, .any), (55, .any), (56, .any)], boxes := [(.n 1 1 0), (.n 1 2 0), (.n 2 2 0), (.n 3 7 0)], r := 2000, own := [((.n 1 1 0), 9), ((.n 1 1 0), 10), ((.n 1 1 0), 11), ((.n 1 1 0), 12), ((.n 1 1 0), 13), ((.n 1 1 0), 14), ((.n 3 7 0), 9), ((.n 3 7 0), 10), ((.n 3 7 0), 11), ((.n 3 7 0), 12), ((.n 3 7 0), 13), ((.n 3 7 0), 14)] }),
  (14, 0, { slots := [(0, .any), (3, .any), (5, .any), (6, .any)], boxes := [(.n 1 0 0)], r := 1000, own := [] }),
  (14, 2, { slots := [(0, .any), (3, .any), (5, .any), (6, .any), (7, .any), (8, .any), (9, .any)], boxes := [(.n 1 0 0), (.n 1001 10 0), (.n 1001 11 0)], r := 2000, own := [] }),
  (14, 4, { slots := [(0, .any), (3, .any), (5, .any), (10, .any)], boxes := [(.n 1 0 0)], r := 3000, own := [] }),
  (26, 1, { slots := [(1, .any), (2, .any), (3, .any), (4, .any), (5, .any), (6, .any), (7, .any), (8, .any), (119, .any), (120, .any), (121, .any), (149, .any), (150, .any), (153, .any), (154, .any), (155, .any), (156, .any), (157, .any), (158, .any), (159, .any), (160, .any), (161, .any), (162, .any), (163, .any), (164, .any), (165, .any), (166, .any), (167, .any), (168, .any), (169, .any), (170, .any), (171, .any), (172, .any), (173, .any), (174, .any)], boxes := [(.n 1 0 0), (.n 1 1 0), (.n 1 2 0), (.n 1 3 0), (.n 2 2 0), (.n 2 3 0)], r := 1000, own := [((.n 1 1 0), 12), ((.n 1 2 0), 12), ((.n 2 2 0), 12), ((.n 2 3 0), 12)] }),
  (30, 0, { slots := [(0, .pl 52), (1, .pl 52), (5, .any), (33, .any), (34, .any), (35, .any), (36, .any), (37, .any), (40, .any), (41, .any), (42, .any), (43, .any), (44, .any), (47, .any), (48, .any), (49, .any), (50, .any), (51, .any), (54, .any), (55, .any), (56, .any), (57, .any), (58, .any), (61, .any), (62, .any), (63, .any), (64, .any), (65, .any), (68, .any), (69, .any), (70, .any), (71, .any), (72, .any), (75, .any), (76, .any), (77, .any), (78, .any), (79, .any)], boxes := [], r := 1000, own := [] }),
  (38, 0, { slots := [(10, .any), (12, .any), (30, .pl 52), (31, .any), (32, .any)], boxes := [(.n 1 1 0), (.n 3 3 0)], r := 1000, own := [] }),
  (42, 0, { slots := [(0, .any), (1, .any), (2, .pl 52), (3, .any), (9, .any), (43, .any), (44, .any), (45, .any), (46, .any), (47, .any), (48, .any), (49, .any), (50, .any), (51, .any), (52, .any), (55, .any), (56, .any), (57, .any), (58, .any), (59, .any), (60, .any), (61, .any), (62, .any), (63, .any), (64, .any)], boxes := [], r := 1000, own := [] }),
  (78, 0, { slots := [(0, .any), (6, .any), (15, .pl 3), (16, .any), (17, .any)], boxes := [(.p 0)], r := 1000, own := [] }),
  (86, 1, { slots := [(1, .any), (3, .any), (86, .any), (87, .any), (90, .any), (91, .any), (92, .any), (93, .any), (94, .any), (95, .any), (96, .any), (97, .any), (98, .any), (99, .any), (100, .any), (101, .any), (102, .any), (105, .any), (106, .any), (107, .any), (108, .any), (109, .any), (110, .any), (111, .any), (112, .any), (119, .any), (120, .any), (121, .any), (124, .any), (125, .any), (126, .any), (129, .any), (130, .any), (131, .any), (134, .any), (135, .any), (136, .any), (137, .any), (140, .any), (141, .any), (142, .any), (143, .any), (146, .any), (147, .any), (148, .any)], boxes := [(.n 1 0 0)], r := 1000, own := [] }),
  (102, 0, { slots := [(0, .pl 3), (1, .any), (5, .any)], boxes := [], r := 1000, own := [] }),
  (114, 1, { slots := [(1, .any), (2, .any), (5, .any), (7, .any), (8, .any)], boxes := [(.n 1 0 0), (.n 1 2 0)], r := 1000, own := [] }),
  (134, 0, { slots := [(0, .any), (1, .any), (8, .pl 3), (9, .any), (10, .any)], boxes := [(.p 0)], r := 1000, own := [] }),
  (138, 0, { slots := [(13, .pl 3), (14, .any), (15, .any), (22, .any), (23, .any)], boxes := [], r := 1000, own := [] }),
  (150, 0, { slots := [(0, .pl 3), (3, .any), (4, .any)], boxes := [], r := 1000, own := [] }),
  (158, 0, { slots := [(2, .any), (8, .any), (9, .any), (10, .any), (11, .any), (13, .any), (14, .any), (15, .any), (16, .any), (70, .any), (71, .any), (72, .any), (73, .any), (74, .any), (75, .any), (76, .any), (77, .any), (105, .any), (106, .any), (107, .any), (108, .any), (109, .any), (110, .any), (111, .any), (112, .any)], boxes := [], r := 1000, own := [] }),
  (158, 2, { slots := [(2, .any), (8, .any), (9, .any), (10, .any), (14, .any), (15, .any), (16, .any), (17, .any), (18, .any), (105, .any), (106, .any), (107, .any), (108, .any), (109, .any), (110, .any), (111, .any), (112, .any)], boxes := [], r := 2000, own := [] }),
  (174, 0, { slots := [(0, .pl 74), (1, .pl 74), (12, .any), (13, .any)], boxes := [], r := 1000, own := [] })]
def cutTab : List (Nat × Nat × Keep) := [(28, 27, { slots := [(1, .any), (2, .any), (3, .any), (4, .any), (9, .any), (10, .row 52), (11, .any), (12, .any), (14, .row 3), (17, .any), (18, .any), (79, .any), (80, .any), (81, .any), (88, .any), (89, .any), (92, .any), (93, .any), (94, .any), (95, .any), (96, .any), (97, .any), (98, .any), (99, .any), (100, .any), (101, .any), (102, .any), (103, .any), (104, .any), (105, .any), (106, .any), (107, .any), (206, .any), (207, .any), (208, .any), (209, .any), (210, .any), (211, .any), (212, .any), (213, .any), (214, .any), (215, .any), (216, .any), (217, .any), (218, .any), (219, .any), (220, .any), (221, .any), (222, .any), (223, .any), (224, .any), (225, .any), (226, .any)], boxes := [(.n 1 0 0), (.n 1 2 0), (.n 1029 2 0), (.n 1029 3 0)], r := 2000, own := [] }),
  (28, 29, { slots := [(1, .any), (2, .any), (3, .any), (4, .any), (9, .any), (10, .row 52), (11, .any), (12, .any), (14, .row 3), (17, .any), (18, .any), (79, .any), (80, .any), (81, .any), (88, .any), (89, .any), (92, .any), (93, .any), (94, .any), (95, .any), (96, .any), (97, .any), (98, .any), (99, .any), (100, .any), (101, .any), (102, .any), (103, .any), (104, .any), (105, .any), (106, .any), (107, .any), (206, .any), (207, .any), (208, .any), (209, .any), (210, .any), (211, .any), (212, .any), (213, .any), (214, .any), (215, .any), (216, .any), (217, .any), (218, .any), (219, .any), (220, .any), (221, .any), (222, .any), (223, .any), (224, .any), (225, .any), (226, .any)], boxes := [(.n 1 0 0), (.n 1 2 0), (.n 1029 2 0), (.n 1029 3 0)], r := 3000, own := [] }),
  (28, 31, { slots := [(1, .any), (2, .any), (3, .any), (4, .any), (9, .any), (10, .row 52), (11, .any), (12, .any), (14, .row 3), (17, .any), (18, .any), (79, .any), (80, .any), (81, .any), (88, .any), (89, .any), (92, .any), (93, .any), (94, .any), (95, .any), (96, .any), (97, .any), (98, .any), (99, .any), (100, .any), (101, .any), (102, .any), (103, .any), (104, .any), (105, .any), (106, .any), (107, .any), (206, .any), (207, .any), (208, .any), (209, .any), (210, .any), (211, .any), (212, .any), (213, .any), (214, .any), (215, .any), (216, .any), (217, .any), (218, .any), (219, .any), (220, .any), (221, .any), (222, .any), (223, .any), (224, .any), (225, .any), (226, .any)], boxes := [(.n 1 0 0), (.n 1 2 0), (.n 1029 2 0), (.n 1029 3 0)], r := 4000, own := [] }),
  (28, 33, { slots := [(1, .any), (2, .any), (3, .any), (4, .any), (9, .any), (10, .row 52), (11, .any), (12, .any), (14, .row 3), (17, .any), (18, .any), (79, .any), (80, .any), (81, .any), (88, .any), (89, .any), (92, .any), (93, .any), (94, .any), (95, .any), (96, .any), (97, .any), (98, .any), (99, .any), (100, .any), (101, .any), (102, .any), (103, .any), (104, .any), (105, .any), (106, .any), (107, .any), (206, .any), (207, .any), (208, .any), (209, .any), (210, .any), (211, .any), (212, .any), (213, .any), (214, .any), (215, .any), (216, .any), (217, .any), (218, .any), (219, .any), (220, .any), (221, .any), (222, .any), (223, .any), (224, .any), (225, .any), (226, .any)], boxes := [(.n 1 0 0), (.n 1 2 0), (.n 1029 2 0), (.n 1029 3 0)], r := 5000, own := [] }),
  (28, 39, { slots := [(1, .any), (2, .any), (3, .any), (4, .any), (9, .any), (10, .row 52), (11, .any), (12, .any), (14, .row 3), (17, .any), (18, .any), (79, .any), (80, .any), (81, .any), (88, .any), (89, .any), (92, .any), (93, .any), (94, .any), (95, .any), (96, .any), (97, .any), (98, .any), (99, .any), (100, .any), (101, .any), (102, .any), (103, .any), (104, .any), (105, .any), (106, .any), (107, .any), (206, .any), (207, .any), (208, .any), (209, .any), (210, .any), (211, .any), (212, .any), (213, .any), (214, .any), (215, .any), (216, .any), (217, .any), (218, .any), (219, .any), (220, .any), (221, .any), (222, .any), (223, .any), (224, .any), (225, .any), (226, .any)], boxes := [(.n 1 0 0), (.n 1 2 0), (.n 1029 2 0), (.n 1029 3 0)], r := 6000, own := [] }),
  (28, 41, { slots := [(1, .any), (2, .any), (3, .any), (4, .any), (9, .any), (10, .row 52), (11, .any), (12, .any), (14, .row 3), (17, .any), (18, .any), (79, .any), (80, .any), (81, .any), (88, .any), (89, .any), (92, .any), (93, .any), (94, .any), (95, .any), (96, .any), (97, .any), (98, .any), (99, .any), (100, .any), (101, .any), (102, .any), (103, .any), (104, .any), (105, .any), (106, .any), (107, .any), (206, .any), (207, .any), (208, .any), (209, .any), (210, .any), (211, .any), (212, .any), (213, .any), (214, .any), (215, .any), (216, .any), (217, .any), (218, .any), (219, .any), (220, .any), (221, .any), (222, .any), (223, .any), (224, .any), (225, .any), (226, .any)], boxes := [(.n 1 0 0), (.n 1 2 0), (.n 1029 2 0), (.n 1029 3 0)], r := 7000, own := [] }),
  (28, 43, { slots := [(1, .any), (2, .any), (3, .any), (4, .any), (9, .any), (10, .row 52), (11, .any), (12, .any), (14, .row 3), (18, .any), (79, .any), (80, .any), (81, .any), (88, .any), (89, .any), (92, .any), (93, .any), (94, .any), (95, .any), (96, .any), (97, .any), (98, .any), (99, .any), (100, .any), (101, .any), (102, .any), (103, .any), (104, .any), (105, .any), (106, .any), (107, .any), (206, .any), (207, .any), (208, .any), (209, .any), (210, .any), (211, .any), (212, .any), (213, .any), (214, .any), (215, .any), (216, .any), (217, .any), (218, .any), (219, .any), (220, .any), (221, .any), (222, .any), (223, .any), (224, .any), (225, .any), (226, .any)], boxes := [(.n 1 0 0), (.n 1 2 0), (.n 1029 3 0)], r := 8000, own := [] }),
  (118, 6, { slots := [(0, .any), (1, .any), (6, .any), (83, .any), (84, .any), (85, .any), (86, .any), (87, .any), (88, .any), (89, .any), (90, .any), (91, .any), (92, .any), (93, .any), (94, .any), (95, .any), (96, .any), (97, .any), (98, .any), (99, .any), (100, .any), (101, .any), (102, .any), (103, .any), (104, .any), (105, .any), (106, .any), (107, .any), (108, .any), (109, .any), (110, .any)], boxes := [(.p 0), (.n 2 1 0)], r := 1000, own := [((.p 0), 7), ((.n 2 1 0), 8), ((.n 2 1 0), 9)] }),
  (118, 9, { slots := [(0, .any), (1, .any), (6, .any), (8, .any), (83, .any), (84, .any), (85, .any), (86, .any), (87, .any), (88, .any), (89, .any), (90, .any), (91, .any), (92, .any), (93, .any), (94, .any), (95, .any), (96, .any), (97, .any), (98, .any), (99, .any), (100, .any), (101, .any), (102, .any), (103, .any), (104, .any), (105, .any), (106, .any), (107, .any), (108, .any), (109, .any), (110, .any)], boxes := [(.p 0), (.n 2 1 0), (.n 1000 1 0)], r := 2000, own := [((.p 0), 7), ((.n 2 1 0), 8), ((.n 2 1 0), 9), ((.n 1000 1 0), 8), ((.n 1000 1 0), 9)] }),
  (118, 11, { slots := [(0, .any), (1, .any), (6, .any), (8, .any), (83, .any), (84, .any), (85, .any), (86, .any), (87, .any), (88, .any), (89, .any), (90, .any), (91, .any), (92, .any), (93, .any), (94, .any), (95, .any), (96, .any), (97, .any), (98, .any), (99, .any), (100, .any), (101, .any), (102, .any), (103, .any), (104, .any), (105, .any), (106, .any), (107, .any), (108, .any), (109, .any), (110, .any)], boxes := [(.p 0), (.n 2 1 0), (.n 1000 1 0)], r := 3000, own := [((.p 0), 7), ((.n 2 1 0), 8), ((.n 2 1 0), 9), ((.n 1000 1 0), 8), ((.n 1000 1 0), 9)] }),
  (118, 13, { slots := [(0, .any), (1, .any), (6, .any), (8, .any), (83, .any), (84, .any), (85, .any), (86, .any), (87, .any), (88, .any), (89, .any), (90, .any), (91, .any), (92, .any), (93, .any), (94, .any), (95, .any), (96, .any), (97, .any), (98, .any), (99, .any), (100, .any), (101, .any), (102, .any), (103, .any), (104, .any), (105, .any), (106, .any), (107, .any), (108, .any), (109, .any), (110, .any)], boxes := [(.p 0), (.n 2 1 0), (.n 1000 1 0)], r := 4000, own := [((.p 0), 7), ((.n 2 1 0), 8), ((.n 2 1 0), 9), ((.n 1000 1 0), 8), ((.n 1000 1 0), 9)] }),
  (118, 15, { slots := [(0, .any), (1, .any), (6, .any), (8, .any), (83, .any), (84, .any), (85, .any), (86, .any), (87, .any), (88, .any), (89, .any), (90, .any), (91, .any), (92, .any), (93, .any), (94, .any), (95, .any), (96, .any), (97, .any), (98, .any), (99, .any), (100, .any), (101, .any), (102, .any), (103, .any), (104, .any), (105, .any), (106, .any), (107, .any), (108, .any), (109, .any), (110, .any)], boxes := [(.p 0), (.n 2 1 0), (.n 1000 1 0)], r := 5000, own := [((.p 0), 7), ((.n 2 1 0), 8), ((.n 2 1 0), 9), ((.n 1000 1 0), 8), ((.n 1000 1 0), 9)] }),
  (118, 17, { slots := [(0, .any), (1, .any), (6, .any), (8, .any)], boxes := [(.p 0), (.n 2 1 0), (.n 1000 1 0)], r := 6000, own := [((.p 0), 7), ((.n 2 1 0), 8), ((.n 2 1 0), 9), ((.n 1000 1 0), 8), ((.n 1000 1 0), 9)] }),
  (118, 19, { slots := [(0, .any), (1, .any), (8, .any)], boxes := [(.p 0), (.n 1000 1 0)], r := 7000, own := [((.p 0), 7), ((.n 1000 1 0), 8), ((.n 1000 1 0), 9)] })]
def ann : Ann := { loop := lookA loopTab, cut := lookA cutTab, ownT := fun t _ => Nat.beq t 184, ownA := fun f e => (Nat.beq f 70 || Nat.beq f 73) && Nat.beq e 52, ownR := fun f e => (Nat.beq f 70 || Nat.beq f 73) && Nat.beq e 52, wrT := fun f _ => Nat.beq f 104 }
noncomputable abbrev call (k : Nat) := callAt Tryz.prog ann k
noncomputable abbrev run (k : Nat) := runAt Tryz.prog ann k
noncomputable def cW : CallF := callW Tryz.prog ann
noncomputable def rW : FuncId → List TypeId → List Item → St → Option Res := runW Tryz.prog ann
theorem cW_fix (f : FuncId) (args : List PV) (bs : List BX) : cW f args bs = stepC Tryz.prog ann cW rW f args bs := callW_fix _ _ f args bs
theorem rW_fix (f : FuncId) (pts : List TypeId) (t : List Item) (st : St) : rW f pts t st = stepR Tryz.prog ann cW rW f pts t st := runW_fix _ _ f pts t st
theorem Ans.c {f : FuncId} {ps : List PV} {bs : List BX} {r : Res} (h : Ans (fun k => call k f ps bs) r) : cW f ps bs = some r := h.w
theorem c_at (n : Nat) {f : FuncId} {ps : List PV} {bs : List BX} {r : Res} (h : callAt Tryz.prog ann n f ps bs = some r) : cW f ps bs = some r := (callW_iff _ _).2 ⟨n, h⟩
theorem ans_c {f : FuncId} {ps : List PV} {bs : List BX} {r : Res} (h : cW f ps bs = some r) : Ans (fun k => call k f ps bs) r := ans_of _ _ h
def f_celluloidlaw10_MorphTakes : Nat := 3
def f_celluloidlaw10_awake : Nat := 5
def f_morph_Take : Nat := 6
def f_celluloidref10_Take : Nat := 7
def f_celluloidref10_Equal : Nat := 8
def f_celluloidlaw10_ref : Nat := 9
def f___celluloid_morph_reader__little : Nat := 17
def f___celluloid_morph_reader__rect : Nat := 18
def f___celluloid_morph_reader__many : Nat := 19
def f___celluloid_morph_reader__fills : Nat := 20
def f___celluloid_morph_reader__color : Nat := 21
def f___celluloid_morph_reader__records : Nat := 22
def f___celluloid_morph_reader__fail : Nat := 23
def f_celluloidref08_Little : Nat := 24
def f_celluloidref10_rect : Nat := 25
def f_celluloidref10_fills : Nat := 26
def f_celluloidref08_Color : Nat := 27
def f_celluloidref09_TakeRecords : Nat := 28
def f_celluloidref08_SameLists : Nat := 29
def f_celluloidref09_Same : Nat := 30
def f_celluloidref07_Rect : Nat := 40
def f_celluloidref08_Right : Nat := 41
def f_field_RightRect : Nat := 43
def f_bits_Little : Nat := 59
def f_field_TakeRect : Nat := 60
def f___celluloid_morph_reader__matrix : Nat := 61
def f_field_TakeRGBA : Nat := 62
def f_shape_TakeRecords : Nat := 63
def f_celluloidref02_Little : Nat := 64
def f_celluloidref07_TakeRect : Nat := 65
def f_celluloidref08_Matrix : Nat := 66
def f_celluloidref07_TakeRGBA : Nat := 67
def f_celluloidref07_Begin : Nat := 68
def f_celluloidref07_Plain : Nat := 69
def f_celluloidref09_edge : Nat := 70
def f_celluloidref09_several : Nat := 71
def f_celluloidref08_Take : Nat := 72
def f_celluloidref09_more : Nat := 73
def f_celluloidref09_one : Nat := 74
def f_celluloidref02_Align : Nat := 75
def f_celluloidref08_Same : Nat := 76
def f_celluloidref07_in : Nat := 85
def f_celluloidref08_Fill : Nat := 86
def f_celluloidref08_Stroke : Nat := 87
def f_celluloidref09_in : Nat := 88
def f_field_within : Nat := 89
def f_shape_within : Nat := 96
def f_bits_Bytes : Nat := 108
def f_field_begin : Nat := 109
def f___celluloid_field_reader__plain : Nat := 110
def f___celluloid_field_reader__signed : Nat := 111
def f___celluloid_field_reader__done : Nat := 112
def f_field_TakeMatrix : Nat := 113
def f_bits_Plain : Nat := 114
def f_bits_Align : Nat := 115
def f___celluloid_shape_reader__plain : Nat := 116
def f___celluloid_shape_reader__edge : Nat := 117
def f___celluloid_shape_reader__several : Nat := 118
def f_celluloidref02_Bytes : Nat := 119
def f_celluloidref02_Power : Nat := 120
def f_celluloidref07_several : Nat := 121
def f_celluloidref07_Done : Nat := 122
def f_celluloidref07_TakeMatrix : Nat := 123
def f_celluloidref02_Right : Nat := 124
def f_celluloidref02_Plain : Nat := 125
def f_celluloidref07_Signed : Nat := 126
def f_celluloidref08_fill : Nat := 127
def f_field_RightMatrix : Nat := 131
def f_celluloidref07_RGBA : Nat := 138
def f_celluloidref07_Matrix : Nat := 139
def f_style_picture : Nat := 142
def f_style_gradient : Nat := 143
def f_slices_ContainsFunc___int_int_ : Nat := 146
def f_shape_within_1 : Nat := 147
def f_bits_right : Nat := 160
def f_bits_Signed : Nat := 161
def f_field_Same : Nat := 162
def f___celluloid_shape_reader__signed : Nat := 163
def f___celluloid_shape_reader__take : Nat := 164
def f___celluloid_shape_reader__fail : Nat := 165
def f___celluloid_shape_reader__fresh : Nat := 166
def f_celluloidref02_Bit : Nat := 167
def f_celluloidref02_Signed : Nat := 168
def f_slices_IndexFunc___int_int_ : Nat := 173
def f_style_Take : Nat := 179
def f___celluloid_style_reader__many : Nat := 182
def f___celluloid_style_reader__fill : Nat := 183
def f___celluloid_style_reader__little : Nat := 184
def f___celluloid_style_reader__color : Nat := 185
def f___celluloid_style_reader__fail : Nat := 186
def f___celluloid_style_reader__matrix : Nat := 187
def t_int : Nat := 3
def t_morph_reader : Nat := 60
def t_shape_reader : Nat := 184
def t_field_reader : Nat := 216
def t_style_reader : Nat := 234
/- celluloid/bits.PutBytes -/
/- celluloid/field.RightRect -/
theorem u_field_RightRect (k : Nat) (a1 : Int) (a2 : Int) (a3 : Int) (a4 : Int) : call (k + 1) f_field_RightRect [.i a1, .i a2, .i a3, .i a4] [] =
  ((call k f_field_within [(PV.i (-1048576 : Int)), (PV.i (1048576 : Int)), (PV.l (List.set (List.set (List.set (List.set [[(PV.i (0 : Int))], [(PV.i (0 : Int))], [(PV.i (0 : Int))], [(PV.i (0 : Int))]] 0 [(PV.i a1)]) 1 [(PV.i a2)]) 2 [(PV.i a3)]) 3 [(PV.i a4)]))] []).bind fun r1 =>
   (bif (((r1).1.getD 0 PV.u)).toB then (bif (decide (a1 ≤ a2)) then some [(PV.b (decide (a3 ≤ a4)))]
   else some [(PV.b false)])
   else some [(PV.b false)])).bind fun r2 =>
  some ([(PV.b ((r2.getD 0 PV.u)).toB)], []) := by kernel_rfl
/- celluloid/celluloidref07.PutMatrix -/
/- celluloid/bits.Little -/
noncomputable def S_bits_Little_L0 (x1 : List UInt8) (x2 : Int) (x3 : Int) (x4 : Int) (x5 : List UInt8) (x6 : Int) (x7 : List UInt8) (x8 : Int) : St := mkSt [(5, .v (.ptr (.n 1 2 0) 0)), (7, .v (.str x1)), (8, .v (.ptr (.n 3 7 0) 0)), (9, .v (.int .i64 x2)), (10, .v (.int .i64 x3)), (11, .v (.int .i64 x4))] [((.n 1 2 0), .cells 23 [.str x5, .int .i64 x6]), ((.n 3 7 0), .cells 23 [.str x7, .int .i64 x8])] 1000 43
noncomputable def at_bits_Little_L0 : List Item := (atLoop Tryz.f59 0)
theorem u_bits_Little (k : Nat) (a1 : List UInt8) (a2 : Int) (a3 : Int) : call (k + 1) f_bits_Little [.s a1, .i a2, .i a3] [] =
  ((bif (decide (a3 < (1 : Int))) then some [(PV.b true)]
   else some [(PV.b (decide (a3 > (4 : Int))))])).bind fun r1 =>
  (bif ((r1.getD 0 PV.u)).toB then some ([(PV.i (0 : Int)), (PV.s []), (PV.i (0 : Int)), (PV.i (1 : Int))], [])
  else (call k f_bits_Bytes [(PV.s a1), (PV.i a2), (PV.i a3)] []).bind fun r2 =>
  run k f_bits_Little [] at_bits_Little_L0 (S_bits_Little_L0 ((((r2).1.getD 0 PV.u)).toS) ((((r2).1.getD 3 PV.u)).toI) ((0 : Int)) ((IntKind.wrap .i64 ((((List.length (((r2).1.getD 0 PV.u)).toS) : Nat) : Int) - (1 : Int)))) ([]) ((0 : Int)) ((((r2).1.getD 1 PV.u)).toS) ((((r2).1.getD 2 PV.u)).toI))) := by kernel_rfl
theorem u_bits_Little_L0 (k : Nat) (x1 : List UInt8) (x2 : Int) (x3 : Int) (x4 : Int) (x5 : List UInt8) (x6 : Int) (x7 : List UInt8) (x8 : Int) : run (k + 1) f_bits_Little [] at_bits_Little_L0 (S_bits_Little_L0 x1 x2 x3 x4 x5 x6 x7 x8) =
  (bif (decide (x4 ≥ (0 : Int))) then (bif (inB x4 (List.length x1)) then run k f_bits_Little [] at_bits_Little_L0 (S_bits_Little_L0 (x1) (x2) ((bitsOp Go.BinOp.or .i64 (shl .i64 x3 (8 : Int)) (IntKind.wrap .i64 (bt x1 x4)))) ((IntKind.wrap .i64 (x4 - (1 : Int)))) (x5) (x6) (x7) (x8))
  else none)
  else some ([(PV.i x3), (PV.s x7), (PV.i x8), (PV.i x2)], [])) := by kernel_rfl
/- celluloid/celluloidref07.TakeRGBA -/
theorem u_celluloidref07_TakeRGBA (k : Nat) (a1 : List UInt8) (a2 : Int) : call (k + 1) f_celluloidref07_TakeRGBA [.s a1, .i a2] [] =
  (call k f_celluloidref02_Bytes [(PV.s a1), (PV.i a2), (PV.i (4 : Int))] []).bind fun r1 =>
  (bif ((((r1).1.getD 3 PV.u)).toI != (0 : Int)) then some ([(PV.i (0 : Int)), (PV.i (0 : Int)), (PV.i (0 : Int)), (PV.i (0 : Int)), (PV.s []), (PV.i (0 : Int)), (PV.i (((r1).1.getD 3 PV.u)).toI)], [])
  else (bif (inB (0 : Int) (List.length (((r1).1.getD 0 PV.u)).toS)) then (bif (inB (1 : Int) (List.length (((r1).1.getD 0 PV.u)).toS)) then (bif (inB (2 : Int) (List.length (((r1).1.getD 0 PV.u)).toS)) then (bif (inB (3 : Int) (List.length (((r1).1.getD 0 PV.u)).toS)) then some ([(PV.i (IntKind.wrap .i64 (bt (((r1).1.getD 0 PV.u)).toS (0 : Int)))), (PV.i (IntKind.wrap .i64 (bt (((r1).1.getD 0 PV.u)).toS (1 : Int)))), (PV.i (IntKind.wrap .i64 (bt (((r1).1.getD 0 PV.u)).toS (2 : Int)))), (PV.i (IntKind.wrap .i64 (bt (((r1).1.getD 0 PV.u)).toS (3 : Int)))), (PV.s (((r1).1.getD 1 PV.u)).toS), (PV.i (((r1).1.getD 2 PV.u)).toI), (PV.i (0 : Int))], [])
  else none)
  else none)
  else none)
  else none)) := by kernel_rfl
/- celluloid/celluloidref02.Align -/
noncomputable def S_celluloidref02_Align_L0 (x1 : List UInt8) (x2 : Int) (x3 : List UInt8) (x4 : Int) : St := mkSt [(1, .v (.ptr (.n 1 0 0) 0)), (2, .v (.ptr (.n 1 1 0) 0)), (6, .any), (7, .any), (8, .any), (9, .any)] [((.n 1 0 0), .cells 36 [.str x1, .int .i64 x2]), ((.n 1 1 0), .cells 36 [.str x3, .int .i64 x4])] 1000 16
noncomputable def at_celluloidref02_Align_L0 : List Item := (atLoop Tryz.f75 0)
theorem u_celluloidref02_Align (k : Nat) (a1 : List UInt8) (a2 : Int) : call (k + 1) f_celluloidref02_Align [.s a1, .i a2] [] =
  run k f_celluloidref02_Align [] at_celluloidref02_Align_L0 (S_celluloidref02_Align_L0 (a1) (a2) ([]) ((0 : Int))) := by kernel_rfl
theorem u_celluloidref02_Align_L0 (k : Nat) (x1 : List UInt8) (x2 : Int) (x3 : List UInt8) (x4 : Int) : run (k + 1) f_celluloidref02_Align [] at_celluloidref02_Align_L0 (S_celluloidref02_Align_L0 x1 x2 x3 x4) =
  ((call k f_celluloidref02_Right [(PV.s x1), (PV.i x2)] []).bind fun r1 =>
   (bif (((r1).1.getD 0 PV.u)).toB then some [(PV.b ((Int.tmod x2 (8 : Int)) != (0 : Int)))]
   else some [(PV.b false)])).bind fun r2 =>
  (bif ((r2.getD 0 PV.u)).toB then run k f_celluloidref02_Align [] at_celluloidref02_Align_L0 (S_celluloidref02_Align_L0 (x1) ((IntKind.wrap .i64 (x2 + (1 : Int)))) (x3) (x4))
  else some ([(PV.s x1), (PV.i x2)], [])) := by kernel_rfl
/- (*celluloid/field.writer).done -/
/- celluloid/celluloidref07.numbers -/
/- (*celluloid/field.reader).signed -/
theorem u___celluloid_field_reader__signed (k : Nat) (a2 : Int) (p0_1 : List UInt8) (p0_2 : Int) (p0_3 : Int) : call (k + 1) f___celluloid_field_reader__signed [.u, .i a2] [(t_field_reader, [.s p0_1, .i p0_2, .i p0_3])] =
  (bif (p0_3 != (0 : Int)) then some ([(PV.i (0 : Int))], [(t_field_reader, [(PV.s p0_1), (PV.i p0_2), (PV.i p0_3)])])
  else (call k f_bits_Signed [(PV.s p0_1), (PV.i p0_2), (PV.i a2)] []).bind fun r1 =>
  some ([(PV.i (((r1).1.getD 0 PV.u)).toI)], [(t_field_reader, [(PV.s (((r1).1.getD 1 PV.u)).toS), (PV.i (((r1).1.getD 2 PV.u)).toI), (PV.i (((r1).1.getD 3 PV.u)).toI)])])) := by kernel_rfl
/- celluloid/bits.Align -/
theorem u_bits_Align (k : Nat) (a1 : List UInt8) (a2 : Int) : call (k + 1) f_bits_Align [.s a1, .i a2] [] =
  (call k f_bits_right [(PV.s a1), (PV.i a2)] []).bind fun r1 =>
  (bif (((r1).1.getD 0 PV.u)).toB then some ([(PV.s a1), (PV.i (IntKind.wrap .i64 ((IntKind.wrap .i64 (Int.tdiv (IntKind.wrap .i64 (a2 + (7 : Int))) (8 : Int))) * (8 : Int))))], [])
  else some ([(PV.s a1), (PV.i a2)], [])) := by kernel_rfl
/- celluloid/celluloidref02.Bytes -/
theorem u_celluloidref02_Bytes (k : Nat) (a1 : List UInt8) (a2 : Int) (a3 : Int) : call (k + 1) f_celluloidref02_Bytes [.s a1, .i a2, .i a3] [] =
  ((call k f_celluloidref02_Right [(PV.s a1), (PV.i a2)] []).bind fun r1 =>
   (bif (!(((r1).1.getD 0 PV.u)).toB) then some [(PV.b true)]
   else some [(PV.b (decide (a3 < (0 : Int))))])).bind fun r2 =>
  (bif ((r2.getD 0 PV.u)).toB then some ([(PV.s []), (PV.s []), (PV.i (0 : Int)), (PV.i (1 : Int))], [])
  else (call k f_celluloidref02_Align [(PV.s a1), (PV.i a2)] []).bind fun r3 =>
  (bif (decide ((IntKind.wrap .i64 ((((List.length a1) : Nat) : Int) - (IntKind.wrap .i64 (Int.tdiv (((r3).1.getD 1 PV.u)).toI (8 : Int))))) < a3)) then some ([(PV.s []), (PV.s []), (PV.i (0 : Int)), (PV.i (2 : Int))], [])
  else (bif (okB (IntKind.wrap .i64 (Int.tdiv (((r3).1.getD 1 PV.u)).toI (8 : Int))) (IntKind.wrap .i64 ((IntKind.wrap .i64 (Int.tdiv (((r3).1.getD 1 PV.u)).toI (8 : Int))) + a3)) (List.length a1)) then some ([(PV.s (cutL (IntKind.wrap .i64 (Int.tdiv (((r3).1.getD 1 PV.u)).toI (8 : Int))) (IntKind.wrap .i64 ((IntKind.wrap .i64 (Int.tdiv (((r3).1.getD 1 PV.u)).toI (8 : Int))) + a3)) a1)), (PV.s a1), (PV.i (IntKind.wrap .i64 ((8 : Int) * (IntKind.wrap .i64 ((IntKind.wrap .i64 (Int.tdiv (((r3).1.getD 1 PV.u)).toI (8 : Int))) + a3))))), (PV.i (0 : Int))], [])
  else none))) := by kernel_rfl
/- celluloid/celluloidref07.TakeMatrix -/
theorem u_celluloidref07_TakeMatrix (k : Nat) (a1 : List UInt8) (a2 : Int) : call (k + 1) f_celluloidref07_TakeMatrix [.s a1, .i a2] [] =
  (call k f_celluloidref07_Begin [(PV.s a1), (PV.i a2)] []).bind fun r1 =>
  (call k f_celluloidref07_Plain [(PV.s (((r1).1.getD 0 PV.u)).toS), (PV.i (((r1).1.getD 1 PV.u)).toI), (PV.i (((r1).1.getD 2 PV.u)).toI), (PV.i (1 : Int))] []).bind fun r2 =>
  (bif ((((r2).1.getD 0 PV.u)).toI == (1 : Int)) then (call k f_celluloidref07_several [(PV.s (((r2).1.getD 1 PV.u)).toS), (PV.i (((r2).1.getD 2 PV.u)).toI), (PV.i (((r2).1.getD 3 PV.u)).toI), (PV.i (5 : Int)), (PV.i (2 : Int))] []).bind fun r3 =>
  (bif (inB (0 : Int) (List.length (((r3).1.getD 0 PV.u)).toL)) then (bif (inB (1 : Int) (List.length (((r3).1.getD 0 PV.u)).toL)) then (call k f_celluloidref07_Plain [(PV.s (((r3).1.getD 1 PV.u)).toS), (PV.i (((r3).1.getD 2 PV.u)).toI), (PV.i (((r3).1.getD 3 PV.u)).toI), (PV.i (1 : Int))] []).bind fun r4 =>
  (bif ((((r4).1.getD 0 PV.u)).toI == (1 : Int)) then (call k f_celluloidref07_several [(PV.s (((r4).1.getD 1 PV.u)).toS), (PV.i (((r4).1.getD 2 PV.u)).toI), (PV.i (((r4).1.getD 3 PV.u)).toI), (PV.i (5 : Int)), (PV.i (2 : Int))] []).bind fun r5 =>
  (bif (inB (0 : Int) (List.length (((r5).1.getD 0 PV.u)).toL)) then (bif (inB (1 : Int) (List.length (((r5).1.getD 0 PV.u)).toL)) then (call k f_celluloidref07_several [(PV.s (((r5).1.getD 1 PV.u)).toS), (PV.i (((r5).1.getD 2 PV.u)).toI), (PV.i (((r5).1.getD 3 PV.u)).toI), (PV.i (5 : Int)), (PV.i (2 : Int))] []).bind fun r6 =>
  (bif (inB (0 : Int) (List.length (((r6).1.getD 0 PV.u)).toL)) then (bif (inB (1 : Int) (List.length (((r6).1.getD 0 PV.u)).toL)) then (call k f_celluloidref07_Matrix [(PV.i (((elemAt (((r3).1.getD 0 PV.u)).toL (0 : Int)).getD 0 PV.u)).toI), (PV.i (((elemAt (((r5).1.getD 0 PV.u)).toL (0 : Int)).getD 0 PV.u)).toI), (PV.i (((elemAt (((r5).1.getD 0 PV.u)).toL (1 : Int)).getD 0 PV.u)).toI), (PV.i (((elemAt (((r3).1.getD 0 PV.u)).toL (1 : Int)).getD 0 PV.u)).toI), (PV.i (((elemAt (((r6).1.getD 0 PV.u)).toL (0 : Int)).getD 0 PV.u)).toI), (PV.i (((elemAt (((r6).1.getD 0 PV.u)).toL (1 : Int)).getD 0 PV.u)).toI)] []).bind fun r7 =>
  (call k f_celluloidref07_Done [(PV.s (((r6).1.getD 1 PV.u)).toS), (PV.i (((r6).1.getD 2 PV.u)).toI), (PV.i (((r6).1.getD 3 PV.u)).toI), (PV.b (((r7).1.getD 0 PV.u)).toB)] []).bind fun r8 =>
  (bif ((((r8).1.getD 2 PV.u)).toI != (0 : Int)) then some ([(PV.i (0 : Int)), (PV.i (0 : Int)), (PV.i (0 : Int)), (PV.i (0 : Int)), (PV.i (0 : Int)), (PV.i (0 : Int)), (PV.s (((r8).1.getD 0 PV.u)).toS), (PV.i (((r8).1.getD 1 PV.u)).toI), (PV.i (((r8).1.getD 2 PV.u)).toI)], [])
  else some ([(PV.i (((elemAt (((r3).1.getD 0 PV.u)).toL (0 : Int)).getD 0 PV.u)).toI), (PV.i (((elemAt (((r5).1.getD 0 PV.u)).toL (0 : Int)).getD 0 PV.u)).toI), (PV.i (((elemAt (((r5).1.getD 0 PV.u)).toL (1 : Int)).getD 0 PV.u)).toI), (PV.i (((elemAt (((r3).1.getD 0 PV.u)).toL (1 : Int)).getD 0 PV.u)).toI), (PV.i (((elemAt (((r6).1.getD 0 PV.u)).toL (0 : Int)).getD 0 PV.u)).toI), (PV.i (((elemAt (((r6).1.getD 0 PV.u)).toL (1 : Int)).getD 0 PV.u)).toI), (PV.s (((r8).1.getD 0 PV.u)).toS), (PV.i (((r8).1.getD 1 PV.u)).toI), (PV.i (((r8).1.getD 2 PV.u)).toI)], []))
  else none)
  else none)
  else none)
  else none)
  else (call k f_celluloidref07_several [(PV.s (((r4).1.getD 1 PV.u)).toS), (PV.i (((r4).1.getD 2 PV.u)).toI), (PV.i (((r4).1.getD 3 PV.u)).toI), (PV.i (5 : Int)), (PV.i (2 : Int))] []).bind fun r9 =>
  (bif (inB (0 : Int) (List.length (((r9).1.getD 0 PV.u)).toL)) then (bif (inB (1 : Int) (List.length (((r9).1.getD 0 PV.u)).toL)) then (call k f_celluloidref07_Matrix [(PV.i (((elemAt (((r3).1.getD 0 PV.u)).toL (0 : Int)).getD 0 PV.u)).toI), (PV.i (0 : Int)), (PV.i (0 : Int)), (PV.i (((elemAt (((r3).1.getD 0 PV.u)).toL (1 : Int)).getD 0 PV.u)).toI), (PV.i (((elemAt (((r9).1.getD 0 PV.u)).toL (0 : Int)).getD 0 PV.u)).toI), (PV.i (((elemAt (((r9).1.getD 0 PV.u)).toL (1 : Int)).getD 0 PV.u)).toI)] []).bind fun r10 =>
  (call k f_celluloidref07_Done [(PV.s (((r9).1.getD 1 PV.u)).toS), (PV.i (((r9).1.getD 2 PV.u)).toI), (PV.i (((r9).1.getD 3 PV.u)).toI), (PV.b (((r10).1.getD 0 PV.u)).toB)] []).bind fun r11 =>
  (bif ((((r11).1.getD 2 PV.u)).toI != (0 : Int)) then some ([(PV.i (0 : Int)), (PV.i (0 : Int)), (PV.i (0 : Int)), (PV.i (0 : Int)), (PV.i (0 : Int)), (PV.i (0 : Int)), (PV.s (((r11).1.getD 0 PV.u)).toS), (PV.i (((r11).1.getD 1 PV.u)).toI), (PV.i (((r11).1.getD 2 PV.u)).toI)], [])
  else some ([(PV.i (((elemAt (((r3).1.getD 0 PV.u)).toL (0 : Int)).getD 0 PV.u)).toI), (PV.i (0 : Int)), (PV.i (0 : Int)), (PV.i (((elemAt (((r3).1.getD 0 PV.u)).toL (1 : Int)).getD 0 PV.u)).toI), (PV.i (((elemAt (((r9).1.getD 0 PV.u)).toL (0 : Int)).getD 0 PV.u)).toI), (PV.i (((elemAt (((r9).1.getD 0 PV.u)).toL (1 : Int)).getD 0 PV.u)).toI), (PV.s (((r11).1.getD 0 PV.u)).toS), (PV.i (((r11).1.getD 1 PV.u)).toI), (PV.i (((r11).1.getD 2 PV.u)).toI)], []))
  else none)
  else none))
  else none)
  else none)
  else (call k f_celluloidref07_Plain [(PV.s (((r2).1.getD 1 PV.u)).toS), (PV.i (((r2).1.getD 2 PV.u)).toI), (PV.i (((r2).1.getD 3 PV.u)).toI), (PV.i (1 : Int))] []).bind fun r12 =>
  (bif ((((r12).1.getD 0 PV.u)).toI == (1 : Int)) then (call k f_celluloidref07_several [(PV.s (((r12).1.getD 1 PV.u)).toS), (PV.i (((r12).1.getD 2 PV.u)).toI), (PV.i (((r12).1.getD 3 PV.u)).toI), (PV.i (5 : Int)), (PV.i (2 : Int))] []).bind fun r13 =>
  (bif (inB (0 : Int) (List.length (((r13).1.getD 0 PV.u)).toL)) then (bif (inB (1 : Int) (List.length (((r13).1.getD 0 PV.u)).toL)) then (call k f_celluloidref07_several [(PV.s (((r13).1.getD 1 PV.u)).toS), (PV.i (((r13).1.getD 2 PV.u)).toI), (PV.i (((r13).1.getD 3 PV.u)).toI), (PV.i (5 : Int)), (PV.i (2 : Int))] []).bind fun r14 =>
  (bif (inB (0 : Int) (List.length (((r14).1.getD 0 PV.u)).toL)) then (bif (inB (1 : Int) (List.length (((r14).1.getD 0 PV.u)).toL)) then (call k f_celluloidref07_Matrix [(PV.i (65536 : Int)), (PV.i (((elemAt (((r13).1.getD 0 PV.u)).toL (0 : Int)).getD 0 PV.u)).toI), (PV.i (((elemAt (((r13).1.getD 0 PV.u)).toL (1 : Int)).getD 0 PV.u)).toI), (PV.i (65536 : Int)), (PV.i (((elemAt (((r14).1.getD 0 PV.u)).toL (0 : Int)).getD 0 PV.u)).toI), (PV.i (((elemAt (((r14).1.getD 0 PV.u)).toL (1 : Int)).getD 0 PV.u)).toI)] []).bind fun r15 =>
  (call k f_celluloidref07_Done [(PV.s (((r14).1.getD 1 PV.u)).toS), (PV.i (((r14).1.getD 2 PV.u)).toI), (PV.i (((r14).1.getD 3 PV.u)).toI), (PV.b (((r15).1.getD 0 PV.u)).toB)] []).bind fun r16 =>
  (bif ((((r16).1.getD 2 PV.u)).toI != (0 : Int)) then some ([(PV.i (0 : Int)), (PV.i (0 : Int)), (PV.i (0 : Int)), (PV.i (0 : Int)), (PV.i (0 : Int)), (PV.i (0 : Int)), (PV.s (((r16).1.getD 0 PV.u)).toS), (PV.i (((r16).1.getD 1 PV.u)).toI), (PV.i (((r16).1.getD 2 PV.u)).toI)], [])
  else some ([(PV.i (65536 : Int)), (PV.i (((elemAt (((r13).1.getD 0 PV.u)).toL (0 : Int)).getD 0 PV.u)).toI), (PV.i (((elemAt (((r13).1.getD 0 PV.u)).toL (1 : Int)).getD 0 PV.u)).toI), (PV.i (65536 : Int)), (PV.i (((elemAt (((r14).1.getD 0 PV.u)).toL (0 : Int)).getD 0 PV.u)).toI), (PV.i (((elemAt (((r14).1.getD 0 PV.u)).toL (1 : Int)).getD 0 PV.u)).toI), (PV.s (((r16).1.getD 0 PV.u)).toS), (PV.i (((r16).1.getD 1 PV.u)).toI), (PV.i (((r16).1.getD 2 PV.u)).toI)], []))
  else none)
  else none)
  else none)
  else none)
  else (call k f_celluloidref07_several [(PV.s (((r12).1.getD 1 PV.u)).toS), (PV.i (((r12).1.getD 2 PV.u)).toI), (PV.i (((r12).1.getD 3 PV.u)).toI), (PV.i (5 : Int)), (PV.i (2 : Int))] []).bind fun r17 =>
  (bif (inB (0 : Int) (List.length (((r17).1.getD 0 PV.u)).toL)) then (bif (inB (1 : Int) (List.length (((r17).1.getD 0 PV.u)).toL)) then (call k f_celluloidref07_Matrix [(PV.i (65536 : Int)), (PV.i (0 : Int)), (PV.i (0 : Int)), (PV.i (65536 : Int)), (PV.i (((elemAt (((r17).1.getD 0 PV.u)).toL (0 : Int)).getD 0 PV.u)).toI), (PV.i (((elemAt (((r17).1.getD 0 PV.u)).toL (1 : Int)).getD 0 PV.u)).toI)] []).bind fun r18 =>
  (call k f_celluloidref07_Done [(PV.s (((r17).1.getD 1 PV.u)).toS), (PV.i (((r17).1.getD 2 PV.u)).toI), (PV.i (((r17).1.getD 3 PV.u)).toI), (PV.b (((r18).1.getD 0 PV.u)).toB)] []).bind fun r19 =>
  (bif ((((r19).1.getD 2 PV.u)).toI != (0 : Int)) then some ([(PV.i (0 : Int)), (PV.i (0 : Int)), (PV.i (0 : Int)), (PV.i (0 : Int)), (PV.i (0 : Int)), (PV.i (0 : Int)), (PV.s (((r19).1.getD 0 PV.u)).toS), (PV.i (((r19).1.getD 1 PV.u)).toI), (PV.i (((r19).1.getD 2 PV.u)).toI)], [])
  else some ([(PV.i (65536 : Int)), (PV.i (0 : Int)), (PV.i (0 : Int)), (PV.i (65536 : Int)), (PV.i (((elemAt (((r17).1.getD 0 PV.u)).toL (0 : Int)).getD 0 PV.u)).toI), (PV.i (((elemAt (((r17).1.getD 0 PV.u)).toL (1 : Int)).getD 0 PV.u)).toI), (PV.s (((r19).1.getD 0 PV.u)).toS), (PV.i (((r19).1.getD 1 PV.u)).toI), (PV.i (((r19).1.getD 2 PV.u)).toI)], []))
  else none)
  else none))) := by kernel_rfl
/- celluloid/field.RightMatrix -/
theorem u_field_RightMatrix (k : Nat) (a1 : Int) (a2 : Int) (a3 : Int) (a4 : Int) (a5 : Int) (a6 : Int) : call (k + 1) f_field_RightMatrix [.i a1, .i a2, .i a3, .i a4, .i a5, .i a6] [] =
  ((call k f_field_within [(PV.i (-4194304 : Int)), (PV.i (4194304 : Int)), (PV.l (List.set (List.set (List.set (List.set [[(PV.i (0 : Int))], [(PV.i (0 : Int))], [(PV.i (0 : Int))], [(PV.i (0 : Int))]] 0 [(PV.i a1)]) 1 [(PV.i a2)]) 2 [(PV.i a3)]) 3 [(PV.i a4)]))] []).bind fun r1 =>
   (bif (((r1).1.getD 0 PV.u)).toB then (call k f_field_within [(PV.i (-1048576 : Int)), (PV.i (1048576 : Int)), (PV.l (List.set (List.set [[(PV.i (0 : Int))], [(PV.i (0 : Int))]] 0 [(PV.i a5)]) 1 [(PV.i a6)]))] []).bind fun r2 =>
   some [(PV.b (((r2).1.getD 0 PV.u)).toB)]
   else some [(PV.b false)])).bind fun r3 =>
  some ([(PV.b ((r3.getD 0 PV.u)).toB)], []) := by kernel_rfl
/- celluloid/celluloidref07.Matrix -/
theorem u_celluloidref07_Matrix (k : Nat) (a1 : Int) (a2 : Int) (a3 : Int) (a4 : Int) (a5 : Int) (a6 : Int) : call (k + 1) f_celluloidref07_Matrix [.i a1, .i a2, .i a3, .i a4, .i a5, .i a6] [] =
  ((call k f_celluloidref07_in [(PV.i a1), (PV.i (4194304 : Int))] []).bind fun r1 =>
   (bif (((r1).1.getD 0 PV.u)).toB then (call k f_celluloidref07_in [(PV.i a2), (PV.i (4194304 : Int))] []).bind fun r2 =>
   (bif (((r2).1.getD 0 PV.u)).toB then (call k f_celluloidref07_in [(PV.i a3), (PV.i (4194304 : Int))] []).bind fun r3 =>
   (bif (((r3).1.getD 0 PV.u)).toB then (call k f_celluloidref07_in [(PV.i a4), (PV.i (4194304 : Int))] []).bind fun r4 =>
   (bif (((r4).1.getD 0 PV.u)).toB then (call k f_celluloidref07_in [(PV.i a5), (PV.i (1048576 : Int))] []).bind fun r5 =>
   (bif (((r5).1.getD 0 PV.u)).toB then (call k f_celluloidref07_in [(PV.i a6), (PV.i (1048576 : Int))] []).bind fun r6 =>
   some [(PV.b (((r6).1.getD 0 PV.u)).toB)]
   else some [(PV.b false)])
   else some [(PV.b false)])
   else some [(PV.b false)])
   else some [(PV.b false)])
   else some [(PV.b false)])).bind fun r7 =>
  some ([(PV.b ((r7.getD 0 PV.u)).toB)], []) := by kernel_rfl
/- celluloid/celluloidref02.PutSigned -/
/- celluloid/celluloidref02.Bit -/
noncomputable def S_celluloidref02_Bit_L0 (x1 : Int) (x2 : Int) : St := mkSt [(5, .v (.int .i64 x1)), (6, .v (.int .i64 x2))] [] 1000 22
noncomputable def at_celluloidref02_Bit_L0 : List Item := (atLoop Tryz.f167 0)
theorem u_celluloidref02_Bit (k : Nat) (a1 : List UInt8) (a2 : Int) : call (k + 1) f_celluloidref02_Bit [.s a1, .i a2] [] =
  (bif (inB (IntKind.wrap .i64 (Int.tdiv a2 (8 : Int))) (List.length a1)) then run k f_celluloidref02_Bit [] at_celluloidref02_Bit_L0 (S_celluloidref02_Bit_L0 ((IntKind.wrap .i64 (bt a1 (IntKind.wrap .i64 (Int.tdiv a2 (8 : Int)))))) ((Int.tmod a2 (8 : Int))))
  else none) := by kernel_rfl
theorem u_celluloidref02_Bit_L0 (k : Nat) (x1 : Int) (x2 : Int) : run (k + 1) f_celluloidref02_Bit [] at_celluloidref02_Bit_L0 (S_celluloidref02_Bit_L0 x1 x2) =
  (bif (decide (x2 < (7 : Int))) then run k f_celluloidref02_Bit [] at_celluloidref02_Bit_L0 (S_celluloidref02_Bit_L0 ((IntKind.wrap .i64 (Int.tdiv x1 (2 : Int)))) ((IntKind.wrap .i64 (x2 + (1 : Int)))))
  else some ([(PV.i (Int.tmod x1 (2 : Int)))], [])) := by kernel_rfl
/- celluloid/celluloidref02.put -/
/- celluloid/celluloidref07.Rect -/
theorem u_celluloidref07_Rect (k : Nat) (a1 : Int) (a2 : Int) (a3 : Int) (a4 : Int) : call (k + 1) f_celluloidref07_Rect [.i a1, .i a2, .i a3, .i a4] [] =
  ((call k f_celluloidref07_in [(PV.i a1), (PV.i (1048576 : Int))] []).bind fun r1 =>
   (bif (((r1).1.getD 0 PV.u)).toB then (call k f_celluloidref07_in [(PV.i a2), (PV.i (1048576 : Int))] []).bind fun r2 =>
   (bif (((r2).1.getD 0 PV.u)).toB then (call k f_celluloidref07_in [(PV.i a3), (PV.i (1048576 : Int))] []).bind fun r3 =>
   (bif (((r3).1.getD 0 PV.u)).toB then (call k f_celluloidref07_in [(PV.i a4), (PV.i (1048576 : Int))] []).bind fun r4 =>
   (bif (((r4).1.getD 0 PV.u)).toB then (bif (decide (a1 ≤ a2)) then some [(PV.b (decide (a3 ≤ a4)))]
   else some [(PV.b false)])
   else some [(PV.b false)])
   else some [(PV.b false)])
   else some [(PV.b false)])
   else some [(PV.b false)])).bind fun r5 =>
  some ([(PV.b ((r5.getD 0 PV.u)).toB)], []) := by kernel_rfl
/- celluloid/field.TakeRect -/
theorem u_field_TakeRect (k : Nat) (a1 : List UInt8) (a2 : Int) : call (k + 1) f_field_TakeRect [.s a1, .i a2] [] =
  (call k f_field_begin [(PV.s a1), (PV.i a2)] []).bind fun r1 =>
  (call k f___celluloid_field_reader__plain [PV.u, (PV.i (5 : Int))] [(t_field_reader, [(PV.s (((((r1).2.getD 0 (0, []))).2.getD 0 PV.u)).toS), (PV.i (((((r1).2.getD 0 (0, []))).2.getD 1 PV.u)).toI), (PV.i (((((r1).2.getD 0 (0, []))).2.getD 2 PV.u)).toI)])]).bind fun r2 =>
  (call k f___celluloid_field_reader__signed [PV.u, (PV.i (((r2).1.getD 0 PV.u)).toI)] [(t_field_reader, [(PV.s (((((r2).2.getD 0 (0, []))).2.getD 0 PV.u)).toS), (PV.i (((((r2).2.getD 0 (0, []))).2.getD 1 PV.u)).toI), (PV.i (((((r2).2.getD 0 (0, []))).2.getD 2 PV.u)).toI)])]).bind fun r3 =>
  (call k f___celluloid_field_reader__signed [PV.u, (PV.i (((r2).1.getD 0 PV.u)).toI)] [(t_field_reader, [(PV.s (((((r3).2.getD 0 (0, []))).2.getD 0 PV.u)).toS), (PV.i (((((r3).2.getD 0 (0, []))).2.getD 1 PV.u)).toI), (PV.i (((((r3).2.getD 0 (0, []))).2.getD 2 PV.u)).toI)])]).bind fun r4 =>
  (call k f___celluloid_field_reader__signed [PV.u, (PV.i (((r2).1.getD 0 PV.u)).toI)] [(t_field_reader, [(PV.s (((((r4).2.getD 0 (0, []))).2.getD 0 PV.u)).toS), (PV.i (((((r4).2.getD 0 (0, []))).2.getD 1 PV.u)).toI), (PV.i (((((r4).2.getD 0 (0, []))).2.getD 2 PV.u)).toI)])]).bind fun r5 =>
  (call k f___celluloid_field_reader__signed [PV.u, (PV.i (((r2).1.getD 0 PV.u)).toI)] [(t_field_reader, [(PV.s (((((r5).2.getD 0 (0, []))).2.getD 0 PV.u)).toS), (PV.i (((((r5).2.getD 0 (0, []))).2.getD 1 PV.u)).toI), (PV.i (((((r5).2.getD 0 (0, []))).2.getD 2 PV.u)).toI)])]).bind fun r6 =>
  (call k f_field_RightRect [(PV.i (((r3).1.getD 0 PV.u)).toI), (PV.i (((r4).1.getD 0 PV.u)).toI), (PV.i (((r5).1.getD 0 PV.u)).toI), (PV.i (((r6).1.getD 0 PV.u)).toI)] []).bind fun r7 =>
  (call k f___celluloid_field_reader__done [PV.u, (PV.b (((r7).1.getD 0 PV.u)).toB)] [(t_field_reader, [(PV.s (((((r6).2.getD 0 (0, []))).2.getD 0 PV.u)).toS), (PV.i (((((r6).2.getD 0 (0, []))).2.getD 1 PV.u)).toI), (PV.i (((((r6).2.getD 0 (0, []))).2.getD 2 PV.u)).toI)])]).bind fun r8 =>
  (bif ((((r8).1.getD 2 PV.u)).toI != (0 : Int)) then some ([(PV.i (0 : Int)), (PV.i (0 : Int)), (PV.i (0 : Int)), (PV.i (0 : Int)), (PV.s (((r8).1.getD 0 PV.u)).toS), (PV.i (((r8).1.getD 1 PV.u)).toI), (PV.i (((r8).1.getD 2 PV.u)).toI)], [])
  else some ([(PV.i (((r3).1.getD 0 PV.u)).toI), (PV.i (((r4).1.getD 0 PV.u)).toI), (PV.i (((r5).1.getD 0 PV.u)).toI), (PV.i (((r6).1.getD 0 PV.u)).toI), (PV.s (((r8).1.getD 0 PV.u)).toS), (PV.i (((r8).1.getD 1 PV.u)).toI), (PV.i (0 : Int))], [])) := by kernel_rfl
/- celluloid/celluloidref02.Little -/
noncomputable def S_celluloidref02_Little_L0 (x1 : List UInt8) (x2 : Int) (x3 : Int) (x4 : Int) (x5 : List UInt8) (x6 : Int) (x7 : List UInt8) (x8 : Int) : St := mkSt [(5, .v (.ptr (.n 1 2 0) 0)), (7, .v (.str x1)), (8, .v (.ptr (.n 3 7 0) 0)), (9, .v (.int .i64 x2)), (10, .v (.int .i64 x3)), (11, .v (.int .i64 x4))] [((.n 1 2 0), .cells 36 [.str x5, .int .i64 x6]), ((.n 3 7 0), .cells 36 [.str x7, .int .i64 x8])] 1000 45
noncomputable def at_celluloidref02_Little_L0 : List Item := (atLoop Tryz.f64 0)
theorem u_celluloidref02_Little (k : Nat) (a1 : List UInt8) (a2 : Int) (a3 : Int) : call (k + 1) f_celluloidref02_Little [.s a1, .i a2, .i a3] [] =
  ((bif (decide (a3 < (1 : Int))) then some [(PV.b true)]
   else some [(PV.b (decide (a3 > (4 : Int))))])).bind fun r1 =>
  (bif ((r1.getD 0 PV.u)).toB then some ([(PV.i (0 : Int)), (PV.s []), (PV.i (0 : Int)), (PV.i (1 : Int))], [])
  else (call k f_celluloidref02_Bytes [(PV.s a1), (PV.i a2), (PV.i a3)] []).bind fun r2 =>
  run k f_celluloidref02_Little [] at_celluloidref02_Little_L0 (S_celluloidref02_Little_L0 ((((r2).1.getD 0 PV.u)).toS) ((((r2).1.getD 3 PV.u)).toI) ((0 : Int)) ((0 : Int)) ([]) ((0 : Int)) ((((r2).1.getD 1 PV.u)).toS) ((((r2).1.getD 2 PV.u)).toI))) := by kernel_rfl
theorem u_celluloidref02_Little_L0 (k : Nat) (x1 : List UInt8) (x2 : Int) (x3 : Int) (x4 : Int) (x5 : List UInt8) (x6 : Int) (x7 : List UInt8) (x8 : Int) : run (k + 1) f_celluloidref02_Little [] at_celluloidref02_Little_L0 (S_celluloidref02_Little_L0 x1 x2 x3 x4 x5 x6 x7 x8) =
  (bif (decide (x4 < (((List.length x1) : Nat) : Int))) then (bif (inB x4 (List.length x1)) then (call k f_celluloidref02_Power [(PV.i (IntKind.wrap .i64 ((8 : Int) * x4)))] []).bind fun r3 =>
  run k f_celluloidref02_Little [] at_celluloidref02_Little_L0 (S_celluloidref02_Little_L0 (x1) (x2) ((IntKind.wrap .i64 (x3 + (IntKind.wrap .i64 ((IntKind.wrap .i64 (bt x1 x4)) * (((r3).1.getD 0 PV.u)).toI))))) ((IntKind.wrap .i64 (x4 + (1 : Int)))) (x5) (x6) (x7) (x8))
  else none)
  else some ([(PV.i x3), (PV.s x7), (PV.i x8), (PV.i x2)], [])) := by kernel_rfl
/- celluloid/celluloidref07.Begin -/
theorem u_celluloidref07_Begin (k : Nat) (a1 : List UInt8) (a2 : Int) : call (k + 1) f_celluloidref07_Begin [.s a1, .i a2] [] =
  (call k f_celluloidref02_Right [(PV.s a1), (PV.i a2)] []).bind fun r1 =>
  (bif (!(((r1).1.getD 0 PV.u)).toB) then some ([(PV.s []), (PV.i (0 : Int)), (PV.i (1 : Int))], [])
  else (call k f_celluloidref02_Align [(PV.s a1), (PV.i a2)] []).bind fun r2 =>
  some ([(PV.s (((r2).1.getD 0 PV.u)).toS), (PV.i (((r2).1.getD 1 PV.u)).toI), (PV.i (0 : Int))], [])) := by kernel_rfl
/- celluloid/field.PutMatrix -/
/- celluloid/bits.Bytes -/
theorem u_bits_Bytes (k : Nat) (a1 : List UInt8) (a2 : Int) (a3 : Int) : call (k + 1) f_bits_Bytes [.s a1, .i a2, .i a3] [] =
  ((call k f_bits_right [(PV.s a1), (PV.i a2)] []).bind fun r1 =>
   (bif (!(((r1).1.getD 0 PV.u)).toB) then some [(PV.b true)]
   else some [(PV.b (decide (a3 < (0 : Int))))])).bind fun r2 =>
  (bif ((r2.getD 0 PV.u)).toB then some ([(PV.s []), (PV.s []), (PV.i (0 : Int)), (PV.i (1 : Int))], [])
  else (call k f_bits_Align [(PV.s a1), (PV.i a2)] []).bind fun r3 =>
  (bif (decide (a3 > (IntKind.wrap .i64 ((((List.length a1) : Nat) : Int) - (IntKind.wrap .i64 (Int.tdiv (((r3).1.getD 1 PV.u)).toI (8 : Int))))))) then some ([(PV.s []), (PV.s []), (PV.i (0 : Int)), (PV.i (2 : Int))], [])
  else (bif (okB (IntKind.wrap .i64 (Int.tdiv (((r3).1.getD 1 PV.u)).toI (8 : Int))) (IntKind.wrap .i64 ((IntKind.wrap .i64 (Int.tdiv (((r3).1.getD 1 PV.u)).toI (8 : Int))) + a3)) (List.length a1)) then some ([(PV.s (cutL (IntKind.wrap .i64 (Int.tdiv (((r3).1.getD 1 PV.u)).toI (8 : Int))) (IntKind.wrap .i64 ((IntKind.wrap .i64 (Int.tdiv (((r3).1.getD 1 PV.u)).toI (8 : Int))) + a3)) a1)), (PV.s a1), (PV.i (IntKind.wrap .i64 ((8 : Int) * (IntKind.wrap .i64 ((IntKind.wrap .i64 (Int.tdiv (((r3).1.getD 1 PV.u)).toI (8 : Int))) + a3))))), (PV.i (0 : Int))], [])
  else none))) := by kernel_rfl
/- (*celluloid/field.reader).done -/
theorem u___celluloid_field_reader__done (k : Nat) (a2 : Bool) (p0_1 : List UInt8) (p0_2 : Int) (p0_3 : Int) : call (k + 1) f___celluloid_field_reader__done [.u, .b a2] [(t_field_reader, [.s p0_1, .i p0_2, .i p0_3])] =
  (bif (p0_3 != (0 : Int)) then some ([(PV.s []), (PV.i (0 : Int)), (PV.i p0_3)], [(t_field_reader, [(PV.s p0_1), (PV.i p0_2), (PV.i p0_3)])])
  else (bif (!a2) then some ([(PV.s []), (PV.i (0 : Int)), (PV.i (3 : Int))], [(t_field_reader, [(PV.s p0_1), (PV.i p0_2), (PV.i p0_3)])])
  else (call k f_bits_Align [(PV.s p0_1), (PV.i p0_2)] []).bind fun r1 =>
  some ([(PV.s (((r1).1.getD 0 PV.u)).toS), (PV.i (((r1).1.getD 1 PV.u)).toI), (PV.i (0 : Int))], [(t_field_reader, [(PV.s p0_1), (PV.i p0_2), (PV.i p0_3)])]))) := by kernel_rfl
/- celluloid/celluloidref02.Power -/
noncomputable def S_celluloidref02_Power_L0 (x1 : Int) (x2 : Int) (x3 : Int) : St := mkSt [(0, .v (.int .i64 x1)), (3, .v (.int .i64 x2)), (4, .v (.int .i64 x3))] [] 1000 13
noncomputable def at_celluloidref02_Power_L0 : List Item := (atLoop Tryz.f120 0)
theorem u_celluloidref02_Power (k : Nat) (a1 : Int) : call (k + 1) f_celluloidref02_Power [.i a1] [] =
  run k f_celluloidref02_Power [] at_celluloidref02_Power_L0 (S_celluloidref02_Power_L0 (a1) ((1 : Int)) ((0 : Int))) := by kernel_rfl
theorem u_celluloidref02_Power_L0 (k : Nat) (x1 : Int) (x2 : Int) (x3 : Int) : run (k + 1) f_celluloidref02_Power [] at_celluloidref02_Power_L0 (S_celluloidref02_Power_L0 x1 x2 x3) =
  (bif (decide (x3 < x1)) then run k f_celluloidref02_Power [] at_celluloidref02_Power_L0 (S_celluloidref02_Power_L0 (x1) ((IntKind.wrap .i64 (x2 * (2 : Int)))) ((IntKind.wrap .i64 (x3 + (1 : Int)))))
  else some ([(PV.i x2)], [])) := by kernel_rfl
/- celluloid/celluloidref02.Right -/
theorem u_celluloidref02_Right (k : Nat) (a1 : List UInt8) (a2 : Int) : call (k + 1) f_celluloidref02_Right [.s a1, .i a2] [] =
  ((bif (decide (a2 ≥ (0 : Int))) then some [(PV.b (decide (a2 ≤ (IntKind.wrap .i64 ((8 : Int) * (((List.length a1) : Nat) : Int))))))]
   else some [(PV.b false)])).bind fun r1 =>
  some ([(PV.b ((r1.getD 0 PV.u)).toB)], []) := by kernel_rfl
/- celluloid/bits.Width -/
/- (*celluloid/field.writer).flag -/
/- celluloid/celluloidref02.Width -/
/- celluloid/bits.right -/
theorem u_bits_right (k : Nat) (a1 : List UInt8) (a2 : Int) : call (k + 1) f_bits_right [.s a1, .i a2] [] =
  ((bif (decide (a2 ≥ (0 : Int))) then some [(PV.b (decide (a2 ≤ (IntKind.wrap .i64 ((8 : Int) * (((List.length a1) : Nat) : Int))))))]
   else some [(PV.b false)])).bind fun r1 =>
  some ([(PV.b ((r1.getD 0 PV.u)).toB)], []) := by kernel_rfl
/- celluloid/celluloidref02.Signed -/
theorem u_celluloidref02_Signed (k : Nat) (a1 : List UInt8) (a2 : Int) (a3 : Int) : call (k + 1) f_celluloidref02_Signed [.s a1, .i a2, .i a3] [] =
  (call k f_celluloidref02_Plain [(PV.s a1), (PV.i a2), (PV.i a3)] []).bind fun r1 =>
  ((bif ((((r1).1.getD 3 PV.u)).toI == (0 : Int)) then (bif (decide (a3 > (0 : Int))) then (call k f_celluloidref02_Power [(PV.i a3)] []).bind fun r2 =>
   some [(PV.b (decide ((IntKind.wrap .i64 ((2 : Int) * (((r1).1.getD 0 PV.u)).toI)) ≥ (((r2).1.getD 0 PV.u)).toI)))]
   else some [(PV.b false)])
   else some [(PV.b false)])).bind fun r3 =>
  (bif ((r3.getD 0 PV.u)).toB then (call k f_celluloidref02_Power [(PV.i a3)] []).bind fun r4 =>
  some ([(PV.i (IntKind.wrap .i64 ((((r1).1.getD 0 PV.u)).toI - (((r4).1.getD 0 PV.u)).toI))), (PV.s (((r1).1.getD 1 PV.u)).toS), (PV.i (((r1).1.getD 2 PV.u)).toI), (PV.i (((r1).1.getD 3 PV.u)).toI)], [])
  else some ([(PV.i (((r1).1.getD 0 PV.u)).toI), (PV.s (((r1).1.getD 1 PV.u)).toS), (PV.i (((r1).1.getD 2 PV.u)).toI), (PV.i (((r1).1.getD 3 PV.u)).toI)], [])) := by kernel_rfl
/- math/bits.Len32 -/
/- celluloid/bits.PutLittle -/
/- celluloid/field.PutRGBA -/
/- celluloid/celluloidref07.PutRGBA -/
/- celluloid/celluloidref07.PutRect -/
/- celluloid/celluloidref07.TakeRect -/
theorem u_celluloidref07_TakeRect (k : Nat) (a1 : List UInt8) (a2 : Int) : call (k + 1) f_celluloidref07_TakeRect [.s a1, .i a2] [] =
  (call k f_celluloidref07_Begin [(PV.s a1), (PV.i a2)] []).bind fun r1 =>
  (call k f_celluloidref07_several [(PV.s (((r1).1.getD 0 PV.u)).toS), (PV.i (((r1).1.getD 1 PV.u)).toI), (PV.i (((r1).1.getD 2 PV.u)).toI), (PV.i (5 : Int)), (PV.i (4 : Int))] []).bind fun r2 =>
  (bif (inB (0 : Int) (List.length (((r2).1.getD 0 PV.u)).toL)) then (bif (inB (1 : Int) (List.length (((r2).1.getD 0 PV.u)).toL)) then (bif (inB (2 : Int) (List.length (((r2).1.getD 0 PV.u)).toL)) then (bif (inB (3 : Int) (List.length (((r2).1.getD 0 PV.u)).toL)) then (call k f_celluloidref07_Rect [(PV.i (((elemAt (((r2).1.getD 0 PV.u)).toL (0 : Int)).getD 0 PV.u)).toI), (PV.i (((elemAt (((r2).1.getD 0 PV.u)).toL (1 : Int)).getD 0 PV.u)).toI), (PV.i (((elemAt (((r2).1.getD 0 PV.u)).toL (2 : Int)).getD 0 PV.u)).toI), (PV.i (((elemAt (((r2).1.getD 0 PV.u)).toL (3 : Int)).getD 0 PV.u)).toI)] []).bind fun r3 =>
  (call k f_celluloidref07_Done [(PV.s (((r2).1.getD 1 PV.u)).toS), (PV.i (((r2).1.getD 2 PV.u)).toI), (PV.i (((r2).1.getD 3 PV.u)).toI), (PV.b (((r3).1.getD 0 PV.u)).toB)] []).bind fun r4 =>
  (bif ((((r4).1.getD 2 PV.u)).toI != (0 : Int)) then some ([(PV.i (0 : Int)), (PV.i (0 : Int)), (PV.i (0 : Int)), (PV.i (0 : Int)), (PV.s (((r4).1.getD 0 PV.u)).toS), (PV.i (((r4).1.getD 1 PV.u)).toI), (PV.i (((r4).1.getD 2 PV.u)).toI)], [])
  else some ([(PV.i (((elemAt (((r2).1.getD 0 PV.u)).toL (0 : Int)).getD 0 PV.u)).toI), (PV.i (((elemAt (((r2).1.getD 0 PV.u)).toL (1 : Int)).getD 0 PV.u)).toI), (PV.i (((elemAt (((r2).1.getD 0 PV.u)).toL (2 : Int)).getD 0 PV.u)).toI), (PV.i (((elemAt (((r2).1.getD 0 PV.u)).toL (3 : Int)).getD 0 PV.u)).toI), (PV.s (((r4).1.getD 0 PV.u)).toS), (PV.i (((r4).1.getD 1 PV.u)).toI), (PV.i (((r4).1.getD 2 PV.u)).toI)], []))
  else none)
  else none)
  else none)
  else none) := by kernel_rfl
/- celluloid/celluloidref07.Plain -/
theorem u_celluloidref07_Plain (k : Nat) (a1 : List UInt8) (a2 : Int) (a3 : Int) (a4 : Int) : call (k + 1) f_celluloidref07_Plain [.s a1, .i a2, .i a3, .i a4] [] =
  (bif (a3 != (0 : Int)) then some ([(PV.i (0 : Int)), (PV.s a1), (PV.i a2), (PV.i a3)], [])
  else (call k f_celluloidref02_Plain [(PV.s a1), (PV.i a2), (PV.i a4)] []).bind fun r1 =>
  some ([(PV.i (((r1).1.getD 0 PV.u)).toI), (PV.s (((r1).1.getD 1 PV.u)).toS), (PV.i (((r1).1.getD 2 PV.u)).toI), (PV.i (((r1).1.getD 3 PV.u)).toI)], [])) := by kernel_rfl
/- celluloid/bits.PutAlign -/
/- celluloid/field.RightRGBA -/
/- celluloid/celluloidref07.in -/
theorem u_celluloidref07_in (k : Nat) (a1 : Int) (a2 : Int) : call (k + 1) f_celluloidref07_in [.i a1, .i a2] [] =
  ((bif (decide (a1 ≥ (IntKind.wrap .i64 ((0 : Int) - a2)))) then some [(PV.b (decide (a1 ≤ a2)))]
   else some [(PV.b false)])).bind fun r1 =>
  some ([(PV.b ((r1.getD 0 PV.u)).toB)], []) := by kernel_rfl
/- celluloid/field.within -/
noncomputable def S_field_within_L0 (x1 : Int) (x2 : Int) (x3 : List (List PV)) (x4 : Int) (x5 : Int) : St := mkSt [(0, .v (.int .i64 x1)), (1, .v (.int .i64 x2)), (9, .v (.sl 3 x3)), (10, .v (.int .i64 x4)), (11, .v (.int .i64 x5)), (19, .any), (20, .any), (21, .any)] [] 1000 24
noncomputable def at_field_within_L0 : List Item := (atLoop Tryz.f89 0)
theorem u_field_within (k : Nat) (a1 : Int) (a2 : Int) (a3 : List (List PV)) : call (k + 1) f_field_within [.i a1, .i a2, .l a3] [] =
  run k f_field_within [] at_field_within_L0 (S_field_within_L0 (a1) (a2) (a3) ((((List.length a3) : Nat) : Int)) ((0 : Int))) := by kernel_rfl
theorem u_field_within_L0 (k : Nat) (x1 : Int) (x2 : Int) (x3 : List (List PV)) (x4 : Int) (x5 : Int) : run (k + 1) f_field_within [] at_field_within_L0 (S_field_within_L0 x1 x2 x3 x4 x5) =
  (bif (decide (x5 < x4)) then (bif (inB x5 (List.length x3)) then ((bif (decide ((((elemAt x3 x5).getD 0 PV.u)).toI < x1)) then some [(PV.b true)]
   else some [(PV.b (decide ((((elemAt x3 x5).getD 0 PV.u)).toI > x2)))])).bind fun r1 =>
  (bif ((r1.getD 0 PV.u)).toB then some ([(PV.b false)], [])
  else run k f_field_within [] at_field_within_L0 (S_field_within_L0 (x1) (x2) (x3) (x4) ((IntKind.wrap .i64 (x5 + (1 : Int))))))
  else none)
  else some ([(PV.b true)], [])) := by kernel_rfl
/- celluloid/field.begin -/
theorem u_field_begin (k : Nat) (a1 : List UInt8) (a2 : Int) : call (k + 1) f_field_begin [.s a1, .i a2] [] =
  (call k f_bits_Plain [(PV.s a1), (PV.i a2), (PV.i (0 : Int))] []).bind fun r1 =>
  (call k f_bits_Align [(PV.s a1), (PV.i a2)] []).bind fun r2 =>
  some ([PV.u], [(t_field_reader, [(PV.s (((r2).1.getD 0 PV.u)).toS), (PV.i (((r2).1.getD 1 PV.u)).toI), (PV.i (((r1).1.getD 3 PV.u)).toI)])]) := by kernel_rfl
/- celluloid/field.TakeMatrix -/
theorem u_field_TakeMatrix (k : Nat) (a1 : List UInt8) (a2 : Int) : call (k + 1) f_field_TakeMatrix [.s a1, .i a2] [] =
  (call k f_field_begin [(PV.s a1), (PV.i a2)] []).bind fun r1 =>
  (call k f_field_Same [] []).bind fun r2 =>
  (call k f___celluloid_field_reader__plain [PV.u, (PV.i (1 : Int))] [(t_field_reader, [(PV.s (((((r1).2.getD 0 (0, []))).2.getD 0 PV.u)).toS), (PV.i (((((r1).2.getD 0 (0, []))).2.getD 1 PV.u)).toI), (PV.i (((((r1).2.getD 0 (0, []))).2.getD 2 PV.u)).toI)])]).bind fun r3 =>
  (bif ((((r3).1.getD 0 PV.u)).toI == (1 : Int)) then (call k f___celluloid_field_reader__plain [PV.u, (PV.i (5 : Int))] [(t_field_reader, [(PV.s (((((r3).2.getD 0 (0, []))).2.getD 0 PV.u)).toS), (PV.i (((((r3).2.getD 0 (0, []))).2.getD 1 PV.u)).toI), (PV.i (((((r3).2.getD 0 (0, []))).2.getD 2 PV.u)).toI)])]).bind fun r4 =>
  (call k f___celluloid_field_reader__signed [PV.u, (PV.i (((r4).1.getD 0 PV.u)).toI)] [(t_field_reader, [(PV.s (((((r4).2.getD 0 (0, []))).2.getD 0 PV.u)).toS), (PV.i (((((r4).2.getD 0 (0, []))).2.getD 1 PV.u)).toI), (PV.i (((((r4).2.getD 0 (0, []))).2.getD 2 PV.u)).toI)])]).bind fun r5 =>
  (call k f___celluloid_field_reader__signed [PV.u, (PV.i (((r4).1.getD 0 PV.u)).toI)] [(t_field_reader, [(PV.s (((((r5).2.getD 0 (0, []))).2.getD 0 PV.u)).toS), (PV.i (((((r5).2.getD 0 (0, []))).2.getD 1 PV.u)).toI), (PV.i (((((r5).2.getD 0 (0, []))).2.getD 2 PV.u)).toI)])]).bind fun r6 =>
  (call k f___celluloid_field_reader__plain [PV.u, (PV.i (1 : Int))] [(t_field_reader, [(PV.s (((((r6).2.getD 0 (0, []))).2.getD 0 PV.u)).toS), (PV.i (((((r6).2.getD 0 (0, []))).2.getD 1 PV.u)).toI), (PV.i (((((r6).2.getD 0 (0, []))).2.getD 2 PV.u)).toI)])]).bind fun r7 =>
  (bif ((((r7).1.getD 0 PV.u)).toI == (1 : Int)) then (call k f___celluloid_field_reader__plain [PV.u, (PV.i (5 : Int))] [(t_field_reader, [(PV.s (((((r7).2.getD 0 (0, []))).2.getD 0 PV.u)).toS), (PV.i (((((r7).2.getD 0 (0, []))).2.getD 1 PV.u)).toI), (PV.i (((((r7).2.getD 0 (0, []))).2.getD 2 PV.u)).toI)])]).bind fun r8 =>
  (call k f___celluloid_field_reader__signed [PV.u, (PV.i (((r8).1.getD 0 PV.u)).toI)] [(t_field_reader, [(PV.s (((((r8).2.getD 0 (0, []))).2.getD 0 PV.u)).toS), (PV.i (((((r8).2.getD 0 (0, []))).2.getD 1 PV.u)).toI), (PV.i (((((r8).2.getD 0 (0, []))).2.getD 2 PV.u)).toI)])]).bind fun r9 =>
  (call k f___celluloid_field_reader__signed [PV.u, (PV.i (((r8).1.getD 0 PV.u)).toI)] [(t_field_reader, [(PV.s (((((r9).2.getD 0 (0, []))).2.getD 0 PV.u)).toS), (PV.i (((((r9).2.getD 0 (0, []))).2.getD 1 PV.u)).toI), (PV.i (((((r9).2.getD 0 (0, []))).2.getD 2 PV.u)).toI)])]).bind fun r10 =>
  (call k f___celluloid_field_reader__plain [PV.u, (PV.i (5 : Int))] [(t_field_reader, [(PV.s (((((r10).2.getD 0 (0, []))).2.getD 0 PV.u)).toS), (PV.i (((((r10).2.getD 0 (0, []))).2.getD 1 PV.u)).toI), (PV.i (((((r10).2.getD 0 (0, []))).2.getD 2 PV.u)).toI)])]).bind fun r11 =>
  (call k f___celluloid_field_reader__signed [PV.u, (PV.i (((r11).1.getD 0 PV.u)).toI)] [(t_field_reader, [(PV.s (((((r11).2.getD 0 (0, []))).2.getD 0 PV.u)).toS), (PV.i (((((r11).2.getD 0 (0, []))).2.getD 1 PV.u)).toI), (PV.i (((((r11).2.getD 0 (0, []))).2.getD 2 PV.u)).toI)])]).bind fun r12 =>
  (call k f___celluloid_field_reader__signed [PV.u, (PV.i (((r11).1.getD 0 PV.u)).toI)] [(t_field_reader, [(PV.s (((((r12).2.getD 0 (0, []))).2.getD 0 PV.u)).toS), (PV.i (((((r12).2.getD 0 (0, []))).2.getD 1 PV.u)).toI), (PV.i (((((r12).2.getD 0 (0, []))).2.getD 2 PV.u)).toI)])]).bind fun r13 =>
  (call k f_field_RightMatrix [(PV.i (((r5).1.getD 0 PV.u)).toI), (PV.i (((r9).1.getD 0 PV.u)).toI), (PV.i (((r10).1.getD 0 PV.u)).toI), (PV.i (((r6).1.getD 0 PV.u)).toI), (PV.i (((r12).1.getD 0 PV.u)).toI), (PV.i (((r13).1.getD 0 PV.u)).toI)] []).bind fun r14 =>
  (call k f___celluloid_field_reader__done [PV.u, (PV.b (((r14).1.getD 0 PV.u)).toB)] [(t_field_reader, [(PV.s (((((r13).2.getD 0 (0, []))).2.getD 0 PV.u)).toS), (PV.i (((((r13).2.getD 0 (0, []))).2.getD 1 PV.u)).toI), (PV.i (((((r13).2.getD 0 (0, []))).2.getD 2 PV.u)).toI)])]).bind fun r15 =>
  (bif ((((r15).1.getD 2 PV.u)).toI != (0 : Int)) then some ([(PV.i (0 : Int)), (PV.i (0 : Int)), (PV.i (0 : Int)), (PV.i (0 : Int)), (PV.i (0 : Int)), (PV.i (0 : Int)), (PV.s (((r15).1.getD 0 PV.u)).toS), (PV.i (((r15).1.getD 1 PV.u)).toI), (PV.i (((r15).1.getD 2 PV.u)).toI)], [])
  else some ([(PV.i (((r5).1.getD 0 PV.u)).toI), (PV.i (((r9).1.getD 0 PV.u)).toI), (PV.i (((r10).1.getD 0 PV.u)).toI), (PV.i (((r6).1.getD 0 PV.u)).toI), (PV.i (((r12).1.getD 0 PV.u)).toI), (PV.i (((r13).1.getD 0 PV.u)).toI), (PV.s (((r15).1.getD 0 PV.u)).toS), (PV.i (((r15).1.getD 1 PV.u)).toI), (PV.i (0 : Int))], []))
  else (call k f___celluloid_field_reader__plain [PV.u, (PV.i (5 : Int))] [(t_field_reader, [(PV.s (((((r7).2.getD 0 (0, []))).2.getD 0 PV.u)).toS), (PV.i (((((r7).2.getD 0 (0, []))).2.getD 1 PV.u)).toI), (PV.i (((((r7).2.getD 0 (0, []))).2.getD 2 PV.u)).toI)])]).bind fun r16 =>
  (call k f___celluloid_field_reader__signed [PV.u, (PV.i (((r16).1.getD 0 PV.u)).toI)] [(t_field_reader, [(PV.s (((((r16).2.getD 0 (0, []))).2.getD 0 PV.u)).toS), (PV.i (((((r16).2.getD 0 (0, []))).2.getD 1 PV.u)).toI), (PV.i (((((r16).2.getD 0 (0, []))).2.getD 2 PV.u)).toI)])]).bind fun r17 =>
  (call k f___celluloid_field_reader__signed [PV.u, (PV.i (((r16).1.getD 0 PV.u)).toI)] [(t_field_reader, [(PV.s (((((r17).2.getD 0 (0, []))).2.getD 0 PV.u)).toS), (PV.i (((((r17).2.getD 0 (0, []))).2.getD 1 PV.u)).toI), (PV.i (((((r17).2.getD 0 (0, []))).2.getD 2 PV.u)).toI)])]).bind fun r18 =>
  (call k f_field_RightMatrix [(PV.i (((r5).1.getD 0 PV.u)).toI), (PV.i (((r2).1.getD 1 PV.u)).toI), (PV.i (((r2).1.getD 2 PV.u)).toI), (PV.i (((r6).1.getD 0 PV.u)).toI), (PV.i (((r17).1.getD 0 PV.u)).toI), (PV.i (((r18).1.getD 0 PV.u)).toI)] []).bind fun r19 =>
  (call k f___celluloid_field_reader__done [PV.u, (PV.b (((r19).1.getD 0 PV.u)).toB)] [(t_field_reader, [(PV.s (((((r18).2.getD 0 (0, []))).2.getD 0 PV.u)).toS), (PV.i (((((r18).2.getD 0 (0, []))).2.getD 1 PV.u)).toI), (PV.i (((((r18).2.getD 0 (0, []))).2.getD 2 PV.u)).toI)])]).bind fun r20 =>
  (bif ((((r20).1.getD 2 PV.u)).toI != (0 : Int)) then some ([(PV.i (0 : Int)), (PV.i (0 : Int)), (PV.i (0 : Int)), (PV.i (0 : Int)), (PV.i (0 : Int)), (PV.i (0 : Int)), (PV.s (((r20).1.getD 0 PV.u)).toS), (PV.i (((r20).1.getD 1 PV.u)).toI), (PV.i (((r20).1.getD 2 PV.u)).toI)], [])
  else some ([(PV.i (((r5).1.getD 0 PV.u)).toI), (PV.i (((r2).1.getD 1 PV.u)).toI), (PV.i (((r2).1.getD 2 PV.u)).toI), (PV.i (((r6).1.getD 0 PV.u)).toI), (PV.i (((r17).1.getD 0 PV.u)).toI), (PV.i (((r18).1.getD 0 PV.u)).toI), (PV.s (((r20).1.getD 0 PV.u)).toS), (PV.i (((r20).1.getD 1 PV.u)).toI), (PV.i (0 : Int))], [])))
  else (call k f___celluloid_field_reader__plain [PV.u, (PV.i (1 : Int))] [(t_field_reader, [(PV.s (((((r3).2.getD 0 (0, []))).2.getD 0 PV.u)).toS), (PV.i (((((r3).2.getD 0 (0, []))).2.getD 1 PV.u)).toI), (PV.i (((((r3).2.getD 0 (0, []))).2.getD 2 PV.u)).toI)])]).bind fun r21 =>
  (bif ((((r21).1.getD 0 PV.u)).toI == (1 : Int)) then (call k f___celluloid_field_reader__plain [PV.u, (PV.i (5 : Int))] [(t_field_reader, [(PV.s (((((r21).2.getD 0 (0, []))).2.getD 0 PV.u)).toS), (PV.i (((((r21).2.getD 0 (0, []))).2.getD 1 PV.u)).toI), (PV.i (((((r21).2.getD 0 (0, []))).2.getD 2 PV.u)).toI)])]).bind fun r22 =>
  (call k f___celluloid_field_reader__signed [PV.u, (PV.i (((r22).1.getD 0 PV.u)).toI)] [(t_field_reader, [(PV.s (((((r22).2.getD 0 (0, []))).2.getD 0 PV.u)).toS), (PV.i (((((r22).2.getD 0 (0, []))).2.getD 1 PV.u)).toI), (PV.i (((((r22).2.getD 0 (0, []))).2.getD 2 PV.u)).toI)])]).bind fun r23 =>
  (call k f___celluloid_field_reader__signed [PV.u, (PV.i (((r22).1.getD 0 PV.u)).toI)] [(t_field_reader, [(PV.s (((((r23).2.getD 0 (0, []))).2.getD 0 PV.u)).toS), (PV.i (((((r23).2.getD 0 (0, []))).2.getD 1 PV.u)).toI), (PV.i (((((r23).2.getD 0 (0, []))).2.getD 2 PV.u)).toI)])]).bind fun r24 =>
  (call k f___celluloid_field_reader__plain [PV.u, (PV.i (5 : Int))] [(t_field_reader, [(PV.s (((((r24).2.getD 0 (0, []))).2.getD 0 PV.u)).toS), (PV.i (((((r24).2.getD 0 (0, []))).2.getD 1 PV.u)).toI), (PV.i (((((r24).2.getD 0 (0, []))).2.getD 2 PV.u)).toI)])]).bind fun r25 =>
  (call k f___celluloid_field_reader__signed [PV.u, (PV.i (((r25).1.getD 0 PV.u)).toI)] [(t_field_reader, [(PV.s (((((r25).2.getD 0 (0, []))).2.getD 0 PV.u)).toS), (PV.i (((((r25).2.getD 0 (0, []))).2.getD 1 PV.u)).toI), (PV.i (((((r25).2.getD 0 (0, []))).2.getD 2 PV.u)).toI)])]).bind fun r26 =>
  (call k f___celluloid_field_reader__signed [PV.u, (PV.i (((r25).1.getD 0 PV.u)).toI)] [(t_field_reader, [(PV.s (((((r26).2.getD 0 (0, []))).2.getD 0 PV.u)).toS), (PV.i (((((r26).2.getD 0 (0, []))).2.getD 1 PV.u)).toI), (PV.i (((((r26).2.getD 0 (0, []))).2.getD 2 PV.u)).toI)])]).bind fun r27 =>
  (call k f_field_RightMatrix [(PV.i (((r2).1.getD 0 PV.u)).toI), (PV.i (((r23).1.getD 0 PV.u)).toI), (PV.i (((r24).1.getD 0 PV.u)).toI), (PV.i (((r2).1.getD 3 PV.u)).toI), (PV.i (((r26).1.getD 0 PV.u)).toI), (PV.i (((r27).1.getD 0 PV.u)).toI)] []).bind fun r28 =>
  (call k f___celluloid_field_reader__done [PV.u, (PV.b (((r28).1.getD 0 PV.u)).toB)] [(t_field_reader, [(PV.s (((((r27).2.getD 0 (0, []))).2.getD 0 PV.u)).toS), (PV.i (((((r27).2.getD 0 (0, []))).2.getD 1 PV.u)).toI), (PV.i (((((r27).2.getD 0 (0, []))).2.getD 2 PV.u)).toI)])]).bind fun r29 =>
  (bif ((((r29).1.getD 2 PV.u)).toI != (0 : Int)) then some ([(PV.i (0 : Int)), (PV.i (0 : Int)), (PV.i (0 : Int)), (PV.i (0 : Int)), (PV.i (0 : Int)), (PV.i (0 : Int)), (PV.s (((r29).1.getD 0 PV.u)).toS), (PV.i (((r29).1.getD 1 PV.u)).toI), (PV.i (((r29).1.getD 2 PV.u)).toI)], [])
  else some ([(PV.i (((r2).1.getD 0 PV.u)).toI), (PV.i (((r23).1.getD 0 PV.u)).toI), (PV.i (((r24).1.getD 0 PV.u)).toI), (PV.i (((r2).1.getD 3 PV.u)).toI), (PV.i (((r26).1.getD 0 PV.u)).toI), (PV.i (((r27).1.getD 0 PV.u)).toI), (PV.s (((r29).1.getD 0 PV.u)).toS), (PV.i (((r29).1.getD 1 PV.u)).toI), (PV.i (0 : Int))], []))
  else (call k f___celluloid_field_reader__plain [PV.u, (PV.i (5 : Int))] [(t_field_reader, [(PV.s (((((r21).2.getD 0 (0, []))).2.getD 0 PV.u)).toS), (PV.i (((((r21).2.getD 0 (0, []))).2.getD 1 PV.u)).toI), (PV.i (((((r21).2.getD 0 (0, []))).2.getD 2 PV.u)).toI)])]).bind fun r30 =>
  (call k f___celluloid_field_reader__signed [PV.u, (PV.i (((r30).1.getD 0 PV.u)).toI)] [(t_field_reader, [(PV.s (((((r30).2.getD 0 (0, []))).2.getD 0 PV.u)).toS), (PV.i (((((r30).2.getD 0 (0, []))).2.getD 1 PV.u)).toI), (PV.i (((((r30).2.getD 0 (0, []))).2.getD 2 PV.u)).toI)])]).bind fun r31 =>
  (call k f___celluloid_field_reader__signed [PV.u, (PV.i (((r30).1.getD 0 PV.u)).toI)] [(t_field_reader, [(PV.s (((((r31).2.getD 0 (0, []))).2.getD 0 PV.u)).toS), (PV.i (((((r31).2.getD 0 (0, []))).2.getD 1 PV.u)).toI), (PV.i (((((r31).2.getD 0 (0, []))).2.getD 2 PV.u)).toI)])]).bind fun r32 =>
  (call k f_field_RightMatrix [(PV.i (((r2).1.getD 0 PV.u)).toI), (PV.i (((r2).1.getD 1 PV.u)).toI), (PV.i (((r2).1.getD 2 PV.u)).toI), (PV.i (((r2).1.getD 3 PV.u)).toI), (PV.i (((r31).1.getD 0 PV.u)).toI), (PV.i (((r32).1.getD 0 PV.u)).toI)] []).bind fun r33 =>
  (call k f___celluloid_field_reader__done [PV.u, (PV.b (((r33).1.getD 0 PV.u)).toB)] [(t_field_reader, [(PV.s (((((r32).2.getD 0 (0, []))).2.getD 0 PV.u)).toS), (PV.i (((((r32).2.getD 0 (0, []))).2.getD 1 PV.u)).toI), (PV.i (((((r32).2.getD 0 (0, []))).2.getD 2 PV.u)).toI)])]).bind fun r34 =>
  (bif ((((r34).1.getD 2 PV.u)).toI != (0 : Int)) then some ([(PV.i (0 : Int)), (PV.i (0 : Int)), (PV.i (0 : Int)), (PV.i (0 : Int)), (PV.i (0 : Int)), (PV.i (0 : Int)), (PV.s (((r34).1.getD 0 PV.u)).toS), (PV.i (((r34).1.getD 1 PV.u)).toI), (PV.i (((r34).1.getD 2 PV.u)).toI)], [])
  else some ([(PV.i (((r2).1.getD 0 PV.u)).toI), (PV.i (((r2).1.getD 1 PV.u)).toI), (PV.i (((r2).1.getD 2 PV.u)).toI), (PV.i (((r2).1.getD 3 PV.u)).toI), (PV.i (((r31).1.getD 0 PV.u)).toI), (PV.i (((r32).1.getD 0 PV.u)).toI), (PV.s (((r34).1.getD 0 PV.u)).toS), (PV.i (((r34).1.getD 1 PV.u)).toI), (PV.i (0 : Int))], [])))) := by kernel_rfl
/- celluloid/celluloidref07.several -/
noncomputable def S_celluloidref07_several_L0 (x1 : Int) (x2 : Int) (x3 : Int) (x4 : List (List PV)) (x5 : List UInt8) (x6 : Int) (x7 : Int) (x8 : List UInt8) (x9 : Int) (x10 : Int) : St := mkSt [(2, .v (.int .i64 x1)), (3, .v (.ptr (.n 1 0 0) 0)), (7, .v (.ptr (.n 1 2 0) 0)), (8, .v (.int .i64 x2)), (9, .v (.wr (.w 9))), (10, .v (.int .i64 x3))] [((.w 9), .row 3 x4), ((.n 1 0 0), .cells 38 [.str x5, .int .i64 x6, .int .i64 x7]), ((.n 1 2 0), .cells 38 [.str x8, .int .i64 x9, .int .i64 x10])] 1000 35
noncomputable def at_celluloidref07_several_L0 : List Item := (atLoop Tryz.f121 0)
theorem u_celluloidref07_several (k : Nat) (a1 : List UInt8) (a2 : Int) (a3 : Int) (a4 : Int) (a5 : Int) : call (k + 1) f_celluloidref07_several [.s a1, .i a2, .i a3, .i a4, .i a5] [] =
  (call k f_celluloidref07_Plain [(PV.s a1), (PV.i a2), (PV.i a3), (PV.i a4)] []).bind fun r1 =>
  (bif ((decide ((0 : Int) ≤ a5)) && ((decide (a5 ≤ a5)) && (decide (a5 ≤ (1073741824 : Int))))) then run k f_celluloidref07_several [] at_celluloidref07_several_L0 (S_celluloidref07_several_L0 (a5) ((((r1).1.getD 0 PV.u)).toI) ((0 : Int)) ((List.replicate (Int.toNat a5) [(PV.i (0 : Int))])) ((((r1).1.getD 1 PV.u)).toS) ((((r1).1.getD 2 PV.u)).toI) ((((r1).1.getD 3 PV.u)).toI) ([]) ((0 : Int)) ((0 : Int)))
  else none) := by kernel_rfl
theorem u_celluloidref07_several_L0 (k : Nat) (x1 : Int) (x2 : Int) (x3 : Int) (x4 : List (List PV)) (x5 : List UInt8) (x6 : Int) (x7 : Int) (x8 : List UInt8) (x9 : Int) (x10 : Int) : run (k + 1) f_celluloidref07_several [] at_celluloidref07_several_L0 (S_celluloidref07_several_L0 x1 x2 x3 x4 x5 x6 x7 x8 x9 x10) =
  (bif (decide (x3 < x1)) then (call k f_celluloidref07_Signed [(PV.s x5), (PV.i x6), (PV.i x7), (PV.i x2)] []).bind fun r2 =>
  (bif (inB x3 (List.length x4)) then (bif (inB x3 (List.length x4)) then run k f_celluloidref07_several [] at_celluloidref07_several_L0 (S_celluloidref07_several_L0 (x1) (x2) ((IntKind.wrap .i64 (x3 + (1 : Int)))) ((List.set x4 (Int.toNat x3) (putAt (elemAt x4 x3) 0 [(PV.i (((r2).1.getD 0 PV.u)).toI)]))) ((((r2).1.getD 1 PV.u)).toS) ((((r2).1.getD 2 PV.u)).toI) ((((r2).1.getD 3 PV.u)).toI) (x8) (x9) (x10))
  else none)
  else none)
  else some ([(PV.l x4), (PV.s x5), (PV.i x6), (PV.i x7)], [])) := by kernel_rfl
/- celluloid/celluloidref02.Plain -/
noncomputable def S_celluloidref02_Plain_L0 (x1 : Int) (x2 : Int) (x3 : Int) (x4 : List UInt8) (x5 : Int) (x6 : List UInt8) (x7 : Int) : St := mkSt [(1, .v (.int .i64 x1)), (2, .v (.ptr (.n 1 0 0) 0)), (5, .v (.ptr (.n 1 2 0) 0)), (7, .v (.int .i64 x2)), (8, .v (.int .i64 x3))] [((.n 1 0 0), .cells 36 [.str x4, .int .i64 x5]), ((.n 1 2 0), .cells 36 [.str x6, .int .i64 x7])] 1000 54
noncomputable def at_celluloidref02_Plain_L0 : List Item := (atLoop Tryz.f125 0)
theorem u_celluloidref02_Plain (k : Nat) (a1 : List UInt8) (a2 : Int) (a3 : Int) : call (k + 1) f_celluloidref02_Plain [.s a1, .i a2, .i a3] [] =
  ((call k f_celluloidref02_Right [(PV.s a1), (PV.i a2)] []).bind fun r1 =>
   (bif (!(((r1).1.getD 0 PV.u)).toB) then some [(PV.b true)]
   else (bif (decide (a3 < (0 : Int))) then some [(PV.b true)]
   else some [(PV.b (decide (a3 > (31 : Int))))]))).bind fun r2 =>
  (bif ((r2.getD 0 PV.u)).toB then some ([(PV.i (0 : Int)), (PV.s []), (PV.i (0 : Int)), (PV.i (1 : Int))], [])
  else (bif (decide ((IntKind.wrap .i64 ((IntKind.wrap .i64 ((8 : Int) * (((List.length a1) : Nat) : Int))) - a2)) < a3)) then some ([(PV.i (0 : Int)), (PV.s []), (PV.i (0 : Int)), (PV.i (2 : Int))], [])
  else run k f_celluloidref02_Plain [] at_celluloidref02_Plain_L0 (S_celluloidref02_Plain_L0 (a3) ((0 : Int)) ((0 : Int)) (a1) (a2) ([]) ((0 : Int))))) := by kernel_rfl
theorem u_celluloidref02_Plain_L0 (k : Nat) (x1 : Int) (x2 : Int) (x3 : Int) (x4 : List UInt8) (x5 : Int) (x6 : List UInt8) (x7 : Int) : run (k + 1) f_celluloidref02_Plain [] at_celluloidref02_Plain_L0 (S_celluloidref02_Plain_L0 x1 x2 x3 x4 x5 x6 x7) =
  (bif (decide (x3 < x1)) then (call k f_celluloidref02_Bit [(PV.s x4), (PV.i (IntKind.wrap .i64 (x5 + x3)))] []).bind fun r3 =>
  run k f_celluloidref02_Plain [] at_celluloidref02_Plain_L0 (S_celluloidref02_Plain_L0 (x1) ((IntKind.wrap .i64 ((IntKind.wrap .i64 ((2 : Int) * x2)) + (((r3).1.getD 0 PV.u)).toI))) ((IntKind.wrap .i64 (x3 + (1 : Int)))) (x4) (x5) (x6) (x7))
  else some ([(PV.i x2), (PV.s x4), (PV.i (IntKind.wrap .i64 (x5 + x1))), (PV.i (0 : Int))], [])) := by kernel_rfl
/- (*celluloid/field.writer).plain -/
/- celluloid/bits.PlainWidth -/
/- celluloid/bits.PutPlain -/
/- celluloid/celluloidref02.PutPlain -/
/- celluloid/bits.Signed -/
theorem u_bits_Signed (k : Nat) (a1 : List UInt8) (a2 : Int) (a3 : Int) : call (k + 1) f_bits_Signed [.s a1, .i a2, .i a3] [] =
  (call k f_bits_Plain [(PV.s a1), (PV.i a2), (PV.i a3)] []).bind fun r1 =>
  ((bif ((((r1).1.getD 3 PV.u)).toI == (0 : Int)) then (bif (decide (a3 > (0 : Int))) then (bif (decide ((0 : Int) ≤ (IntKind.wrap .i64 (a3 - (1 : Int))))) then some [(PV.b ((shr .i64 (((r1).1.getD 0 PV.u)).toI (IntKind.wrap .i64 (a3 - (1 : Int)))) == (1 : Int)))]
   else none)
   else some [(PV.b false)])
   else some [(PV.b false)])).bind fun r2 =>
  (bif ((r2.getD 0 PV.u)).toB then (bif (decide ((0 : Int) ≤ a3)) then some ([(PV.i (IntKind.wrap .i64 ((((r1).1.getD 0 PV.u)).toI - (shl .i64 (1 : Int) a3)))), (PV.s (((r1).1.getD 1 PV.u)).toS), (PV.i (((r1).1.getD 2 PV.u)).toI), (PV.i (((r1).1.getD 3 PV.u)).toI)], [])
  else none)
  else some ([(PV.i (((r1).1.getD 0 PV.u)).toI), (PV.s (((r1).1.getD 1 PV.u)).toS), (PV.i (((r1).1.getD 2 PV.u)).toI), (PV.i (((r1).1.getD 3 PV.u)).toI)], [])) := by kernel_rfl
/- math/bits.Len -/
/- celluloid/field.PutRect -/
/- celluloid/field.TakeRGBA -/
theorem u_field_TakeRGBA (k : Nat) (a1 : List UInt8) (a2 : Int) : call (k + 1) f_field_TakeRGBA [.s a1, .i a2] [] =
  (call k f_bits_Bytes [(PV.s a1), (PV.i a2), (PV.i (4 : Int))] []).bind fun r1 =>
  (bif ((((r1).1.getD 3 PV.u)).toI != (0 : Int)) then some ([(PV.i (0 : Int)), (PV.i (0 : Int)), (PV.i (0 : Int)), (PV.i (0 : Int)), (PV.s []), (PV.i (0 : Int)), (PV.i (((r1).1.getD 3 PV.u)).toI)], [])
  else (bif (inB (0 : Int) (List.length (((r1).1.getD 0 PV.u)).toS)) then (bif (inB (1 : Int) (List.length (((r1).1.getD 0 PV.u)).toS)) then (bif (inB (2 : Int) (List.length (((r1).1.getD 0 PV.u)).toS)) then (bif (inB (3 : Int) (List.length (((r1).1.getD 0 PV.u)).toS)) then some ([(PV.i (IntKind.wrap .i64 (bt (((r1).1.getD 0 PV.u)).toS (0 : Int)))), (PV.i (IntKind.wrap .i64 (bt (((r1).1.getD 0 PV.u)).toS (1 : Int)))), (PV.i (IntKind.wrap .i64 (bt (((r1).1.getD 0 PV.u)).toS (2 : Int)))), (PV.i (IntKind.wrap .i64 (bt (((r1).1.getD 0 PV.u)).toS (3 : Int)))), (PV.s (((r1).1.getD 1 PV.u)).toS), (PV.i (((r1).1.getD 2 PV.u)).toI), (PV.i (0 : Int))], [])
  else none)
  else none)
  else none)
  else none)) := by kernel_rfl
/- (*celluloid/field.writer).signed -/
/- celluloid/celluloidref07.flag -/
/- (*celluloid/field.reader).plain -/
theorem u___celluloid_field_reader__plain (k : Nat) (a2 : Int) (p0_1 : List UInt8) (p0_2 : Int) (p0_3 : Int) : call (k + 1) f___celluloid_field_reader__plain [.u, .i a2] [(t_field_reader, [.s p0_1, .i p0_2, .i p0_3])] =
  (bif (p0_3 != (0 : Int)) then some ([(PV.i (0 : Int))], [(t_field_reader, [(PV.s p0_1), (PV.i p0_2), (PV.i p0_3)])])
  else (call k f_bits_Plain [(PV.s p0_1), (PV.i p0_2), (PV.i a2)] []).bind fun r1 =>
  some ([(PV.i (((r1).1.getD 0 PV.u)).toI)], [(t_field_reader, [(PV.s (((r1).1.getD 1 PV.u)).toS), (PV.i (((r1).1.getD 2 PV.u)).toI), (PV.i (((r1).1.getD 3 PV.u)).toI)])])) := by kernel_rfl
/- celluloid/bits.Plain -/
noncomputable def S_bits_Plain_L1 (x1 : Int) (x2 : Int) (x3 : Int) (x4 : List UInt8) (x5 : Int) (x6 : List UInt8) (x7 : Int) : St := mkSt [(1, .v (.int .i64 x1)), (2, .v (.ptr (.n 1 0 0) 0)), (5, .v (.ptr (.n 1 2 0) 0)), (7, .v (.int .i64 x2)), (8, .v (.int .i64 x3))] [((.n 1 0 0), .cells 23 [.str x4, .int .i64 x5]), ((.n 1 2 0), .cells 23 [.str x6, .int .i64 x7])] 1000 64
noncomputable def at_bits_Plain_L1 : List Item := (atLoop Tryz.f114 1)
theorem u_bits_Plain (k : Nat) (a1 : List UInt8) (a2 : Int) (a3 : Int) : call (k + 1) f_bits_Plain [.s a1, .i a2, .i a3] [] =
  ((call k f_bits_right [(PV.s a1), (PV.i a2)] []).bind fun r1 =>
   (bif (!(((r1).1.getD 0 PV.u)).toB) then some [(PV.b true)]
   else (bif (decide (a3 < (0 : Int))) then some [(PV.b true)]
   else some [(PV.b (decide (a3 > (31 : Int))))]))).bind fun r2 =>
  (bif ((r2.getD 0 PV.u)).toB then some ([(PV.i (0 : Int)), (PV.s []), (PV.i (0 : Int)), (PV.i (1 : Int))], [])
  else (bif (decide ((IntKind.wrap .i64 (a2 + a3)) > (IntKind.wrap .i64 ((8 : Int) * (((List.length a1) : Nat) : Int))))) then some ([(PV.i (0 : Int)), (PV.s []), (PV.i (0 : Int)), (PV.i (2 : Int))], [])
  else run k f_bits_Plain [] at_bits_Plain_L1 (S_bits_Plain_L1 (a3) ((0 : Int)) (a2) (a1) (a2) ([]) ((0 : Int))))) := by kernel_rfl
theorem u_bits_Plain_L1 (k : Nat) (x1 : Int) (x2 : Int) (x3 : Int) (x4 : List UInt8) (x5 : Int) (x6 : List UInt8) (x7 : Int) : run (k + 1) f_bits_Plain [] at_bits_Plain_L1 (S_bits_Plain_L1 x1 x2 x3 x4 x5 x6 x7) =
  (bif (decide (x3 < (IntKind.wrap .i64 (x5 + x1)))) then (bif (inB (IntKind.wrap .i64 (Int.tdiv x3 (8 : Int))) (List.length x4)) then (bif (decide ((0 : Int) ≤ (IntKind.wrap .i64 ((7 : Int) - (Int.tmod x3 (8 : Int)))))) then run k f_bits_Plain [] at_bits_Plain_L1 (S_bits_Plain_L1 (x1) ((bitsOp Go.BinOp.or .i64 (shl .i64 x2 (1 : Int)) (IntKind.wrap .i64 (bitsOp Go.BinOp.and .u8 (shr .u8 (bt x4 (IntKind.wrap .i64 (Int.tdiv x3 (8 : Int)))) (IntKind.wrap .i64 ((7 : Int) - (Int.tmod x3 (8 : Int))))) (1 : Int))))) ((IntKind.wrap .i64 (x3 + (1 : Int)))) (x4) (x5) (x6) (x7))
  else none)
  else none)
  else some ([(PV.i x2), (PV.s x4), (PV.i (IntKind.wrap .i64 (x5 + x1))), (PV.i (0 : Int))], [])) := by kernel_rfl
/- celluloid/celluloidref07.Done -/
theorem u_celluloidref07_Done (k : Nat) (a1 : List UInt8) (a2 : Int) (a3 : Int) (a4 : Bool) : call (k + 1) f_celluloidref07_Done [.s a1, .i a2, .i a3, .b a4] [] =
  (bif (a3 != (0 : Int)) then some ([(PV.s []), (PV.i (0 : Int)), (PV.i a3)], [])
  else (bif (!a4) then some ([(PV.s []), (PV.i (0 : Int)), (PV.i (3 : Int))], [])
  else (call k f_celluloidref02_Align [(PV.s a1), (PV.i a2)] []).bind fun r1 =>
  some ([(PV.s (((r1).1.getD 0 PV.u)).toS), (PV.i (((r1).1.getD 1 PV.u)).toI), (PV.i (0 : Int))], []))) := by kernel_rfl
/- celluloid/celluloidref07.Signed -/
theorem u_celluloidref07_Signed (k : Nat) (a1 : List UInt8) (a2 : Int) (a3 : Int) (a4 : Int) : call (k + 1) f_celluloidref07_Signed [.s a1, .i a2, .i a3, .i a4] [] =
  (bif (a3 != (0 : Int)) then some ([(PV.i (0 : Int)), (PV.s a1), (PV.i a2), (PV.i a3)], [])
  else (call k f_celluloidref02_Signed [(PV.s a1), (PV.i a2), (PV.i a4)] []).bind fun r1 =>
  some ([(PV.i (((r1).1.getD 0 PV.u)).toI), (PV.s (((r1).1.getD 1 PV.u)).toS), (PV.i (((r1).1.getD 2 PV.u)).toI), (PV.i (((r1).1.getD 3 PV.u)).toI)], [])) := by kernel_rfl
/- celluloid/bits.PutSigned -/
/- celluloid/celluloidref07.RGBA -/
noncomputable def S_celluloidref07_RGBA_L0 (x1 : List (List PV)) (x2 : Int) (x3 : Int) : St := mkSt [(13, .v (.sl 3 x1)), (14, .v (.int .i64 x2)), (15, .v (.int .i64 x3)), (22, .any), (23, .any)] [] 1000 26
noncomputable def at_celluloidref07_RGBA_L0 : List Item := (atLoop Tryz.f138 0)
theorem u_celluloidref07_RGBA (k : Nat) (a1 : Int) (a2 : Int) (a3 : Int) (a4 : Int) : call (k + 1) f_celluloidref07_RGBA [.i a1, .i a2, .i a3, .i a4] [] =
  run k f_celluloidref07_RGBA [] at_celluloidref07_RGBA_L0 (S_celluloidref07_RGBA_L0 ((List.set (List.set (List.set (List.set [[(PV.i (0 : Int))], [(PV.i (0 : Int))], [(PV.i (0 : Int))], [(PV.i (0 : Int))]] 0 [(PV.i a1)]) 1 [(PV.i a2)]) 2 [(PV.i a3)]) 3 [(PV.i a4)])) ((((List.length (List.set (List.set (List.set (List.set [[(PV.i (0 : Int))], [(PV.i (0 : Int))], [(PV.i (0 : Int))], [(PV.i (0 : Int))]] 0 [(PV.i a1)]) 1 [(PV.i a2)]) 2 [(PV.i a3)]) 3 [(PV.i a4)])) : Nat) : Int)) ((0 : Int))) := by kernel_rfl
theorem u_celluloidref07_RGBA_L0 (k : Nat) (x1 : List (List PV)) (x2 : Int) (x3 : Int) : run (k + 1) f_celluloidref07_RGBA [] at_celluloidref07_RGBA_L0 (S_celluloidref07_RGBA_L0 x1 x2 x3) =
  (bif (decide (x3 < x2)) then (bif (inB x3 (List.length x1)) then ((bif (decide ((((elemAt x1 x3).getD 0 PV.u)).toI < (0 : Int))) then some [(PV.b true)]
   else some [(PV.b (decide ((((elemAt x1 x3).getD 0 PV.u)).toI > (255 : Int))))])).bind fun r1 =>
  (bif ((r1.getD 0 PV.u)).toB then some ([(PV.b false)], [])
  else run k f_celluloidref07_RGBA [] at_celluloidref07_RGBA_L0 (S_celluloidref07_RGBA_L0 (x1) (x2) ((IntKind.wrap .i64 (x3 + (1 : Int))))))
  else none)
  else some ([(PV.b true)], [])) := by kernel_rfl
/- celluloid/celluloidref07.width -/
/- celluloid/field.Same -/
theorem u_field_Same (k : Nat)  : call (k + 1) f_field_Same [] [] =
  some ([(PV.i (65536 : Int)), (PV.i (0 : Int)), (PV.i (0 : Int)), (PV.i (65536 : Int)), (PV.i (0 : Int)), (PV.i (0 : Int))], []) := by kernel_rfl
end Go.AI
