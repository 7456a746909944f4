/- Equations of the program's functions, on. -/
import Derived.Test.YtbaajplajjfgcaaGreatU05
import Derived.KernelRfl
set_option linter.unusedVariables false
set_option maxRecDepth 100000
namespace Go.AI
open Go Go.Proofs
/- celluloid/celluloidlaw13.tref -/
noncomputable def S_celluloidlaw13_tref_L0 (x1 : Int) (x2 : List (List PV)) (x3 : Int) (x4 : Int) (x5 : List (List PV)) (x6 : List (List PV)) (x7 : List (List PV)) (x8 : List (List PV)) (x9 : List (List PV)) (x10 : List (List PV)) (x11 : List (List PV)) (x12 : List (List PV)) (x13 : List (List PV)) (x14 : List (List PV)) (x15 : List (List PV)) (x16 : Int) (x17 : Int) (x18 : Int) (x19 : Int) (x20 : Int) (x21 : Int) (x22 : Int) (x23 : Int) (x24 : Int) (x25 : Int) (x26 : Int) (x27 : Int) (x28 : Int) (x29 : Int) (x30 : Int) (x31 : Int) (x32 : Int) (x33 : Int) (x34 : Int) (x35 : Int) (x36 : Int) (x37 : Int) (x38 : Int) (x39 : Int) (x40 : Int) (x41 : Int) (x42 : Int) (x43 : Int) (x44 : Int) (x45 : Int) (x46 : Int) (x47 : Int) (x48 : Int) (x49 : Int) (x50 : Int) (x51 : Int) (x52 : Int) (x53 : Int) (x54 : Int) (x55 : Int) (x56 : Int) (x57 : Int) (x58 : Int) (x59 : Int) (x60 : List (List PV)) (x61 : Int) (x62 : Int) (x63 : Int) (x64 : Int) (x65 : Int) (x66 : Int) (x67 : Int) (x68 : Int) (x69 : Int) (x70 : Int) (x71 : Int) (x72 : Int) (x73 : Int) (x74 : Int) (x75 : Int) (x76 : Int) (x77 : Int) (x78 : Int) (x79 : Int) (x80 : Int) (x81 : Int) (x82 : Int) (x83 : Int) (x84 : Int) (x85 : Int) (x86 : Int) (x87 : Int) (x88 : Int) (x89 : Int) (x90 : Int) (x91 : List (List PV)) (x92 : List (List PV)) (x93 : List (List PV)) (x94 : Int) (x95 : Int) (x96 : Int) (x97 : Int) (x98 : Int) (x99 : Int) (x100 : Int) (x101 : Int) (x102 : Int) (x103 : List (List PV)) (x104 : List (List PV)) (x105 : List (List PV)) (x106 : List (List PV)) (x107 : List (List PV)) (x108 : List (List PV)) (x109 : Int) (x110 : Int) (x111 : Int) (x112 : List (List PV)) (x113 : Int) (x114 : Int) : St := mkSt [(1, .v (.int .i64 x1)), (4, .v (.ptr (.n 1 1 0) 0)), (7, .v (.ptr (.n 2 15 0) 0)), (78, .v (.sl 60 x2)), (79, .v (.int .i64 x3)), (80, .v (.int .i64 x4))] [((.c (.n 1 1 0) 30), .row 151 x5), ((.c (.n 1 1 0) 31), .row 154 x6), ((.c (.n 1 1 0) 32), .row 120 x7), ((.c (.n 1 1 0) 42), .row 151 x8), ((.c (.n 1 1 0) 43), .row 151 x9), ((.c (.n 1 1 0) 44), .row 154 x10), ((.c (.n 1 1 0) 45), .row 154 x11), ((.c (.n 1 1 0) 46), .row 120 x12), ((.c (.n 1 1 0) 47), .row 120 x13), ((.c (.n 1 1 0) 51), .row 39 x14), ((.c (.n 1 1 0) 54), .row 68 x15), ((.n 1 1 0), .cells 68 [.int .i64 x16, .int .i64 x17, .int .i64 x18, .int .i64 x19, .int .i64 x20, .int .i64 x21, .int .i64 x22, .int .i64 x23, .int .i64 x24, .int .i64 x25, .int .i64 x26, .int .i64 x27, .int .i64 x28, .int .i64 x29, .int .i64 x30, .int .i64 x31, .int .i64 x32, .int .i64 x33, .int .i64 x34, .int .i64 x35, .int .i64 x36, .int .i64 x37, .int .i64 x38, .int .i64 x39, .int .i64 x40, .int .i64 x41, .int .i64 x42, .int .i64 x43, .int .i64 x44, .int .i64 x45, .wr (.c (.n 1 1 0) 30), .wr (.c (.n 1 1 0) 31), .wr (.c (.n 1 1 0) 32), .int .i64 x46, .int .i64 x47, .int .i64 x48, .int .i64 x49, .int .i64 x50, .int .i64 x51, .int .i64 x52, .int .i64 x53, .int .i64 x54, .wr (.c (.n 1 1 0) 42), .wr (.c (.n 1 1 0) 43), .wr (.c (.n 1 1 0) 44), .wr (.c (.n 1 1 0) 45), .wr (.c (.n 1 1 0) 46), .wr (.c (.n 1 1 0) 47), .int .i64 x55, .int .i64 x56, .int .i64 x57, .wr (.c (.n 1 1 0) 51), .int .i64 x58, .int .i64 x59, .wr (.c (.n 1 1 0) 54)]), ((.c (.n 2 15 0) 54), .row 68 x60), ((.n 2 15 0), .cells 68 [.int .i64 x61, .int .i64 x62, .int .i64 x63, .int .i64 x64, .int .i64 x65, .int .i64 x66, .int .i64 x67, .int .i64 x68, .int .i64 x69, .int .i64 x70, .int .i64 x71, .int .i64 x72, .int .i64 x73, .int .i64 x74, .int .i64 x75, .int .i64 x76, .int .i64 x77, .int .i64 x78, .int .i64 x79, .int .i64 x80, .int .i64 x81, .int .i64 x82, .int .i64 x83, .int .i64 x84, .int .i64 x85, .int .i64 x86, .int .i64 x87, .int .i64 x88, .int .i64 x89, .int .i64 x90, .sl 151 x91, .sl 154 x92, .sl 120 x93, .int .i64 x94, .int .i64 x95, .int .i64 x96, .int .i64 x97, .int .i64 x98, .int .i64 x99, .int .i64 x100, .int .i64 x101, .int .i64 x102, .sl 151 x103, .sl 151 x104, .sl 154 x105, .sl 154 x106, .sl 120 x107, .sl 120 x108, .int .i64 x109, .int .i64 x110, .int .i64 x111, .sl 39 x112, .int .i64 x113, .int .i64 x114, .wr (.c (.n 2 15 0) 54)])] 1000 107
noncomputable def at_celluloidlaw13_tref_L0 : List Item := (atLoop Tryz.f7 0)
theorem w_celluloidlaw13_tref (a1 : Int) (a2 : Int) (a3 : Int) (a4 : Int) (a5 : Int) (a6 : Int) (a7 : Int) (a8 : Int) (a9 : Int) (a10 : Int) (a11 : Int) (a12 : Int) (a13 : Int) (a14 : Int) (a15 : Int) (a16 : Int) (a17 : Int) (a18 : Int) (a19 : Int) (a20 : Int) (a21 : Int) (a22 : Int) (a23 : Int) (a24 : Int) (a25 : Int) (a26 : Int) (a27 : Int) (a28 : Int) (a29 : Int) (a30 : Int) (a31 : List (List PV)) (a32 : List (List PV)) (a33 : List (List PV)) (a34 : Int) (a35 : Int) (a36 : Int) (a37 : Int) (a38 : Int) (a39 : Int) (a40 : Int) (a41 : Int) (a42 : Int) (a43 : List (List PV)) (a44 : List (List PV)) (a45 : List (List PV)) (a46 : List (List PV)) (a47 : List (List PV)) (a48 : List (List PV)) (a49 : Int) (a50 : Int) (a51 : Int) (a52 : List (List PV)) (a53 : Int) (a54 : Int) (a55 : List (List PV)) (a56 : Int) : cW f_celluloidlaw13_tref [.i a1, .i a2, .i a3, .i a4, .i a5, .i a6, .i a7, .i a8, .i a9, .i a10, .i a11, .i a12, .i a13, .i a14, .i a15, .i a16, .i a17, .i a18, .i a19, .i a20, .i a21, .i a22, .i a23, .i a24, .i a25, .i a26, .i a27, .i a28, .i a29, .i a30, .l a31, .l a32, .l a33, .i a34, .i a35, .i a36, .i a37, .i a38, .i a39, .i a40, .i a41, .i a42, .l a43, .l a44, .l a45, .l a46, .l a47, .l a48, .i a49, .i a50, .i a51, .l a52, .i a53, .i a54, .l a55, .i a56] [] =
  ((bif (decide ((IntKind.wrap .i64 (a56 - (1 : Int))) < (0 : Int))) then some [(PV.b true)]
   else (bif (decide ((((List.length a52) : Nat) : Int) > (5000 : Int))) then some [(PV.b true)]
   else (cW f_celluloidref09_Small [(PV.l a33), (PV.i (600 : Int))] []).bind fun r1 =>
   (bif (!(((r1).1.getD 0 PV.u)).toB) then some [(PV.b true)]
   else (bif (decide ((IntKind.wrap .i64 ((((List.length a31) : Nat) : Int) + (((List.length a32) : Nat) : Int))) > (50 : Int))) then some [(PV.b true)]
   else (cW f_celluloidref10_Small [(PV.i a34), (PV.i a35), (PV.i a36), (PV.i a37), (PV.i a38), (PV.i a39), (PV.i a40), (PV.i a41), (PV.i a42), (PV.l a43), (PV.l a44), (PV.l a45), (PV.l a46), (PV.l a47), (PV.l a48)] []).bind fun r2 =>
   some [(PV.b (!(((r2).1.getD 0 PV.u)).toB))]))))).bind fun r3 =>
  (bif ((r3.getD 0 PV.u)).toB then some ([(PV.i a1), (PV.i a2), (PV.i a3), (PV.i a4), (PV.i a5), (PV.i a6), (PV.i a7), (PV.i a8), (PV.i a9), (PV.i a10), (PV.i a11), (PV.i a12), (PV.i a13), (PV.i a14), (PV.i a15), (PV.i a16), (PV.i a17), (PV.i a18), (PV.i a19), (PV.i a20), (PV.i a21), (PV.i a22), (PV.i a23), (PV.i a24), (PV.i a25), (PV.i a26), (PV.i a27), (PV.i a28), (PV.i a29), (PV.i a30), (PV.l a31), (PV.l a32), (PV.l a33), (PV.i a34), (PV.i a35), (PV.i a36), (PV.i a37), (PV.i a38), (PV.i a39), (PV.i a40), (PV.i a41), (PV.i a42), (PV.l a43), (PV.l a44), (PV.l a45), (PV.l a46), (PV.l a47), (PV.l a48), (PV.i a49), (PV.i a50), (PV.i a51), (PV.l a52), (PV.i a53), (PV.i a54), (PV.l []), (PV.i (IntKind.wrap .i64 (a56 - (1 : Int)))), (PV.b false)], [])
  else rW f_celluloidlaw13_tref [] at_celluloidlaw13_tref_L0 (S_celluloidlaw13_tref_L0 ((IntKind.wrap .i64 (a56 - (1 : Int)))) (a55) ((((List.length a55) : Nat) : Int)) ((0 : Int)) ([]) ([]) ([]) ([]) ([]) ([]) ([]) ([]) ([]) ([]) ([]) ((0 : Int)) ((0 : Int)) ((0 : Int)) ((0 : Int)) ((0 : Int)) ((0 : Int)) ((0 : Int)) ((0 : Int)) ((0 : Int)) ((0 : Int)) ((0 : Int)) ((0 : Int)) ((0 : Int)) ((0 : Int)) ((0 : Int)) ((0 : Int)) ((0 : Int)) ((0 : Int)) ((0 : Int)) ((0 : Int)) ((0 : Int)) ((0 : Int)) ((0 : Int)) ((0 : Int)) ((0 : Int)) ((0 : Int)) ((0 : Int)) ((0 : Int)) ((0 : Int)) ((0 : Int)) ((0 : Int)) ((0 : Int)) ((0 : Int)) ((0 : Int)) ((0 : Int)) ((0 : Int)) ((0 : Int)) ((0 : Int)) ((0 : Int)) ((0 : Int)) ((0 : Int)) ((0 : Int)) ((0 : Int)) ((0 : Int)) ([]) (a1) (a2) (a3) (a4) (a5) (a6) (a7) (a8) (a9) (a10) (a11) (a12) (a13) (a14) (a15) (a16) (a17) (a18) (a19) (a20) (a21) (a22) (a23) (a24) (a25) (a26) (a27) (a28) (a29) (a30) (a31) (a32) (a33) (a34) (a35) (a36) (a37) (a38) (a39) (a40) (a41) (a42) (a43) (a44) (a45) (a46) (a47) (a48) (a49) (a50) (a51) (a52) (a53) (a54))) := by rw [cW_fix]; generalize cW = C; generalize rW = R; kernel_rfl
theorem w_celluloidlaw13_tref_L0 (x1 : Int) (x2 : List (List PV)) (x3 : Int) (x4 : Int) (x5 : List (List PV)) (x6 : List (List PV)) (x7 : List (List PV)) (x8 : List (List PV)) (x9 : List (List PV)) (x10 : List (List PV)) (x11 : List (List PV)) (x12 : List (List PV)) (x13 : List (List PV)) (x14 : List (List PV)) (x15 : List (List PV)) (x16 : Int) (x17 : Int) (x18 : Int) (x19 : Int) (x20 : Int) (x21 : Int) (x22 : Int) (x23 : Int) (x24 : Int) (x25 : Int) (x26 : Int) (x27 : Int) (x28 : Int) (x29 : Int) (x30 : Int) (x31 : Int) (x32 : Int) (x33 : Int) (x34 : Int) (x35 : Int) (x36 : Int) (x37 : Int) (x38 : Int) (x39 : Int) (x40 : Int) (x41 : Int) (x42 : Int) (x43 : Int) (x44 : Int) (x45 : Int) (x46 : Int) (x47 : Int) (x48 : Int) (x49 : Int) (x50 : Int) (x51 : Int) (x52 : Int) (x53 : Int) (x54 : Int) (x55 : Int) (x56 : Int) (x57 : Int) (x58 : Int) (x59 : Int) (x60 : List (List PV)) (x61 : Int) (x62 : Int) (x63 : Int) (x64 : Int) (x65 : Int) (x66 : Int) (x67 : Int) (x68 : Int) (x69 : Int) (x70 : Int) (x71 : Int) (x72 : Int) (x73 : Int) (x74 : Int) (x75 : Int) (x76 : Int) (x77 : Int) (x78 : Int) (x79 : Int) (x80 : Int) (x81 : Int) (x82 : Int) (x83 : Int) (x84 : Int) (x85 : Int) (x86 : Int) (x87 : Int) (x88 : Int) (x89 : Int) (x90 : Int) (x91 : List (List PV)) (x92 : List (List PV)) (x93 : List (List PV)) (x94 : Int) (x95 : Int) (x96 : Int) (x97 : Int) (x98 : Int) (x99 : Int) (x100 : Int) (x101 : Int) (x102 : Int) (x103 : List (List PV)) (x104 : List (List PV)) (x105 : List (List PV)) (x106 : List (List PV)) (x107 : List (List PV)) (x108 : List (List PV)) (x109 : Int) (x110 : Int) (x111 : Int) (x112 : List (List PV)) (x113 : Int) (x114 : Int) : rW f_celluloidlaw13_tref [] at_celluloidlaw13_tref_L0 (S_celluloidlaw13_tref_L0 x1 x2 x3 x4 x5 x6 x7 x8 x9 x10 x11 x12 x13 x14 x15 x16 x17 x18 x19 x20 x21 x22 x23 x24 x25 x26 x27 x28 x29 x30 x31 x32 x33 x34 x35 x36 x37 x38 x39 x40 x41 x42 x43 x44 x45 x46 x47 x48 x49 x50 x51 x52 x53 x54 x55 x56 x57 x58 x59 x60 x61 x62 x63 x64 x65 x66 x67 x68 x69 x70 x71 x72 x73 x74 x75 x76 x77 x78 x79 x80 x81 x82 x83 x84 x85 x86 x87 x88 x89 x90 x91 x92 x93 x94 x95 x96 x97 x98 x99 x100 x101 x102 x103 x104 x105 x106 x107 x108 x109 x110 x111 x112 x113 x114) =
  (bif (decide (x4 < x3)) then (bif (inB x4 (List.length x2)) then (cW f_celluloidlaw13_tref [(PV.i (((elemAt x2 x4).getD 0 PV.u)).toI), (PV.i (((elemAt x2 x4).getD 1 PV.u)).toI), (PV.i (((elemAt x2 x4).getD 2 PV.u)).toI), (PV.i (((elemAt x2 x4).getD 3 PV.u)).toI), (PV.i (((elemAt x2 x4).getD 4 PV.u)).toI), (PV.i (((elemAt x2 x4).getD 5 PV.u)).toI), (PV.i (((elemAt x2 x4).getD 6 PV.u)).toI), (PV.i (((elemAt x2 x4).getD 7 PV.u)).toI), (PV.i (((elemAt x2 x4).getD 8 PV.u)).toI), (PV.i (((elemAt x2 x4).getD 9 PV.u)).toI), (PV.i (((elemAt x2 x4).getD 10 PV.u)).toI), (PV.i (((elemAt x2 x4).getD 11 PV.u)).toI), (PV.i (((elemAt x2 x4).getD 12 PV.u)).toI), (PV.i (((elemAt x2 x4).getD 13 PV.u)).toI), (PV.i (((elemAt x2 x4).getD 14 PV.u)).toI), (PV.i (((elemAt x2 x4).getD 15 PV.u)).toI), (PV.i (((elemAt x2 x4).getD 16 PV.u)).toI), (PV.i (((elemAt x2 x4).getD 17 PV.u)).toI), (PV.i (((elemAt x2 x4).getD 18 PV.u)).toI), (PV.i (((elemAt x2 x4).getD 19 PV.u)).toI), (PV.i (((elemAt x2 x4).getD 20 PV.u)).toI), (PV.i (((elemAt x2 x4).getD 21 PV.u)).toI), (PV.i (((elemAt x2 x4).getD 22 PV.u)).toI), (PV.i (((elemAt x2 x4).getD 23 PV.u)).toI), (PV.i (((elemAt x2 x4).getD 24 PV.u)).toI), (PV.i (((elemAt x2 x4).getD 25 PV.u)).toI), (PV.i (((elemAt x2 x4).getD 26 PV.u)).toI), (PV.i (((elemAt x2 x4).getD 27 PV.u)).toI), (PV.i (((elemAt x2 x4).getD 28 PV.u)).toI), (PV.i (((elemAt x2 x4).getD 29 PV.u)).toI), (PV.l (((elemAt x2 x4).getD 30 PV.u)).toL), (PV.l (((elemAt x2 x4).getD 31 PV.u)).toL), (PV.l (((elemAt x2 x4).getD 32 PV.u)).toL), (PV.i (((elemAt x2 x4).getD 33 PV.u)).toI), (PV.i (((elemAt x2 x4).getD 34 PV.u)).toI), (PV.i (((elemAt x2 x4).getD 35 PV.u)).toI), (PV.i (((elemAt x2 x4).getD 36 PV.u)).toI), (PV.i (((elemAt x2 x4).getD 37 PV.u)).toI), (PV.i (((elemAt x2 x4).getD 38 PV.u)).toI), (PV.i (((elemAt x2 x4).getD 39 PV.u)).toI), (PV.i (((elemAt x2 x4).getD 40 PV.u)).toI), (PV.i (((elemAt x2 x4).getD 41 PV.u)).toI), (PV.l (((elemAt x2 x4).getD 42 PV.u)).toL), (PV.l (((elemAt x2 x4).getD 43 PV.u)).toL), (PV.l (((elemAt x2 x4).getD 44 PV.u)).toL), (PV.l (((elemAt x2 x4).getD 45 PV.u)).toL), (PV.l (((elemAt x2 x4).getD 46 PV.u)).toL), (PV.l (((elemAt x2 x4).getD 47 PV.u)).toL), (PV.i (((elemAt x2 x4).getD 48 PV.u)).toI), (PV.i (((elemAt x2 x4).getD 49 PV.u)).toI), (PV.i (((elemAt x2 x4).getD 50 PV.u)).toI), (PV.l (((elemAt x2 x4).getD 51 PV.u)).toL), (PV.i (((elemAt x2 x4).getD 52 PV.u)).toI), (PV.i (((elemAt x2 x4).getD 53 PV.u)).toI), (PV.l (((elemAt x2 x4).getD 54 PV.u)).toL), (PV.i x1)] []).bind fun r4 =>
  (bif (!(((r4).1.getD 56 PV.u)).toB) then some ([(PV.i x61), (PV.i x62), (PV.i x63), (PV.i x64), (PV.i x65), (PV.i x66), (PV.i x67), (PV.i x68), (PV.i x69), (PV.i x70), (PV.i x71), (PV.i x72), (PV.i x73), (PV.i x74), (PV.i x75), (PV.i x76), (PV.i x77), (PV.i x78), (PV.i x79), (PV.i x80), (PV.i x81), (PV.i x82), (PV.i x83), (PV.i x84), (PV.i x85), (PV.i x86), (PV.i x87), (PV.i x88), (PV.i x89), (PV.i x90), (PV.l x91), (PV.l x92), (PV.l x93), (PV.i x94), (PV.i x95), (PV.i x96), (PV.i x97), (PV.i x98), (PV.i x99), (PV.i x100), (PV.i x101), (PV.i x102), (PV.l x103), (PV.l x104), (PV.l x105), (PV.l x106), (PV.l x107), (PV.l x108), (PV.i x109), (PV.i x110), (PV.i x111), (PV.l x112), (PV.i x113), (PV.i x114), (PV.l x60), (PV.i x1), (PV.b false)], [])
  else (bif ((decide ((((List.length x60) + (List.length (List.set [[(PV.i (0 : Int)), (PV.i (0 : Int)), (PV.i (0 : Int)), (PV.i (0 : Int)), (PV.i (0 : Int)), (PV.i (0 : Int)), (PV.i (0 : Int)), (PV.i (0 : Int)), (PV.i (0 : Int)), (PV.i (0 : Int)), (PV.i (0 : Int)), (PV.i (0 : Int)), (PV.i (0 : Int)), (PV.i (0 : Int)), (PV.i (0 : Int)), (PV.i (0 : Int)), (PV.i (0 : Int)), (PV.i (0 : Int)), (PV.i (0 : Int)), (PV.i (0 : Int)), (PV.i (0 : Int)), (PV.i (0 : Int)), (PV.i (0 : Int)), (PV.i (0 : Int)), (PV.i (0 : Int)), (PV.i (0 : Int)), (PV.i (0 : Int)), (PV.i (0 : Int)), (PV.i (0 : Int)), (PV.i (0 : Int)), (PV.l []), (PV.l []), (PV.l []), (PV.i (0 : Int)), (PV.i (0 : Int)), (PV.i (0 : Int)), (PV.i (0 : Int)), (PV.i (0 : Int)), (PV.i (0 : Int)), (PV.i (0 : Int)), (PV.i (0 : Int)), (PV.i (0 : Int)), (PV.l []), (PV.l []), (PV.l []), (PV.l []), (PV.l []), (PV.l []), (PV.i (0 : Int)), (PV.i (0 : Int)), (PV.i (0 : Int)), (PV.l []), (PV.i (0 : Int)), (PV.i (0 : Int)), (PV.l [])]] 0 [(PV.i (((r4).1.getD 0 PV.u)).toI), (PV.i (((r4).1.getD 1 PV.u)).toI), (PV.i (((r4).1.getD 2 PV.u)).toI), (PV.i (((r4).1.getD 3 PV.u)).toI), (PV.i (((r4).1.getD 4 PV.u)).toI), (PV.i (((r4).1.getD 5 PV.u)).toI), (PV.i (((r4).1.getD 6 PV.u)).toI), (PV.i (((r4).1.getD 7 PV.u)).toI), (PV.i (((r4).1.getD 8 PV.u)).toI), (PV.i (((r4).1.getD 9 PV.u)).toI), (PV.i (((r4).1.getD 10 PV.u)).toI), (PV.i (((r4).1.getD 11 PV.u)).toI), (PV.i (((r4).1.getD 12 PV.u)).toI), (PV.i (((r4).1.getD 13 PV.u)).toI), (PV.i (((r4).1.getD 14 PV.u)).toI), (PV.i (((r4).1.getD 15 PV.u)).toI), (PV.i (((r4).1.getD 16 PV.u)).toI), (PV.i (((r4).1.getD 17 PV.u)).toI), (PV.i (((r4).1.getD 18 PV.u)).toI), (PV.i (((r4).1.getD 19 PV.u)).toI), (PV.i (((r4).1.getD 20 PV.u)).toI), (PV.i (((r4).1.getD 21 PV.u)).toI), (PV.i (((r4).1.getD 22 PV.u)).toI), (PV.i (((r4).1.getD 23 PV.u)).toI), (PV.i (((r4).1.getD 24 PV.u)).toI), (PV.i (((r4).1.getD 25 PV.u)).toI), (PV.i (((r4).1.getD 26 PV.u)).toI), (PV.i (((r4).1.getD 27 PV.u)).toI), (PV.i (((r4).1.getD 28 PV.u)).toI), (PV.i (((r4).1.getD 29 PV.u)).toI), (PV.l (((r4).1.getD 30 PV.u)).toL), (PV.l (((r4).1.getD 31 PV.u)).toL), (PV.l (((r4).1.getD 32 PV.u)).toL), (PV.i (((r4).1.getD 33 PV.u)).toI), (PV.i (((r4).1.getD 34 PV.u)).toI), (PV.i (((r4).1.getD 35 PV.u)).toI), (PV.i (((r4).1.getD 36 PV.u)).toI), (PV.i (((r4).1.getD 37 PV.u)).toI), (PV.i (((r4).1.getD 38 PV.u)).toI), (PV.i (((r4).1.getD 39 PV.u)).toI), (PV.i (((r4).1.getD 40 PV.u)).toI), (PV.i (((r4).1.getD 41 PV.u)).toI), (PV.l (((r4).1.getD 42 PV.u)).toL), (PV.l (((r4).1.getD 43 PV.u)).toL), (PV.l (((r4).1.getD 44 PV.u)).toL), (PV.l (((r4).1.getD 45 PV.u)).toL), (PV.l (((r4).1.getD 46 PV.u)).toL), (PV.l (((r4).1.getD 47 PV.u)).toL), (PV.i (((r4).1.getD 48 PV.u)).toI), (PV.i (((r4).1.getD 49 PV.u)).toI), (PV.i (((r4).1.getD 50 PV.u)).toI), (PV.l (((r4).1.getD 51 PV.u)).toL), (PV.i (((r4).1.getD 52 PV.u)).toI), (PV.i (((r4).1.getD 53 PV.u)).toI), (PV.l (((r4).1.getD 54 PV.u)).toL)]))) * 616) ≤ 140737488355328)) && (decide (((List.length x60) + (List.length (List.set [[(PV.i (0 : Int)), (PV.i (0 : Int)), (PV.i (0 : Int)), (PV.i (0 : Int)), (PV.i (0 : Int)), (PV.i (0 : Int)), (PV.i (0 : Int)), (PV.i (0 : Int)), (PV.i (0 : Int)), (PV.i (0 : Int)), (PV.i (0 : Int)), (PV.i (0 : Int)), (PV.i (0 : Int)), (PV.i (0 : Int)), (PV.i (0 : Int)), (PV.i (0 : Int)), (PV.i (0 : Int)), (PV.i (0 : Int)), (PV.i (0 : Int)), (PV.i (0 : Int)), (PV.i (0 : Int)), (PV.i (0 : Int)), (PV.i (0 : Int)), (PV.i (0 : Int)), (PV.i (0 : Int)), (PV.i (0 : Int)), (PV.i (0 : Int)), (PV.i (0 : Int)), (PV.i (0 : Int)), (PV.i (0 : Int)), (PV.l []), (PV.l []), (PV.l []), (PV.i (0 : Int)), (PV.i (0 : Int)), (PV.i (0 : Int)), (PV.i (0 : Int)), (PV.i (0 : Int)), (PV.i (0 : Int)), (PV.i (0 : Int)), (PV.i (0 : Int)), (PV.i (0 : Int)), (PV.l []), (PV.l []), (PV.l []), (PV.l []), (PV.l []), (PV.l []), (PV.i (0 : Int)), (PV.i (0 : Int)), (PV.i (0 : Int)), (PV.l []), (PV.i (0 : Int)), (PV.i (0 : Int)), (PV.l [])]] 0 [(PV.i (((r4).1.getD 0 PV.u)).toI), (PV.i (((r4).1.getD 1 PV.u)).toI), (PV.i (((r4).1.getD 2 PV.u)).toI), (PV.i (((r4).1.getD 3 PV.u)).toI), (PV.i (((r4).1.getD 4 PV.u)).toI), (PV.i (((r4).1.getD 5 PV.u)).toI), (PV.i (((r4).1.getD 6 PV.u)).toI), (PV.i (((r4).1.getD 7 PV.u)).toI), (PV.i (((r4).1.getD 8 PV.u)).toI), (PV.i (((r4).1.getD 9 PV.u)).toI), (PV.i (((r4).1.getD 10 PV.u)).toI), (PV.i (((r4).1.getD 11 PV.u)).toI), (PV.i (((r4).1.getD 12 PV.u)).toI), (PV.i (((r4).1.getD 13 PV.u)).toI), (PV.i (((r4).1.getD 14 PV.u)).toI), (PV.i (((r4).1.getD 15 PV.u)).toI), (PV.i (((r4).1.getD 16 PV.u)).toI), (PV.i (((r4).1.getD 17 PV.u)).toI), (PV.i (((r4).1.getD 18 PV.u)).toI), (PV.i (((r4).1.getD 19 PV.u)).toI), (PV.i (((r4).1.getD 20 PV.u)).toI), (PV.i (((r4).1.getD 21 PV.u)).toI), (PV.i (((r4).1.getD 22 PV.u)).toI), (PV.i (((r4).1.getD 23 PV.u)).toI), (PV.i (((r4).1.getD 24 PV.u)).toI), (PV.i (((r4).1.getD 25 PV.u)).toI), (PV.i (((r4).1.getD 26 PV.u)).toI), (PV.i (((r4).1.getD 27 PV.u)).toI), (PV.i (((r4).1.getD 28 PV.u)).toI), (PV.i (((r4).1.getD 29 PV.u)).toI), (PV.l (((r4).1.getD 30 PV.u)).toL), (PV.l (((r4).1.getD 31 PV.u)).toL), (PV.l (((r4).1.getD 32 PV.u)).toL), (PV.i (((r4).1.getD 33 PV.u)).toI), (PV.i (((r4).1.getD 34 PV.u)).toI), (PV.i (((r4).1.getD 35 PV.u)).toI), (PV.i (((r4).1.getD 36 PV.u)).toI), (PV.i (((r4).1.getD 37 PV.u)).toI), (PV.i (((r4).1.getD 38 PV.u)).toI), (PV.i (((r4).1.getD 39 PV.u)).toI), (PV.i (((r4).1.getD 40 PV.u)).toI), (PV.i (((r4).1.getD 41 PV.u)).toI), (PV.l (((r4).1.getD 42 PV.u)).toL), (PV.l (((r4).1.getD 43 PV.u)).toL), (PV.l (((r4).1.getD 44 PV.u)).toL), (PV.l (((r4).1.getD 45 PV.u)).toL), (PV.l (((r4).1.getD 46 PV.u)).toL), (PV.l (((r4).1.getD 47 PV.u)).toL), (PV.i (((r4).1.getD 48 PV.u)).toI), (PV.i (((r4).1.getD 49 PV.u)).toI), (PV.i (((r4).1.getD 50 PV.u)).toI), (PV.l (((r4).1.getD 51 PV.u)).toL), (PV.i (((r4).1.getD 52 PV.u)).toI), (PV.i (((r4).1.getD 53 PV.u)).toI), (PV.l (((r4).1.getD 54 PV.u)).toL)]))) ≤ 4611686018427387904))) then rW f_celluloidlaw13_tref [] at_celluloidlaw13_tref_L0 (S_celluloidlaw13_tref_L0 ((((r4).1.getD 55 PV.u)).toI) (x2) (x3) ((IntKind.wrap .i64 (x4 + (1 : Int)))) (x5) (x6) (x7) (x8) (x9) (x10) (x11) (x12) (x13) (x14) (x15) (x16) (x17) (x18) (x19) (x20) (x21) (x22) (x23) (x24) (x25) (x26) (x27) (x28) (x29) (x30) (x31) (x32) (x33) (x34) (x35) (x36) (x37) (x38) (x39) (x40) (x41) (x42) (x43) (x44) (x45) (x46) (x47) (x48) (x49) (x50) (x51) (x52) (x53) (x54) (x55) (x56) (x57) (x58) (x59) ((x60 ++ (List.set [[(PV.i (0 : Int)), (PV.i (0 : Int)), (PV.i (0 : Int)), (PV.i (0 : Int)), (PV.i (0 : Int)), (PV.i (0 : Int)), (PV.i (0 : Int)), (PV.i (0 : Int)), (PV.i (0 : Int)), (PV.i (0 : Int)), (PV.i (0 : Int)), (PV.i (0 : Int)), (PV.i (0 : Int)), (PV.i (0 : Int)), (PV.i (0 : Int)), (PV.i (0 : Int)), (PV.i (0 : Int)), (PV.i (0 : Int)), (PV.i (0 : Int)), (PV.i (0 : Int)), (PV.i (0 : Int)), (PV.i (0 : Int)), (PV.i (0 : Int)), (PV.i (0 : Int)), (PV.i (0 : Int)), (PV.i (0 : Int)), (PV.i (0 : Int)), (PV.i (0 : Int)), (PV.i (0 : Int)), (PV.i (0 : Int)), (PV.l []), (PV.l []), (PV.l []), (PV.i (0 : Int)), (PV.i (0 : Int)), (PV.i (0 : Int)), (PV.i (0 : Int)), (PV.i (0 : Int)), (PV.i (0 : Int)), (PV.i (0 : Int)), (PV.i (0 : Int)), (PV.i (0 : Int)), (PV.l []), (PV.l []), (PV.l []), (PV.l []), (PV.l []), (PV.l []), (PV.i (0 : Int)), (PV.i (0 : Int)), (PV.i (0 : Int)), (PV.l []), (PV.i (0 : Int)), (PV.i (0 : Int)), (PV.l [])]] 0 [(PV.i (((r4).1.getD 0 PV.u)).toI), (PV.i (((r4).1.getD 1 PV.u)).toI), (PV.i (((r4).1.getD 2 PV.u)).toI), (PV.i (((r4).1.getD 3 PV.u)).toI), (PV.i (((r4).1.getD 4 PV.u)).toI), (PV.i (((r4).1.getD 5 PV.u)).toI), (PV.i (((r4).1.getD 6 PV.u)).toI), (PV.i (((r4).1.getD 7 PV.u)).toI), (PV.i (((r4).1.getD 8 PV.u)).toI), (PV.i (((r4).1.getD 9 PV.u)).toI), (PV.i (((r4).1.getD 10 PV.u)).toI), (PV.i (((r4).1.getD 11 PV.u)).toI), (PV.i (((r4).1.getD 12 PV.u)).toI), (PV.i (((r4).1.getD 13 PV.u)).toI), (PV.i (((r4).1.getD 14 PV.u)).toI), (PV.i (((r4).1.getD 15 PV.u)).toI), (PV.i (((r4).1.getD 16 PV.u)).toI), (PV.i (((r4).1.getD 17 PV.u)).toI), (PV.i (((r4).1.getD 18 PV.u)).toI), (PV.i (((r4).1.getD 19 PV.u)).toI), (PV.i (((r4).1.getD 20 PV.u)).toI), (PV.i (((r4).1.getD 21 PV.u)).toI), (PV.i (((r4).1.getD 22 PV.u)).toI), (PV.i (((r4).1.getD 23 PV.u)).toI), (PV.i (((r4).1.getD 24 PV.u)).toI), (PV.i (((r4).1.getD 25 PV.u)).toI), (PV.i (((r4).1.getD 26 PV.u)).toI), (PV.i (((r4).1.getD 27 PV.u)).toI), (PV.i (((r4).1.getD 28 PV.u)).toI), (PV.i (((r4).1.getD 29 PV.u)).toI), (PV.l (((r4).1.getD 30 PV.u)).toL), (PV.l (((r4).1.getD 31 PV.u)).toL), (PV.l (((r4).1.getD 32 PV.u)).toL), (PV.i (((r4).1.getD 33 PV.u)).toI), (PV.i (((r4).1.getD 34 PV.u)).toI), (PV.i (((r4).1.getD 35 PV.u)).toI), (PV.i (((r4).1.getD 36 PV.u)).toI), (PV.i (((r4).1.getD 37 PV.u)).toI), (PV.i (((r4).1.getD 38 PV.u)).toI), (PV.i (((r4).1.getD 39 PV.u)).toI), (PV.i (((r4).1.getD 40 PV.u)).toI), (PV.i (((r4).1.getD 41 PV.u)).toI), (PV.l (((r4).1.getD 42 PV.u)).toL), (PV.l (((r4).1.getD 43 PV.u)).toL), (PV.l (((r4).1.getD 44 PV.u)).toL), (PV.l (((r4).1.getD 45 PV.u)).toL), (PV.l (((r4).1.getD 46 PV.u)).toL), (PV.l (((r4).1.getD 47 PV.u)).toL), (PV.i (((r4).1.getD 48 PV.u)).toI), (PV.i (((r4).1.getD 49 PV.u)).toI), (PV.i (((r4).1.getD 50 PV.u)).toI), (PV.l (((r4).1.getD 51 PV.u)).toL), (PV.i (((r4).1.getD 52 PV.u)).toI), (PV.i (((r4).1.getD 53 PV.u)).toI), (PV.l (((r4).1.getD 54 PV.u)).toL)]))) (x61) (x62) (x63) (x64) (x65) (x66) (x67) (x68) (x69) (x70) (x71) (x72) (x73) (x74) (x75) (x76) (x77) (x78) (x79) (x80) (x81) (x82) (x83) (x84) (x85) (x86) (x87) (x88) (x89) (x90) (x91) (x92) (x93) (x94) (x95) (x96) (x97) (x98) (x99) (x100) (x101) (x102) (x103) (x104) (x105) (x106) (x107) (x108) (x109) (x110) (x111) (x112) (x113) (x114))
  else none))
  else none)
  else some ([(PV.i x61), (PV.i x62), (PV.i x63), (PV.i x64), (PV.i x65), (PV.i x66), (PV.i x67), (PV.i x68), (PV.i x69), (PV.i x70), (PV.i x71), (PV.i x72), (PV.i x73), (PV.i x74), (PV.i x75), (PV.i x76), (PV.i x77), (PV.i x78), (PV.i x79), (PV.i x80), (PV.i x81), (PV.i x82), (PV.i x83), (PV.i x84), (PV.i x85), (PV.i x86), (PV.i x87), (PV.i x88), (PV.i x89), (PV.i x90), (PV.l x91), (PV.l x92), (PV.l x93), (PV.i x94), (PV.i x95), (PV.i x96), (PV.i x97), (PV.i x98), (PV.i x99), (PV.i x100), (PV.i x101), (PV.i x102), (PV.l x103), (PV.l x104), (PV.l x105), (PV.l x106), (PV.l x107), (PV.l x108), (PV.i x109), (PV.i x110), (PV.i x111), (PV.l x112), (PV.i x113), (PV.i x114), (PV.l x60), (PV.i x1), (PV.b true)], [])) := by rw [rW_fix]; generalize cW = C; generalize rW = R; kernel_rfl
/- celluloid/movie.RightTag -/
theorem w_movie_RightTag (a1 : Int) (a2 : Int) (a3 : Int) (a4 : Int) (a5 : Int) (a6 : Int) (a7 : Int) (a8 : Int) (a9 : Int) (a10 : Int) (a11 : Int) (a12 : Int) (a13 : Int) (a14 : Int) (a15 : Int) (a16 : Int) (a17 : Int) (a18 : Int) (a19 : Int) (a20 : Int) (a21 : Int) (a22 : Int) (a23 : Int) (a24 : Int) (a25 : Int) (a26 : Int) (a27 : Int) (a28 : Int) (a29 : Int) (a30 : Int) (a31 : List (List PV)) (a32 : List (List PV)) (a33 : List (List PV)) (a34 : Int) (a35 : Int) (a36 : Int) (a37 : Int) (a38 : Int) (a39 : Int) (a40 : Int) (a41 : Int) (a42 : Int) (a43 : List (List PV)) (a44 : List (List PV)) (a45 : List (List PV)) (a46 : List (List PV)) (a47 : List (List PV)) (a48 : List (List PV)) (a49 : Int) (a50 : Int) (a51 : Int) (a52 : List (List PV)) (a53 : Int) (a54 : Int) (a55 : List (List PV)) : cW f_movie_RightTag [.i a1, .i a2, .i a3, .i a4, .i a5, .i a6, .i a7, .i a8, .i a9, .i a10, .i a11, .i a12, .i a13, .i a14, .i a15, .i a16, .i a17, .i a18, .i a19, .i a20, .i a21, .i a22, .i a23, .i a24, .i a25, .i a26, .i a27, .i a28, .i a29, .i a30, .l a31, .l a32, .l a33, .i a34, .i a35, .i a36, .i a37, .i a38, .i a39, .i a40, .i a41, .i a42, .l a43, .l a44, .l a45, .l a46, .l a47, .l a48, .i a49, .i a50, .i a51, .l a52, .i a53, .i a54, .l a55] [] =
  (cW f_movie_empty [(PV.i a1), (PV.i a2), (PV.i a3), (PV.i a4), (PV.i a5), (PV.i a6), (PV.i a7), (PV.i a8), (PV.i a9), (PV.i a10), (PV.i a11), (PV.i a12), (PV.i a13), (PV.i a14), (PV.i a15), (PV.i a16), (PV.i a17), (PV.i a18), (PV.i a19), (PV.i a20), (PV.i a21), (PV.i a22), (PV.i a23), (PV.i a24), (PV.i a25), (PV.i a26), (PV.i a27), (PV.i a28), (PV.i a29), (PV.i a30), (PV.l a31), (PV.l a32), (PV.l a33), (PV.i a34), (PV.i a35), (PV.i a36), (PV.i a37), (PV.i a38), (PV.i a39), (PV.i a40), (PV.i a41), (PV.i a42), (PV.l a43), (PV.l a44), (PV.l a45), (PV.l a46), (PV.l a47), (PV.l a48), (PV.i a49), (PV.i a50), (PV.i a51), (PV.l a52), (PV.i a53), (PV.i a54), (PV.l a55)] []).bind fun r1 =>
  (bif (!(((r1).1.getD 0 PV.u)).toB) then some ([(PV.b false)], [])
  else (bif (a1 == (1 : Int)) then some ([(PV.b true)], [])
  else (bif (a1 == (26 : Int)) then (cW f__celluloid_movie_Place__right [(PV.i a7), (PV.i a8), (PV.i a9), (PV.i a10), (PV.i a11), (PV.i a12), (PV.i a13), (PV.i a14), (PV.i a15), (PV.i a16), (PV.i a17), (PV.i a18), (PV.i a19), (PV.i a20), (PV.i a21), (PV.i a22), (PV.i a23), (PV.i a24), (PV.i a25)] []).bind fun r2 =>
  some ([(PV.b (((r2).1.getD 0 PV.u)).toB)], [])
  else (bif (a1 == (28 : Int)) then (cW f_movie_within [(PV.i (1 : Int)), (PV.i (255 : Int)), (PV.l (List.set [[(PV.i (0 : Int))]] 0 [(PV.i a2)]))] []).bind fun r3 =>
  some ([(PV.b (((r3).1.getD 0 PV.u)).toB)], [])
  else (bif (a1 == (9 : Int)) then ((cW f_field_RightRGBA [(PV.i a3), (PV.i a4), (PV.i a5), (PV.i a6)] []).bind fun r4 =>
   (bif (((r4).1.getD 0 PV.u)).toB then some [(PV.b (a6 == (255 : Int)))]
   else some [(PV.b false)])).bind fun r5 =>
  some ([(PV.b ((r5.getD 0 PV.u)).toB)], [])
  else (bif (a1 == (32 : Int)) then (cW f_shape_Right [(PV.i a26), (PV.i a27), (PV.i a28), (PV.i a29), (PV.i a30), (PV.l a31), (PV.l a32), (PV.l a33)] []).bind fun r6 =>
  some ([(PV.b (((r6).1.getD 0 PV.u)).toB)], [])
  else (bif (a1 == (46 : Int)) then (cW f_morph_Right [(PV.i a34), (PV.i a35), (PV.i a36), (PV.i a37), (PV.i a38), (PV.i a39), (PV.i a40), (PV.i a41), (PV.i a42), (PV.l a43), (PV.l a44), (PV.l a45), (PV.l a46), (PV.l a47), (PV.l a48)] []).bind fun r7 =>
  some ([(PV.b (((r7).1.getD 0 PV.u)).toB)], [])
  else (bif (a1 == (36 : Int)) then (cW f_pixel_Right [(PV.i a49), (PV.i a50), (PV.i a51), (PV.l a52)] []).bind fun r8 =>
  some ([(PV.b (((r8).1.getD 0 PV.u)).toB)], [])
  else (bif (a1 == (39 : Int)) then ((cW f_movie_within [(PV.i (0 : Int)), (PV.i (65535 : Int)), (PV.l (List.set (List.set [[(PV.i (0 : Int))], [(PV.i (0 : Int))]] 0 [(PV.i a53)]) 1 [(PV.i a54)]))] []).bind fun r9 =>
   (bif (((r9).1.getD 0 PV.u)).toB then (bif (decide ((((List.length a55) : Nat) : Int) ≤ (256 : Int))) then (cW f_slices_ContainsFunc___celluloid_movie_Tag_celluloid_movie_Tag_ [(PV.l a55), (PV.f f_movie_RightTag_1 0)] []).bind fun r10 =>
   some [(PV.b (!(((r10).1.getD 0 PV.u)).toB))]
   else some [(PV.b false)])
   else some [(PV.b false)])).bind fun r11 =>
  some ([(PV.b ((r11.getD 0 PV.u)).toB)], [])
  else some ([(PV.b false)], [])))))))))) := by rw [cW_fix]; generalize cW = C; generalize rW = R; kernel_rfl
/- celluloid/movie.RightTag$1 -/
theorem w_movie_RightTag_1 (a1 : Int) (a2 : Int) (a3 : Int) (a4 : Int) (a5 : Int) (a6 : Int) (a7 : Int) (a8 : Int) (a9 : Int) (a10 : Int) (a11 : Int) (a12 : Int) (a13 : Int) (a14 : Int) (a15 : Int) (a16 : Int) (a17 : Int) (a18 : Int) (a19 : Int) (a20 : Int) (a21 : Int) (a22 : Int) (a23 : Int) (a24 : Int) (a25 : Int) (a26 : Int) (a27 : Int) (a28 : Int) (a29 : Int) (a30 : Int) (a31 : List (List PV)) (a32 : List (List PV)) (a33 : List (List PV)) (a34 : Int) (a35 : Int) (a36 : Int) (a37 : Int) (a38 : Int) (a39 : Int) (a40 : Int) (a41 : Int) (a42 : Int) (a43 : List (List PV)) (a44 : List (List PV)) (a45 : List (List PV)) (a46 : List (List PV)) (a47 : List (List PV)) (a48 : List (List PV)) (a49 : Int) (a50 : Int) (a51 : Int) (a52 : List (List PV)) (a53 : Int) (a54 : Int) (a55 : List (List PV)) : cW f_movie_RightTag_1 [.i a1, .i a2, .i a3, .i a4, .i a5, .i a6, .i a7, .i a8, .i a9, .i a10, .i a11, .i a12, .i a13, .i a14, .i a15, .i a16, .i a17, .i a18, .i a19, .i a20, .i a21, .i a22, .i a23, .i a24, .i a25, .i a26, .i a27, .i a28, .i a29, .i a30, .l a31, .l a32, .l a33, .i a34, .i a35, .i a36, .i a37, .i a38, .i a39, .i a40, .i a41, .i a42, .l a43, .l a44, .l a45, .l a46, .l a47, .l a48, .i a49, .i a50, .i a51, .l a52, .i a53, .i a54, .l a55] [] =
  ((cW f_movie_step [(PV.i a1)] []).bind fun r1 =>
   (bif (!(((r1).1.getD 0 PV.u)).toB) then some [(PV.b true)]
   else (cW f_movie_RightTag [(PV.i a1), (PV.i a2), (PV.i a3), (PV.i a4), (PV.i a5), (PV.i a6), (PV.i a7), (PV.i a8), (PV.i a9), (PV.i a10), (PV.i a11), (PV.i a12), (PV.i a13), (PV.i a14), (PV.i a15), (PV.i a16), (PV.i a17), (PV.i a18), (PV.i a19), (PV.i a20), (PV.i a21), (PV.i a22), (PV.i a23), (PV.i a24), (PV.i a25), (PV.i a26), (PV.i a27), (PV.i a28), (PV.i a29), (PV.i a30), (PV.l a31), (PV.l a32), (PV.l a33), (PV.i a34), (PV.i a35), (PV.i a36), (PV.i a37), (PV.i a38), (PV.i a39), (PV.i a40), (PV.i a41), (PV.i a42), (PV.l a43), (PV.l a44), (PV.l a45), (PV.l a46), (PV.l a47), (PV.l a48), (PV.i a49), (PV.i a50), (PV.i a51), (PV.l a52), (PV.i a53), (PV.i a54), (PV.l a55)] []).bind fun r2 =>
   some [(PV.b (!(((r2).1.getD 0 PV.u)).toB))])).bind fun r3 =>
  some ([(PV.b ((r3.getD 0 PV.u)).toB)], []) := by rw [cW_fix]; generalize cW = C; generalize rW = R; kernel_rfl
/- celluloid/tag.Put -/
theorem w_tag_Put (a1 : Int) (a2 : List UInt8) : cW f_tag_Put [.i a1, .s a2] [] =
  ((bif (decide (a1 < (0 : Int))) then some [(PV.b true)]
   else some [(PV.b (decide (a1 ≥ (1024 : Int))))])).bind fun r1 =>
  (bif ((r1.getD 0 PV.u)).toB then some ([(PV.s []), (PV.i (1 : Int))], [])
  else (cW f_bits_PutLittle [(PV.s []), (PV.i (0 : Int)), (PV.i (bitsOp Go.BinOp.or .i64 (shl .i64 a1 (6 : Int)) (bif (decide ((63 : Int) < (((List.length a2) : Nat) : Int))) then (63 : Int) else (((List.length a2) : Nat) : Int)))), (PV.i (2 : Int))] []).bind fun r2 =>
  (bif ((bif (decide ((63 : Int) < (((List.length a2) : Nat) : Int))) then (63 : Int) else (((List.length a2) : Nat) : Int)) == (63 : Int)) then (cW f_bits_PutLittle [(PV.s (((r2).1.getD 0 PV.u)).toS), (PV.i (((r2).1.getD 1 PV.u)).toI), (PV.i (((List.length a2) : Nat) : Int)), (PV.i (4 : Int))] []).bind fun r3 =>
  (bif (decide (((List.length (((r3).1.getD 0 PV.u)).toS) + (List.length a2)) ≤ 1099511627776)) then some ([(PV.s ((((r3).1.getD 0 PV.u)).toS ++ a2)), (PV.i (0 : Int))], [])
  else none)
  else (bif (decide (((List.length (((r2).1.getD 0 PV.u)).toS) + (List.length a2)) ≤ 1099511627776)) then some ([(PV.s ((((r2).1.getD 0 PV.u)).toS ++ a2)), (PV.i (0 : Int))], [])
  else none))) := by rw [cW_fix]; generalize cW = C; generalize rW = R; kernel_rfl
/- celluloid/movie.within$1 -/
theorem w_movie_within_1 (a1 : Int) (p0_1 : Int) (p1_1 : Int) : cW f_movie_within_1 [.i a1] [(t_int, [.i p0_1]), (t_int, [.i p1_1])] =
  ((bif (decide (a1 < p0_1)) then some [(PV.b true)]
   else some [(PV.b (decide (a1 > p1_1)))])).bind fun r1 =>
  some ([(PV.b ((r1.getD 0 PV.u)).toB)], [(t_int, [(PV.i p0_1)]), (t_int, [(PV.i p1_1)])]) := by rw [cW_fix]; generalize cW = C; generalize rW = R; kernel_rfl
/- celluloid/movie.noMorph -/
theorem w_movie_noMorph (a1 : Int) (a2 : Int) (a3 : Int) (a4 : Int) (a5 : Int) (a6 : Int) (a7 : Int) (a8 : Int) (a9 : Int) (a10 : List (List PV)) (a11 : List (List PV)) (a12 : List (List PV)) (a13 : List (List PV)) (a14 : List (List PV)) (a15 : List (List PV)) : cW f_movie_noMorph [.i a1, .i a2, .i a3, .i a4, .i a5, .i a6, .i a7, .i a8, .i a9, .l a10, .l a11, .l a12, .l a13, .l a14, .l a15] [] =
  ((bif (a1 == (0 : Int)) then (bif ((a2 == (0 : Int)) && ((a3 == (0 : Int)) && ((a4 == (0 : Int)) && (a5 == (0 : Int))))) then (bif ((a6 == (0 : Int)) && ((a7 == (0 : Int)) && ((a8 == (0 : Int)) && (a9 == (0 : Int))))) then some [(PV.b ((IntKind.wrap .i64 ((IntKind.wrap .i64 ((IntKind.wrap .i64 ((IntKind.wrap .i64 ((IntKind.wrap .i64 ((((List.length a10) : Nat) : Int) + (((List.length a11) : Nat) : Int))) + (((List.length a12) : Nat) : Int))) + (((List.length a13) : Nat) : Int))) + (((List.length a14) : Nat) : Int))) + (((List.length a15) : Nat) : Int))) == (0 : Int)))]
   else some [(PV.b false)])
   else some [(PV.b false)])
   else some [(PV.b false)])).bind fun r1 =>
  some ([(PV.b ((r1.getD 0 PV.u)).toB)], []) := by rw [cW_fix]; generalize cW = C; generalize rW = R; kernel_rfl
/- slices.IndexFunc[[]celluloid/movie.Tag,celluloid/movie.Tag] -/
noncomputable def S_slices_IndexFunc___celluloid_movie_Tag_celluloid_movie_Tag__L0 (x1 : List (List PV)) (x2 : Int) (x3 : Int) : St := mkSt [(0, .v (.sl 60 x1)), (1, .v (.fn 56 [])), (7, .v (.int .i64 x2)), (8, .v (.int .i64 x3))] [] 1000 19
noncomputable def at_slices_IndexFunc___celluloid_movie_Tag_celluloid_movie_Tag__L0 : List Item := (atLoop Tryz.f111 0)
theorem w_slices_IndexFunc___celluloid_movie_Tag_celluloid_movie_Tag_ (a1 : List (List PV)) : cW f_slices_IndexFunc___celluloid_movie_Tag_celluloid_movie_Tag_ [.l a1, (.f f_movie_RightTag_1 0)] [] =
  rW f_slices_IndexFunc___celluloid_movie_Tag_celluloid_movie_Tag_ [] at_slices_IndexFunc___celluloid_movie_Tag_celluloid_movie_Tag__L0 (S_slices_IndexFunc___celluloid_movie_Tag_celluloid_movie_Tag__L0 (a1) ((((List.length a1) : Nat) : Int)) ((0 : Int))) := by rw [cW_fix]; generalize cW = C; generalize rW = R; kernel_rfl
theorem w_slices_IndexFunc___celluloid_movie_Tag_celluloid_movie_Tag__L0 (x1 : List (List PV)) (x2 : Int) (x3 : Int) : rW f_slices_IndexFunc___celluloid_movie_Tag_celluloid_movie_Tag_ [] at_slices_IndexFunc___celluloid_movie_Tag_celluloid_movie_Tag__L0 (S_slices_IndexFunc___celluloid_movie_Tag_celluloid_movie_Tag__L0 x1 x2 x3) =
  (bif (decide (x3 < x2)) then (bif (inB x3 (List.length x1)) then (cW f_movie_RightTag_1 [(PV.i (((elemAt x1 x3).getD 0 PV.u)).toI), (PV.i (((elemAt x1 x3).getD 1 PV.u)).toI), (PV.i (((elemAt x1 x3).getD 2 PV.u)).toI), (PV.i (((elemAt x1 x3).getD 3 PV.u)).toI), (PV.i (((elemAt x1 x3).getD 4 PV.u)).toI), (PV.i (((elemAt x1 x3).getD 5 PV.u)).toI), (PV.i (((elemAt x1 x3).getD 6 PV.u)).toI), (PV.i (((elemAt x1 x3).getD 7 PV.u)).toI), (PV.i (((elemAt x1 x3).getD 8 PV.u)).toI), (PV.i (((elemAt x1 x3).getD 9 PV.u)).toI), (PV.i (((elemAt x1 x3).getD 10 PV.u)).toI), (PV.i (((elemAt x1 x3).getD 11 PV.u)).toI), (PV.i (((elemAt x1 x3).getD 12 PV.u)).toI), (PV.i (((elemAt x1 x3).getD 13 PV.u)).toI), (PV.i (((elemAt x1 x3).getD 14 PV.u)).toI), (PV.i (((elemAt x1 x3).getD 15 PV.u)).toI), (PV.i (((elemAt x1 x3).getD 16 PV.u)).toI), (PV.i (((elemAt x1 x3).getD 17 PV.u)).toI), (PV.i (((elemAt x1 x3).getD 18 PV.u)).toI), (PV.i (((elemAt x1 x3).getD 19 PV.u)).toI), (PV.i (((elemAt x1 x3).getD 20 PV.u)).toI), (PV.i (((elemAt x1 x3).getD 21 PV.u)).toI), (PV.i (((elemAt x1 x3).getD 22 PV.u)).toI), (PV.i (((elemAt x1 x3).getD 23 PV.u)).toI), (PV.i (((elemAt x1 x3).getD 24 PV.u)).toI), (PV.i (((elemAt x1 x3).getD 25 PV.u)).toI), (PV.i (((elemAt x1 x3).getD 26 PV.u)).toI), (PV.i (((elemAt x1 x3).getD 27 PV.u)).toI), (PV.i (((elemAt x1 x3).getD 28 PV.u)).toI), (PV.i (((elemAt x1 x3).getD 29 PV.u)).toI), (PV.l (((elemAt x1 x3).getD 30 PV.u)).toL), (PV.l (((elemAt x1 x3).getD 31 PV.u)).toL), (PV.l (((elemAt x1 x3).getD 32 PV.u)).toL), (PV.i (((elemAt x1 x3).getD 33 PV.u)).toI), (PV.i (((elemAt x1 x3).getD 34 PV.u)).toI), (PV.i (((elemAt x1 x3).getD 35 PV.u)).toI), (PV.i (((elemAt x1 x3).getD 36 PV.u)).toI), (PV.i (((elemAt x1 x3).getD 37 PV.u)).toI), (PV.i (((elemAt x1 x3).getD 38 PV.u)).toI), (PV.i (((elemAt x1 x3).getD 39 PV.u)).toI), (PV.i (((elemAt x1 x3).getD 40 PV.u)).toI), (PV.i (((elemAt x1 x3).getD 41 PV.u)).toI), (PV.l (((elemAt x1 x3).getD 42 PV.u)).toL), (PV.l (((elemAt x1 x3).getD 43 PV.u)).toL), (PV.l (((elemAt x1 x3).getD 44 PV.u)).toL), (PV.l (((elemAt x1 x3).getD 45 PV.u)).toL), (PV.l (((elemAt x1 x3).getD 46 PV.u)).toL), (PV.l (((elemAt x1 x3).getD 47 PV.u)).toL), (PV.i (((elemAt x1 x3).getD 48 PV.u)).toI), (PV.i (((elemAt x1 x3).getD 49 PV.u)).toI), (PV.i (((elemAt x1 x3).getD 50 PV.u)).toI), (PV.l (((elemAt x1 x3).getD 51 PV.u)).toL), (PV.i (((elemAt x1 x3).getD 52 PV.u)).toI), (PV.i (((elemAt x1 x3).getD 53 PV.u)).toI), (PV.l (((elemAt x1 x3).getD 54 PV.u)).toL)] []).bind fun r1 =>
  (bif (((r1).1.getD 0 PV.u)).toB then some ([(PV.i x3)], [])
  else rW f_slices_IndexFunc___celluloid_movie_Tag_celluloid_movie_Tag_ [] at_slices_IndexFunc___celluloid_movie_Tag_celluloid_movie_Tag__L0 (S_slices_IndexFunc___celluloid_movie_Tag_celluloid_movie_Tag__L0 (x1) (x2) ((IntKind.wrap .i64 (x3 + (1 : Int))))))
  else none)
  else some ([(PV.i (-1 : Int))], [])) := by rw [rW_fix]; generalize cW = C; generalize rW = R; kernel_rfl
/- celluloid/celluloidlaw13.mref -/
noncomputable def S_celluloidlaw13_mref_L0 (x1 : Int) (x2 : List (List PV)) (x3 : Int) (x4 : Int) (x5 : List (List PV)) (x6 : Bool) (x7 : Int) (x8 : Int) (x9 : Int) (x10 : Int) (x11 : Int) (x12 : Int) (x13 : Int) (x14 : List (List PV)) (x15 : Bool) (x16 : Int) (x17 : Int) (x18 : Int) (x19 : Int) (x20 : Int) (x21 : Int) (x22 : Int) : St := mkSt [(2, .v (.ptr (.n 1 1 0) 0)), (4, .v (.ptr (.n 2 11 0) 0)), (5, .v (.int .i64 x1)), (23, .v (.sl 60 x2)), (24, .v (.int .i64 x3)), (25, .v (.int .i64 x4))] [((.c (.n 1 1 0) 8), .row 68 x5), ((.n 1 1 0), .cells 29 [.bool x6, .int .i64 x7, .int .i64 x8, .int .i64 x9, .int .i64 x10, .int .i64 x11, .int .i64 x12, .int .i64 x13, .wr (.c (.n 1 1 0) 8)]), ((.c (.n 2 11 0) 8), .row 68 x14), ((.n 2 11 0), .cells 29 [.bool x15, .int .i64 x16, .int .i64 x17, .int .i64 x18, .int .i64 x19, .int .i64 x20, .int .i64 x21, .int .i64 x22, .wr (.c (.n 2 11 0) 8)])] 1000 48
noncomputable def at_celluloidlaw13_mref_L0 : List Item := (atLoop Tryz.f4 0)
theorem w_celluloidlaw13_mref (a1 : Bool) (a2 : Int) (a3 : Int) (a4 : Int) (a5 : Int) (a6 : Int) (a7 : Int) (a8 : Int) (a9 : List (List PV)) : cW f_celluloidlaw13_mref [.b a1, .i a2, .i a3, .i a4, .i a5, .i a6, .i a7, .i a8, .l a9] [] =
  rW f_celluloidlaw13_mref [] at_celluloidlaw13_mref_L0 (S_celluloidlaw13_mref_L0 ((600 : Int)) (a9) ((((List.length a9) : Nat) : Int)) ((0 : Int)) ([]) (false) ((0 : Int)) ((0 : Int)) ((0 : Int)) ((0 : Int)) ((0 : Int)) ((0 : Int)) ((0 : Int)) ([]) (a1) (a2) (a3) (a4) (a5) (a6) (a7) (a8)) := by rw [cW_fix]; generalize cW = C; generalize rW = R; kernel_rfl
theorem w_celluloidlaw13_mref_L0 (x1 : Int) (x2 : List (List PV)) (x3 : Int) (x4 : Int) (x5 : List (List PV)) (x6 : Bool) (x7 : Int) (x8 : Int) (x9 : Int) (x10 : Int) (x11 : Int) (x12 : Int) (x13 : Int) (x14 : List (List PV)) (x15 : Bool) (x16 : Int) (x17 : Int) (x18 : Int) (x19 : Int) (x20 : Int) (x21 : Int) (x22 : Int) : rW f_celluloidlaw13_mref [] at_celluloidlaw13_mref_L0 (S_celluloidlaw13_mref_L0 x1 x2 x3 x4 x5 x6 x7 x8 x9 x10 x11 x12 x13 x14 x15 x16 x17 x18 x19 x20 x21 x22) =
  (bif (decide (x4 < x3)) then (bif (inB x4 (List.length x2)) then (cW f_celluloidlaw13_tref [(PV.i (((elemAt x2 x4).getD 0 PV.u)).toI), (PV.i (((elemAt x2 x4).getD 1 PV.u)).toI), (PV.i (((elemAt x2 x4).getD 2 PV.u)).toI), (PV.i (((elemAt x2 x4).getD 3 PV.u)).toI), (PV.i (((elemAt x2 x4).getD 4 PV.u)).toI), (PV.i (((elemAt x2 x4).getD 5 PV.u)).toI), (PV.i (((elemAt x2 x4).getD 6 PV.u)).toI), (PV.i (((elemAt x2 x4).getD 7 PV.u)).toI), (PV.i (((elemAt x2 x4).getD 8 PV.u)).toI), (PV.i (((elemAt x2 x4).getD 9 PV.u)).toI), (PV.i (((elemAt x2 x4).getD 10 PV.u)).toI), (PV.i (((elemAt x2 x4).getD 11 PV.u)).toI), (PV.i (((elemAt x2 x4).getD 12 PV.u)).toI), (PV.i (((elemAt x2 x4).getD 13 PV.u)).toI), (PV.i (((elemAt x2 x4).getD 14 PV.u)).toI), (PV.i (((elemAt x2 x4).getD 15 PV.u)).toI), (PV.i (((elemAt x2 x4).getD 16 PV.u)).toI), (PV.i (((elemAt x2 x4).getD 17 PV.u)).toI), (PV.i (((elemAt x2 x4).getD 18 PV.u)).toI), (PV.i (((elemAt x2 x4).getD 19 PV.u)).toI), (PV.i (((elemAt x2 x4).getD 20 PV.u)).toI), (PV.i (((elemAt x2 x4).getD 21 PV.u)).toI), (PV.i (((elemAt x2 x4).getD 22 PV.u)).toI), (PV.i (((elemAt x2 x4).getD 23 PV.u)).toI), (PV.i (((elemAt x2 x4).getD 24 PV.u)).toI), (PV.i (((elemAt x2 x4).getD 25 PV.u)).toI), (PV.i (((elemAt x2 x4).getD 26 PV.u)).toI), (PV.i (((elemAt x2 x4).getD 27 PV.u)).toI), (PV.i (((elemAt x2 x4).getD 28 PV.u)).toI), (PV.i (((elemAt x2 x4).getD 29 PV.u)).toI), (PV.l (((elemAt x2 x4).getD 30 PV.u)).toL), (PV.l (((elemAt x2 x4).getD 31 PV.u)).toL), (PV.l (((elemAt x2 x4).getD 32 PV.u)).toL), (PV.i (((elemAt x2 x4).getD 33 PV.u)).toI), (PV.i (((elemAt x2 x4).getD 34 PV.u)).toI), (PV.i (((elemAt x2 x4).getD 35 PV.u)).toI), (PV.i (((elemAt x2 x4).getD 36 PV.u)).toI), (PV.i (((elemAt x2 x4).getD 37 PV.u)).toI), (PV.i (((elemAt x2 x4).getD 38 PV.u)).toI), (PV.i (((elemAt x2 x4).getD 39 PV.u)).toI), (PV.i (((elemAt x2 x4).getD 40 PV.u)).toI), (PV.i (((elemAt x2 x4).getD 41 PV.u)).toI), (PV.l (((elemAt x2 x4).getD 42 PV.u)).toL), (PV.l (((elemAt x2 x4).getD 43 PV.u)).toL), (PV.l (((elemAt x2 x4).getD 44 PV.u)).toL), (PV.l (((elemAt x2 x4).getD 45 PV.u)).toL), (PV.l (((elemAt x2 x4).getD 46 PV.u)).toL), (PV.l (((elemAt x2 x4).getD 47 PV.u)).toL), (PV.i (((elemAt x2 x4).getD 48 PV.u)).toI), (PV.i (((elemAt x2 x4).getD 49 PV.u)).toI), (PV.i (((elemAt x2 x4).getD 50 PV.u)).toI), (PV.l (((elemAt x2 x4).getD 51 PV.u)).toL), (PV.i (((elemAt x2 x4).getD 52 PV.u)).toI), (PV.i (((elemAt x2 x4).getD 53 PV.u)).toI), (PV.l (((elemAt x2 x4).getD 54 PV.u)).toL), (PV.i x1)] []).bind fun r1 =>
  (bif (!(((r1).1.getD 56 PV.u)).toB) then some ([(PV.b x15), (PV.i x16), (PV.i x17), (PV.i x18), (PV.i x19), (PV.i x20), (PV.i x21), (PV.i x22), (PV.l x14), (PV.b false)], [])
  else (bif ((decide ((((List.length x14) + (List.length (List.set [[(PV.i (0 : Int)), (PV.i (0 : Int)), (PV.i (0 : Int)), (PV.i (0 : Int)), (PV.i (0 : Int)), (PV.i (0 : Int)), (PV.i (0 : Int)), (PV.i (0 : Int)), (PV.i (0 : Int)), (PV.i (0 : Int)), (PV.i (0 : Int)), (PV.i (0 : Int)), (PV.i (0 : Int)), (PV.i (0 : Int)), (PV.i (0 : Int)), (PV.i (0 : Int)), (PV.i (0 : Int)), (PV.i (0 : Int)), (PV.i (0 : Int)), (PV.i (0 : Int)), (PV.i (0 : Int)), (PV.i (0 : Int)), (PV.i (0 : Int)), (PV.i (0 : Int)), (PV.i (0 : Int)), (PV.i (0 : Int)), (PV.i (0 : Int)), (PV.i (0 : Int)), (PV.i (0 : Int)), (PV.i (0 : Int)), (PV.l []), (PV.l []), (PV.l []), (PV.i (0 : Int)), (PV.i (0 : Int)), (PV.i (0 : Int)), (PV.i (0 : Int)), (PV.i (0 : Int)), (PV.i (0 : Int)), (PV.i (0 : Int)), (PV.i (0 : Int)), (PV.i (0 : Int)), (PV.l []), (PV.l []), (PV.l []), (PV.l []), (PV.l []), (PV.l []), (PV.i (0 : Int)), (PV.i (0 : Int)), (PV.i (0 : Int)), (PV.l []), (PV.i (0 : Int)), (PV.i (0 : Int)), (PV.l [])]] 0 [(PV.i (((r1).1.getD 0 PV.u)).toI), (PV.i (((r1).1.getD 1 PV.u)).toI), (PV.i (((r1).1.getD 2 PV.u)).toI), (PV.i (((r1).1.getD 3 PV.u)).toI), (PV.i (((r1).1.getD 4 PV.u)).toI), (PV.i (((r1).1.getD 5 PV.u)).toI), (PV.i (((r1).1.getD 6 PV.u)).toI), (PV.i (((r1).1.getD 7 PV.u)).toI), (PV.i (((r1).1.getD 8 PV.u)).toI), (PV.i (((r1).1.getD 9 PV.u)).toI), (PV.i (((r1).1.getD 10 PV.u)).toI), (PV.i (((r1).1.getD 11 PV.u)).toI), (PV.i (((r1).1.getD 12 PV.u)).toI), (PV.i (((r1).1.getD 13 PV.u)).toI), (PV.i (((r1).1.getD 14 PV.u)).toI), (PV.i (((r1).1.getD 15 PV.u)).toI), (PV.i (((r1).1.getD 16 PV.u)).toI), (PV.i (((r1).1.getD 17 PV.u)).toI), (PV.i (((r1).1.getD 18 PV.u)).toI), (PV.i (((r1).1.getD 19 PV.u)).toI), (PV.i (((r1).1.getD 20 PV.u)).toI), (PV.i (((r1).1.getD 21 PV.u)).toI), (PV.i (((r1).1.getD 22 PV.u)).toI), (PV.i (((r1).1.getD 23 PV.u)).toI), (PV.i (((r1).1.getD 24 PV.u)).toI), (PV.i (((r1).1.getD 25 PV.u)).toI), (PV.i (((r1).1.getD 26 PV.u)).toI), (PV.i (((r1).1.getD 27 PV.u)).toI), (PV.i (((r1).1.getD 28 PV.u)).toI), (PV.i (((r1).1.getD 29 PV.u)).toI), (PV.l (((r1).1.getD 30 PV.u)).toL), (PV.l (((r1).1.getD 31 PV.u)).toL), (PV.l (((r1).1.getD 32 PV.u)).toL), (PV.i (((r1).1.getD 33 PV.u)).toI), (PV.i (((r1).1.getD 34 PV.u)).toI), (PV.i (((r1).1.getD 35 PV.u)).toI), (PV.i (((r1).1.getD 36 PV.u)).toI), (PV.i (((r1).1.getD 37 PV.u)).toI), (PV.i (((r1).1.getD 38 PV.u)).toI), (PV.i (((r1).1.getD 39 PV.u)).toI), (PV.i (((r1).1.getD 40 PV.u)).toI), (PV.i (((r1).1.getD 41 PV.u)).toI), (PV.l (((r1).1.getD 42 PV.u)).toL), (PV.l (((r1).1.getD 43 PV.u)).toL), (PV.l (((r1).1.getD 44 PV.u)).toL), (PV.l (((r1).1.getD 45 PV.u)).toL), (PV.l (((r1).1.getD 46 PV.u)).toL), (PV.l (((r1).1.getD 47 PV.u)).toL), (PV.i (((r1).1.getD 48 PV.u)).toI), (PV.i (((r1).1.getD 49 PV.u)).toI), (PV.i (((r1).1.getD 50 PV.u)).toI), (PV.l (((r1).1.getD 51 PV.u)).toL), (PV.i (((r1).1.getD 52 PV.u)).toI), (PV.i (((r1).1.getD 53 PV.u)).toI), (PV.l (((r1).1.getD 54 PV.u)).toL)]))) * 616) ≤ 140737488355328)) && (decide (((List.length x14) + (List.length (List.set [[(PV.i (0 : Int)), (PV.i (0 : Int)), (PV.i (0 : Int)), (PV.i (0 : Int)), (PV.i (0 : Int)), (PV.i (0 : Int)), (PV.i (0 : Int)), (PV.i (0 : Int)), (PV.i (0 : Int)), (PV.i (0 : Int)), (PV.i (0 : Int)), (PV.i (0 : Int)), (PV.i (0 : Int)), (PV.i (0 : Int)), (PV.i (0 : Int)), (PV.i (0 : Int)), (PV.i (0 : Int)), (PV.i (0 : Int)), (PV.i (0 : Int)), (PV.i (0 : Int)), (PV.i (0 : Int)), (PV.i (0 : Int)), (PV.i (0 : Int)), (PV.i (0 : Int)), (PV.i (0 : Int)), (PV.i (0 : Int)), (PV.i (0 : Int)), (PV.i (0 : Int)), (PV.i (0 : Int)), (PV.i (0 : Int)), (PV.l []), (PV.l []), (PV.l []), (PV.i (0 : Int)), (PV.i (0 : Int)), (PV.i (0 : Int)), (PV.i (0 : Int)), (PV.i (0 : Int)), (PV.i (0 : Int)), (PV.i (0 : Int)), (PV.i (0 : Int)), (PV.i (0 : Int)), (PV.l []), (PV.l []), (PV.l []), (PV.l []), (PV.l []), (PV.l []), (PV.i (0 : Int)), (PV.i (0 : Int)), (PV.i (0 : Int)), (PV.l []), (PV.i (0 : Int)), (PV.i (0 : Int)), (PV.l [])]] 0 [(PV.i (((r1).1.getD 0 PV.u)).toI), (PV.i (((r1).1.getD 1 PV.u)).toI), (PV.i (((r1).1.getD 2 PV.u)).toI), (PV.i (((r1).1.getD 3 PV.u)).toI), (PV.i (((r1).1.getD 4 PV.u)).toI), (PV.i (((r1).1.getD 5 PV.u)).toI), (PV.i (((r1).1.getD 6 PV.u)).toI), (PV.i (((r1).1.getD 7 PV.u)).toI), (PV.i (((r1).1.getD 8 PV.u)).toI), (PV.i (((r1).1.getD 9 PV.u)).toI), (PV.i (((r1).1.getD 10 PV.u)).toI), (PV.i (((r1).1.getD 11 PV.u)).toI), (PV.i (((r1).1.getD 12 PV.u)).toI), (PV.i (((r1).1.getD 13 PV.u)).toI), (PV.i (((r1).1.getD 14 PV.u)).toI), (PV.i (((r1).1.getD 15 PV.u)).toI), (PV.i (((r1).1.getD 16 PV.u)).toI), (PV.i (((r1).1.getD 17 PV.u)).toI), (PV.i (((r1).1.getD 18 PV.u)).toI), (PV.i (((r1).1.getD 19 PV.u)).toI), (PV.i (((r1).1.getD 20 PV.u)).toI), (PV.i (((r1).1.getD 21 PV.u)).toI), (PV.i (((r1).1.getD 22 PV.u)).toI), (PV.i (((r1).1.getD 23 PV.u)).toI), (PV.i (((r1).1.getD 24 PV.u)).toI), (PV.i (((r1).1.getD 25 PV.u)).toI), (PV.i (((r1).1.getD 26 PV.u)).toI), (PV.i (((r1).1.getD 27 PV.u)).toI), (PV.i (((r1).1.getD 28 PV.u)).toI), (PV.i (((r1).1.getD 29 PV.u)).toI), (PV.l (((r1).1.getD 30 PV.u)).toL), (PV.l (((r1).1.getD 31 PV.u)).toL), (PV.l (((r1).1.getD 32 PV.u)).toL), (PV.i (((r1).1.getD 33 PV.u)).toI), (PV.i (((r1).1.getD 34 PV.u)).toI), (PV.i (((r1).1.getD 35 PV.u)).toI), (PV.i (((r1).1.getD 36 PV.u)).toI), (PV.i (((r1).1.getD 37 PV.u)).toI), (PV.i (((r1).1.getD 38 PV.u)).toI), (PV.i (((r1).1.getD 39 PV.u)).toI), (PV.i (((r1).1.getD 40 PV.u)).toI), (PV.i (((r1).1.getD 41 PV.u)).toI), (PV.l (((r1).1.getD 42 PV.u)).toL), (PV.l (((r1).1.getD 43 PV.u)).toL), (PV.l (((r1).1.getD 44 PV.u)).toL), (PV.l (((r1).1.getD 45 PV.u)).toL), (PV.l (((r1).1.getD 46 PV.u)).toL), (PV.l (((r1).1.getD 47 PV.u)).toL), (PV.i (((r1).1.getD 48 PV.u)).toI), (PV.i (((r1).1.getD 49 PV.u)).toI), (PV.i (((r1).1.getD 50 PV.u)).toI), (PV.l (((r1).1.getD 51 PV.u)).toL), (PV.i (((r1).1.getD 52 PV.u)).toI), (PV.i (((r1).1.getD 53 PV.u)).toI), (PV.l (((r1).1.getD 54 PV.u)).toL)]))) ≤ 4611686018427387904))) then rW f_celluloidlaw13_mref [] at_celluloidlaw13_mref_L0 (S_celluloidlaw13_mref_L0 ((((r1).1.getD 55 PV.u)).toI) (x2) (x3) ((IntKind.wrap .i64 (x4 + (1 : Int)))) (x5) (x6) (x7) (x8) (x9) (x10) (x11) (x12) (x13) ((x14 ++ (List.set [[(PV.i (0 : Int)), (PV.i (0 : Int)), (PV.i (0 : Int)), (PV.i (0 : Int)), (PV.i (0 : Int)), (PV.i (0 : Int)), (PV.i (0 : Int)), (PV.i (0 : Int)), (PV.i (0 : Int)), (PV.i (0 : Int)), (PV.i (0 : Int)), (PV.i (0 : Int)), (PV.i (0 : Int)), (PV.i (0 : Int)), (PV.i (0 : Int)), (PV.i (0 : Int)), (PV.i (0 : Int)), (PV.i (0 : Int)), (PV.i (0 : Int)), (PV.i (0 : Int)), (PV.i (0 : Int)), (PV.i (0 : Int)), (PV.i (0 : Int)), (PV.i (0 : Int)), (PV.i (0 : Int)), (PV.i (0 : Int)), (PV.i (0 : Int)), (PV.i (0 : Int)), (PV.i (0 : Int)), (PV.i (0 : Int)), (PV.l []), (PV.l []), (PV.l []), (PV.i (0 : Int)), (PV.i (0 : Int)), (PV.i (0 : Int)), (PV.i (0 : Int)), (PV.i (0 : Int)), (PV.i (0 : Int)), (PV.i (0 : Int)), (PV.i (0 : Int)), (PV.i (0 : Int)), (PV.l []), (PV.l []), (PV.l []), (PV.l []), (PV.l []), (PV.l []), (PV.i (0 : Int)), (PV.i (0 : Int)), (PV.i (0 : Int)), (PV.l []), (PV.i (0 : Int)), (PV.i (0 : Int)), (PV.l [])]] 0 [(PV.i (((r1).1.getD 0 PV.u)).toI), (PV.i (((r1).1.getD 1 PV.u)).toI), (PV.i (((r1).1.getD 2 PV.u)).toI), (PV.i (((r1).1.getD 3 PV.u)).toI), (PV.i (((r1).1.getD 4 PV.u)).toI), (PV.i (((r1).1.getD 5 PV.u)).toI), (PV.i (((r1).1.getD 6 PV.u)).toI), (PV.i (((r1).1.getD 7 PV.u)).toI), (PV.i (((r1).1.getD 8 PV.u)).toI), (PV.i (((r1).1.getD 9 PV.u)).toI), (PV.i (((r1).1.getD 10 PV.u)).toI), (PV.i (((r1).1.getD 11 PV.u)).toI), (PV.i (((r1).1.getD 12 PV.u)).toI), (PV.i (((r1).1.getD 13 PV.u)).toI), (PV.i (((r1).1.getD 14 PV.u)).toI), (PV.i (((r1).1.getD 15 PV.u)).toI), (PV.i (((r1).1.getD 16 PV.u)).toI), (PV.i (((r1).1.getD 17 PV.u)).toI), (PV.i (((r1).1.getD 18 PV.u)).toI), (PV.i (((r1).1.getD 19 PV.u)).toI), (PV.i (((r1).1.getD 20 PV.u)).toI), (PV.i (((r1).1.getD 21 PV.u)).toI), (PV.i (((r1).1.getD 22 PV.u)).toI), (PV.i (((r1).1.getD 23 PV.u)).toI), (PV.i (((r1).1.getD 24 PV.u)).toI), (PV.i (((r1).1.getD 25 PV.u)).toI), (PV.i (((r1).1.getD 26 PV.u)).toI), (PV.i (((r1).1.getD 27 PV.u)).toI), (PV.i (((r1).1.getD 28 PV.u)).toI), (PV.i (((r1).1.getD 29 PV.u)).toI), (PV.l (((r1).1.getD 30 PV.u)).toL), (PV.l (((r1).1.getD 31 PV.u)).toL), (PV.l (((r1).1.getD 32 PV.u)).toL), (PV.i (((r1).1.getD 33 PV.u)).toI), (PV.i (((r1).1.getD 34 PV.u)).toI), (PV.i (((r1).1.getD 35 PV.u)).toI), (PV.i (((r1).1.getD 36 PV.u)).toI), (PV.i (((r1).1.getD 37 PV.u)).toI), (PV.i (((r1).1.getD 38 PV.u)).toI), (PV.i (((r1).1.getD 39 PV.u)).toI), (PV.i (((r1).1.getD 40 PV.u)).toI), (PV.i (((r1).1.getD 41 PV.u)).toI), (PV.l (((r1).1.getD 42 PV.u)).toL), (PV.l (((r1).1.getD 43 PV.u)).toL), (PV.l (((r1).1.getD 44 PV.u)).toL), (PV.l (((r1).1.getD 45 PV.u)).toL), (PV.l (((r1).1.getD 46 PV.u)).toL), (PV.l (((r1).1.getD 47 PV.u)).toL), (PV.i (((r1).1.getD 48 PV.u)).toI), (PV.i (((r1).1.getD 49 PV.u)).toI), (PV.i (((r1).1.getD 50 PV.u)).toI), (PV.l (((r1).1.getD 51 PV.u)).toL), (PV.i (((r1).1.getD 52 PV.u)).toI), (PV.i (((r1).1.getD 53 PV.u)).toI), (PV.l (((r1).1.getD 54 PV.u)).toL)]))) (x15) (x16) (x17) (x18) (x19) (x20) (x21) (x22))
  else none))
  else none)
  else some ([(PV.b x15), (PV.i x16), (PV.i x17), (PV.i x18), (PV.i x19), (PV.i x20), (PV.i x21), (PV.i x22), (PV.l x14), (PV.b true)], [])) := by rw [rW_fix]; generalize cW = C; generalize rW = R; kernel_rfl
/- celluloid/movie.PutTag -/
/- celluloid/movie.put -/
theorem w_movie_put (a1 : Int) (a2 : Int) (a3 : Int) (a4 : Int) (a5 : Int) (a6 : Int) (a7 : Int) (a8 : Int) (a9 : Int) (a10 : Int) (a11 : Int) (a12 : Int) (a13 : Int) (a14 : Int) (a15 : Int) (a16 : Int) (a17 : Int) (a18 : Int) (a19 : Int) : cW f_movie_put [.i a1, .i a2, .i a3, .i a4, .i a5, .i a6, .i a7, .i a8, .i a9, .i a10, .i a11, .i a12, .i a13, .i a14, .i a15, .i a16, .i a17, .i a18, .i a19] [] =
  (cW f_bits_PutBytes [(PV.s []), (PV.i (0 : Int)), (PV.s (toBytes (List.set [[(PV.i (0 : Int))]] 0 [(PV.i (IntKind.wrap .u8 a1))])))] []).bind fun r1 =>
  (cW f_bits_PutLittle [(PV.s (((r1).1.getD 0 PV.u)).toS), (PV.i (((r1).1.getD 1 PV.u)).toI), (PV.i a2), (PV.i (2 : Int))] []).bind fun r2 =>
  (bif ((bitsOp Go.BinOp.and .i64 a1 (2 : Int)) != (0 : Int)) then (cW f_bits_PutLittle [(PV.s (((r2).1.getD 0 PV.u)).toS), (PV.i (((r2).1.getD 1 PV.u)).toI), (PV.i a3), (PV.i (2 : Int))] []).bind fun r3 =>
  (bif ((bitsOp Go.BinOp.and .i64 a1 (4 : Int)) != (0 : Int)) then (cW f_field_PutMatrix [(PV.s (((r3).1.getD 0 PV.u)).toS), (PV.i (((r3).1.getD 1 PV.u)).toI), (PV.i a4), (PV.i a5), (PV.i a6), (PV.i a7), (PV.i a8), (PV.i a9)] []).bind fun r4 =>
  (bif ((bitsOp Go.BinOp.and .i64 a1 (8 : Int)) != (0 : Int)) then (cW f_field_PutCx [(PV.s (((r4).1.getD 0 PV.u)).toS), (PV.i (((r4).1.getD 1 PV.u)).toI), (PV.i a10), (PV.i a11), (PV.i a12), (PV.i a13), (PV.i a14), (PV.i a15), (PV.i a16), (PV.i a17)] []).bind fun r5 =>
  (bif ((bitsOp Go.BinOp.and .i64 a1 (16 : Int)) != (0 : Int)) then (cW f_bits_PutLittle [(PV.s (((r5).1.getD 0 PV.u)).toS), (PV.i (((r5).1.getD 1 PV.u)).toI), (PV.i a18), (PV.i (2 : Int))] []).bind fun r6 =>
  (bif ((bitsOp Go.BinOp.and .i64 a1 (64 : Int)) != (0 : Int)) then (cW f_bits_PutLittle [(PV.s (((r6).1.getD 0 PV.u)).toS), (PV.i (((r6).1.getD 1 PV.u)).toI), (PV.i a19), (PV.i (2 : Int))] []).bind fun r7 =>
  some ([(PV.s (((r7).1.getD 0 PV.u)).toS)], [])
  else some ([(PV.s (((r6).1.getD 0 PV.u)).toS)], []))
  else (bif ((bitsOp Go.BinOp.and .i64 a1 (64 : Int)) != (0 : Int)) then (cW f_bits_PutLittle [(PV.s (((r5).1.getD 0 PV.u)).toS), (PV.i (((r5).1.getD 1 PV.u)).toI), (PV.i a19), (PV.i (2 : Int))] []).bind fun r8 =>
  some ([(PV.s (((r8).1.getD 0 PV.u)).toS)], [])
  else some ([(PV.s (((r5).1.getD 0 PV.u)).toS)], [])))
  else (bif ((bitsOp Go.BinOp.and .i64 a1 (16 : Int)) != (0 : Int)) then (cW f_bits_PutLittle [(PV.s (((r4).1.getD 0 PV.u)).toS), (PV.i (((r4).1.getD 1 PV.u)).toI), (PV.i a18), (PV.i (2 : Int))] []).bind fun r9 =>
  (bif ((bitsOp Go.BinOp.and .i64 a1 (64 : Int)) != (0 : Int)) then (cW f_bits_PutLittle [(PV.s (((r9).1.getD 0 PV.u)).toS), (PV.i (((r9).1.getD 1 PV.u)).toI), (PV.i a19), (PV.i (2 : Int))] []).bind fun r10 =>
  some ([(PV.s (((r10).1.getD 0 PV.u)).toS)], [])
  else some ([(PV.s (((r9).1.getD 0 PV.u)).toS)], []))
  else (bif ((bitsOp Go.BinOp.and .i64 a1 (64 : Int)) != (0 : Int)) then (cW f_bits_PutLittle [(PV.s (((r4).1.getD 0 PV.u)).toS), (PV.i (((r4).1.getD 1 PV.u)).toI), (PV.i a19), (PV.i (2 : Int))] []).bind fun r11 =>
  some ([(PV.s (((r11).1.getD 0 PV.u)).toS)], [])
  else some ([(PV.s (((r4).1.getD 0 PV.u)).toS)], []))))
  else (bif ((bitsOp Go.BinOp.and .i64 a1 (8 : Int)) != (0 : Int)) then (cW f_field_PutCx [(PV.s (((r3).1.getD 0 PV.u)).toS), (PV.i (((r3).1.getD 1 PV.u)).toI), (PV.i a10), (PV.i a11), (PV.i a12), (PV.i a13), (PV.i a14), (PV.i a15), (PV.i a16), (PV.i a17)] []).bind fun r12 =>
  (bif ((bitsOp Go.BinOp.and .i64 a1 (16 : Int)) != (0 : Int)) then (cW f_bits_PutLittle [(PV.s (((r12).1.getD 0 PV.u)).toS), (PV.i (((r12).1.getD 1 PV.u)).toI), (PV.i a18), (PV.i (2 : Int))] []).bind fun r13 =>
  (bif ((bitsOp Go.BinOp.and .i64 a1 (64 : Int)) != (0 : Int)) then (cW f_bits_PutLittle [(PV.s (((r13).1.getD 0 PV.u)).toS), (PV.i (((r13).1.getD 1 PV.u)).toI), (PV.i a19), (PV.i (2 : Int))] []).bind fun r14 =>
  some ([(PV.s (((r14).1.getD 0 PV.u)).toS)], [])
  else some ([(PV.s (((r13).1.getD 0 PV.u)).toS)], []))
  else (bif ((bitsOp Go.BinOp.and .i64 a1 (64 : Int)) != (0 : Int)) then (cW f_bits_PutLittle [(PV.s (((r12).1.getD 0 PV.u)).toS), (PV.i (((r12).1.getD 1 PV.u)).toI), (PV.i a19), (PV.i (2 : Int))] []).bind fun r15 =>
  some ([(PV.s (((r15).1.getD 0 PV.u)).toS)], [])
  else some ([(PV.s (((r12).1.getD 0 PV.u)).toS)], [])))
  else (bif ((bitsOp Go.BinOp.and .i64 a1 (16 : Int)) != (0 : Int)) then (cW f_bits_PutLittle [(PV.s (((r3).1.getD 0 PV.u)).toS), (PV.i (((r3).1.getD 1 PV.u)).toI), (PV.i a18), (PV.i (2 : Int))] []).bind fun r16 =>
  (bif ((bitsOp Go.BinOp.and .i64 a1 (64 : Int)) != (0 : Int)) then (cW f_bits_PutLittle [(PV.s (((r16).1.getD 0 PV.u)).toS), (PV.i (((r16).1.getD 1 PV.u)).toI), (PV.i a19), (PV.i (2 : Int))] []).bind fun r17 =>
  some ([(PV.s (((r17).1.getD 0 PV.u)).toS)], [])
  else some ([(PV.s (((r16).1.getD 0 PV.u)).toS)], []))
  else (bif ((bitsOp Go.BinOp.and .i64 a1 (64 : Int)) != (0 : Int)) then (cW f_bits_PutLittle [(PV.s (((r3).1.getD 0 PV.u)).toS), (PV.i (((r3).1.getD 1 PV.u)).toI), (PV.i a19), (PV.i (2 : Int))] []).bind fun r18 =>
  some ([(PV.s (((r18).1.getD 0 PV.u)).toS)], [])
  else some ([(PV.s (((r3).1.getD 0 PV.u)).toS)], [])))))
  else (bif ((bitsOp Go.BinOp.and .i64 a1 (4 : Int)) != (0 : Int)) then (cW f_field_PutMatrix [(PV.s (((r2).1.getD 0 PV.u)).toS), (PV.i (((r2).1.getD 1 PV.u)).toI), (PV.i a4), (PV.i a5), (PV.i a6), (PV.i a7), (PV.i a8), (PV.i a9)] []).bind fun r19 =>
  (bif ((bitsOp Go.BinOp.and .i64 a1 (8 : Int)) != (0 : Int)) then (cW f_field_PutCx [(PV.s (((r19).1.getD 0 PV.u)).toS), (PV.i (((r19).1.getD 1 PV.u)).toI), (PV.i a10), (PV.i a11), (PV.i a12), (PV.i a13), (PV.i a14), (PV.i a15), (PV.i a16), (PV.i a17)] []).bind fun r20 =>
  (bif ((bitsOp Go.BinOp.and .i64 a1 (16 : Int)) != (0 : Int)) then (cW f_bits_PutLittle [(PV.s (((r20).1.getD 0 PV.u)).toS), (PV.i (((r20).1.getD 1 PV.u)).toI), (PV.i a18), (PV.i (2 : Int))] []).bind fun r21 =>
  (bif ((bitsOp Go.BinOp.and .i64 a1 (64 : Int)) != (0 : Int)) then (cW f_bits_PutLittle [(PV.s (((r21).1.getD 0 PV.u)).toS), (PV.i (((r21).1.getD 1 PV.u)).toI), (PV.i a19), (PV.i (2 : Int))] []).bind fun r22 =>
  some ([(PV.s (((r22).1.getD 0 PV.u)).toS)], [])
  else some ([(PV.s (((r21).1.getD 0 PV.u)).toS)], []))
  else (bif ((bitsOp Go.BinOp.and .i64 a1 (64 : Int)) != (0 : Int)) then (cW f_bits_PutLittle [(PV.s (((r20).1.getD 0 PV.u)).toS), (PV.i (((r20).1.getD 1 PV.u)).toI), (PV.i a19), (PV.i (2 : Int))] []).bind fun r23 =>
  some ([(PV.s (((r23).1.getD 0 PV.u)).toS)], [])
  else some ([(PV.s (((r20).1.getD 0 PV.u)).toS)], [])))
  else (bif ((bitsOp Go.BinOp.and .i64 a1 (16 : Int)) != (0 : Int)) then (cW f_bits_PutLittle [(PV.s (((r19).1.getD 0 PV.u)).toS), (PV.i (((r19).1.getD 1 PV.u)).toI), (PV.i a18), (PV.i (2 : Int))] []).bind fun r24 =>
  (bif ((bitsOp Go.BinOp.and .i64 a1 (64 : Int)) != (0 : Int)) then (cW f_bits_PutLittle [(PV.s (((r24).1.getD 0 PV.u)).toS), (PV.i (((r24).1.getD 1 PV.u)).toI), (PV.i a19), (PV.i (2 : Int))] []).bind fun r25 =>
  some ([(PV.s (((r25).1.getD 0 PV.u)).toS)], [])
  else some ([(PV.s (((r24).1.getD 0 PV.u)).toS)], []))
  else (bif ((bitsOp Go.BinOp.and .i64 a1 (64 : Int)) != (0 : Int)) then (cW f_bits_PutLittle [(PV.s (((r19).1.getD 0 PV.u)).toS), (PV.i (((r19).1.getD 1 PV.u)).toI), (PV.i a19), (PV.i (2 : Int))] []).bind fun r26 =>
  some ([(PV.s (((r26).1.getD 0 PV.u)).toS)], [])
  else some ([(PV.s (((r19).1.getD 0 PV.u)).toS)], []))))
  else (bif ((bitsOp Go.BinOp.and .i64 a1 (8 : Int)) != (0 : Int)) then (cW f_field_PutCx [(PV.s (((r2).1.getD 0 PV.u)).toS), (PV.i (((r2).1.getD 1 PV.u)).toI), (PV.i a10), (PV.i a11), (PV.i a12), (PV.i a13), (PV.i a14), (PV.i a15), (PV.i a16), (PV.i a17)] []).bind fun r27 =>
  (bif ((bitsOp Go.BinOp.and .i64 a1 (16 : Int)) != (0 : Int)) then (cW f_bits_PutLittle [(PV.s (((r27).1.getD 0 PV.u)).toS), (PV.i (((r27).1.getD 1 PV.u)).toI), (PV.i a18), (PV.i (2 : Int))] []).bind fun r28 =>
  (bif ((bitsOp Go.BinOp.and .i64 a1 (64 : Int)) != (0 : Int)) then (cW f_bits_PutLittle [(PV.s (((r28).1.getD 0 PV.u)).toS), (PV.i (((r28).1.getD 1 PV.u)).toI), (PV.i a19), (PV.i (2 : Int))] []).bind fun r29 =>
  some ([(PV.s (((r29).1.getD 0 PV.u)).toS)], [])
  else some ([(PV.s (((r28).1.getD 0 PV.u)).toS)], []))
  else (bif ((bitsOp Go.BinOp.and .i64 a1 (64 : Int)) != (0 : Int)) then (cW f_bits_PutLittle [(PV.s (((r27).1.getD 0 PV.u)).toS), (PV.i (((r27).1.getD 1 PV.u)).toI), (PV.i a19), (PV.i (2 : Int))] []).bind fun r30 =>
  some ([(PV.s (((r30).1.getD 0 PV.u)).toS)], [])
  else some ([(PV.s (((r27).1.getD 0 PV.u)).toS)], [])))
  else (bif ((bitsOp Go.BinOp.and .i64 a1 (16 : Int)) != (0 : Int)) then (cW f_bits_PutLittle [(PV.s (((r2).1.getD 0 PV.u)).toS), (PV.i (((r2).1.getD 1 PV.u)).toI), (PV.i a18), (PV.i (2 : Int))] []).bind fun r31 =>
  (bif ((bitsOp Go.BinOp.and .i64 a1 (64 : Int)) != (0 : Int)) then (cW f_bits_PutLittle [(PV.s (((r31).1.getD 0 PV.u)).toS), (PV.i (((r31).1.getD 1 PV.u)).toI), (PV.i a19), (PV.i (2 : Int))] []).bind fun r32 =>
  some ([(PV.s (((r32).1.getD 0 PV.u)).toS)], [])
  else some ([(PV.s (((r31).1.getD 0 PV.u)).toS)], []))
  else (bif ((bitsOp Go.BinOp.and .i64 a1 (64 : Int)) != (0 : Int)) then (cW f_bits_PutLittle [(PV.s (((r2).1.getD 0 PV.u)).toS), (PV.i (((r2).1.getD 1 PV.u)).toI), (PV.i a19), (PV.i (2 : Int))] []).bind fun r33 =>
  some ([(PV.s (((r33).1.getD 0 PV.u)).toS)], [])
  else some ([(PV.s (((r2).1.getD 0 PV.u)).toS)], [])))))) := by rw [cW_fix]; generalize cW = C; generalize rW = R; kernel_rfl
/- celluloid/pixel.Put -/
noncomputable def S_pixel_Put_L0 (x1 : List (List PV)) (x2 : Int) (x3 : Int) (x4 : List (List PV)) (x5 : List UInt8) (x6 : Int) : St := mkSt [(4, .v (.ptr (.n 3 7 0) 0)), (6, .v (.wr (.w 6))), (40, .v (.sl 39 x1)), (41, .v (.int .i64 x2)), (42, .v (.int .i64 x3))] [((.w 6), .row 5 x4), ((.n 3 7 0), .cells 80 [.str x5, .int .i64 x6])] 1000 73
noncomputable def at_pixel_Put_L0 : List Item := (atLoop Tryz.f27 0)
/- celluloid/movie.empty -/
theorem w_movie_empty (a1 : Int) (a2 : Int) (a3 : Int) (a4 : Int) (a5 : Int) (a6 : Int) (a7 : Int) (a8 : Int) (a9 : Int) (a10 : Int) (a11 : Int) (a12 : Int) (a13 : Int) (a14 : Int) (a15 : Int) (a16 : Int) (a17 : Int) (a18 : Int) (a19 : Int) (a20 : Int) (a21 : Int) (a22 : Int) (a23 : Int) (a24 : Int) (a25 : Int) (a26 : Int) (a27 : Int) (a28 : Int) (a29 : Int) (a30 : Int) (a31 : List (List PV)) (a32 : List (List PV)) (a33 : List (List PV)) (a34 : Int) (a35 : Int) (a36 : Int) (a37 : Int) (a38 : Int) (a39 : Int) (a40 : Int) (a41 : Int) (a42 : Int) (a43 : List (List PV)) (a44 : List (List PV)) (a45 : List (List PV)) (a46 : List (List PV)) (a47 : List (List PV)) (a48 : List (List PV)) (a49 : Int) (a50 : Int) (a51 : Int) (a52 : List (List PV)) (a53 : Int) (a54 : Int) (a55 : List (List PV)) : cW f_movie_empty [.i a1, .i a2, .i a3, .i a4, .i a5, .i a6, .i a7, .i a8, .i a9, .i a10, .i a11, .i a12, .i a13, .i a14, .i a15, .i a16, .i a17, .i a18, .i a19, .i a20, .i a21, .i a22, .i a23, .i a24, .i a25, .i a26, .i a27, .i a28, .i a29, .i a30, .l a31, .l a32, .l a33, .i a34, .i a35, .i a36, .i a37, .i a38, .i a39, .i a40, .i a41, .i a42, .l a43, .l a44, .l a45, .l a46, .l a47, .l a48, .i a49, .i a50, .i a51, .l a52, .i a53, .i a54, .l a55] [] =
  ((bif (a1 == (28 : Int)) then (bif (a1 == (9 : Int)) then (bif (a1 == (26 : Int)) then (bif (a1 == (32 : Int)) then (bif (a1 == (46 : Int)) then (bif (a1 == (36 : Int)) then (bif (a1 == (39 : Int)) then some [(PV.b true)]
   else (bif (a53 == (0 : Int)) then (bif (a54 == (0 : Int)) then some [(PV.b ((((List.length a55) : Nat) : Int) == (0 : Int)))]
   else some [(PV.b false)])
   else some [(PV.b false)]))
   else (bif (a49 == (0 : Int)) then (bif (a50 == (0 : Int)) then (bif (a51 == (0 : Int)) then (bif ((((List.length a52) : Nat) : Int) == (0 : Int)) then (bif (a1 == (39 : Int)) then some [(PV.b true)]
   else (bif (a53 == (0 : Int)) then (bif (a54 == (0 : Int)) then some [(PV.b ((((List.length a55) : Nat) : Int) == (0 : Int)))]
   else some [(PV.b false)])
   else some [(PV.b false)]))
   else some [(PV.b false)])
   else some [(PV.b false)])
   else some [(PV.b false)])
   else some [(PV.b false)]))
   else (cW f_movie_noMorph [(PV.i a34), (PV.i a35), (PV.i a36), (PV.i a37), (PV.i a38), (PV.i a39), (PV.i a40), (PV.i a41), (PV.i a42), (PV.l a43), (PV.l a44), (PV.l a45), (PV.l a46), (PV.l a47), (PV.l a48)] []).bind fun r24 =>
   (bif (((r24).1.getD 0 PV.u)).toB then (bif (a1 == (36 : Int)) then (bif (a1 == (39 : Int)) then some [(PV.b true)]
   else (bif (a53 == (0 : Int)) then (bif (a54 == (0 : Int)) then some [(PV.b ((((List.length a55) : Nat) : Int) == (0 : Int)))]
   else some [(PV.b false)])
   else some [(PV.b false)]))
   else (bif (a49 == (0 : Int)) then (bif (a50 == (0 : Int)) then (bif (a51 == (0 : Int)) then (bif ((((List.length a52) : Nat) : Int) == (0 : Int)) then (bif (a1 == (39 : Int)) then some [(PV.b true)]
   else (bif (a53 == (0 : Int)) then (bif (a54 == (0 : Int)) then some [(PV.b ((((List.length a55) : Nat) : Int) == (0 : Int)))]
   else some [(PV.b false)])
   else some [(PV.b false)]))
   else some [(PV.b false)])
   else some [(PV.b false)])
   else some [(PV.b false)])
   else some [(PV.b false)]))
   else some [(PV.b false)]))
   else (cW f_movie_noShape [(PV.i a26), (PV.i a27), (PV.i a28), (PV.i a29), (PV.i a30), (PV.l a31), (PV.l a32), (PV.l a33)] []).bind fun r22 =>
   (bif (((r22).1.getD 0 PV.u)).toB then (bif (a1 == (46 : Int)) then (bif (a1 == (36 : Int)) then (bif (a1 == (39 : Int)) then some [(PV.b true)]
   else (bif (a53 == (0 : Int)) then (bif (a54 == (0 : Int)) then some [(PV.b ((((List.length a55) : Nat) : Int) == (0 : Int)))]
   else some [(PV.b false)])
   else some [(PV.b false)]))
   else (bif (a49 == (0 : Int)) then (bif (a50 == (0 : Int)) then (bif (a51 == (0 : Int)) then (bif ((((List.length a52) : Nat) : Int) == (0 : Int)) then (bif (a1 == (39 : Int)) then some [(PV.b true)]
   else (bif (a53 == (0 : Int)) then (bif (a54 == (0 : Int)) then some [(PV.b ((((List.length a55) : Nat) : Int) == (0 : Int)))]
   else some [(PV.b false)])
   else some [(PV.b false)]))
   else some [(PV.b false)])
   else some [(PV.b false)])
   else some [(PV.b false)])
   else some [(PV.b false)]))
   else (cW f_movie_noMorph [(PV.i a34), (PV.i a35), (PV.i a36), (PV.i a37), (PV.i a38), (PV.i a39), (PV.i a40), (PV.i a41), (PV.i a42), (PV.l a43), (PV.l a44), (PV.l a45), (PV.l a46), (PV.l a47), (PV.l a48)] []).bind fun r23 =>
   (bif (((r23).1.getD 0 PV.u)).toB then (bif (a1 == (36 : Int)) then (bif (a1 == (39 : Int)) then some [(PV.b true)]
   else (bif (a53 == (0 : Int)) then (bif (a54 == (0 : Int)) then some [(PV.b ((((List.length a55) : Nat) : Int) == (0 : Int)))]
   else some [(PV.b false)])
   else some [(PV.b false)]))
   else (bif (a49 == (0 : Int)) then (bif (a50 == (0 : Int)) then (bif (a51 == (0 : Int)) then (bif ((((List.length a52) : Nat) : Int) == (0 : Int)) then (bif (a1 == (39 : Int)) then some [(PV.b true)]
   else (bif (a53 == (0 : Int)) then (bif (a54 == (0 : Int)) then some [(PV.b ((((List.length a55) : Nat) : Int) == (0 : Int)))]
   else some [(PV.b false)])
   else some [(PV.b false)]))
   else some [(PV.b false)])
   else some [(PV.b false)])
   else some [(PV.b false)])
   else some [(PV.b false)]))
   else some [(PV.b false)]))
   else some [(PV.b false)]))
   else (bif ((a7 == (0 : Int)) && ((a8 == (0 : Int)) && ((a9 == (0 : Int)) && ((a10 == (0 : Int)) && ((a11 == (0 : Int)) && ((a12 == (0 : Int)) && ((a13 == (0 : Int)) && ((a14 == (0 : Int)) && ((a15 == (0 : Int)) && ((a16 == (0 : Int)) && ((a17 == (0 : Int)) && ((a18 == (0 : Int)) && ((a19 == (0 : Int)) && ((a20 == (0 : Int)) && ((a21 == (0 : Int)) && ((a22 == (0 : Int)) && ((a23 == (0 : Int)) && ((a24 == (0 : Int)) && (a25 == (0 : Int)))))))))))))))))))) then (bif (a1 == (32 : Int)) then (bif (a1 == (46 : Int)) then (bif (a1 == (36 : Int)) then (bif (a1 == (39 : Int)) then some [(PV.b true)]
   else (bif (a53 == (0 : Int)) then (bif (a54 == (0 : Int)) then some [(PV.b ((((List.length a55) : Nat) : Int) == (0 : Int)))]
   else some [(PV.b false)])
   else some [(PV.b false)]))
   else (bif (a49 == (0 : Int)) then (bif (a50 == (0 : Int)) then (bif (a51 == (0 : Int)) then (bif ((((List.length a52) : Nat) : Int) == (0 : Int)) then (bif (a1 == (39 : Int)) then some [(PV.b true)]
   else (bif (a53 == (0 : Int)) then (bif (a54 == (0 : Int)) then some [(PV.b ((((List.length a55) : Nat) : Int) == (0 : Int)))]
   else some [(PV.b false)])
   else some [(PV.b false)]))
   else some [(PV.b false)])
   else some [(PV.b false)])
   else some [(PV.b false)])
   else some [(PV.b false)]))
   else (cW f_movie_noMorph [(PV.i a34), (PV.i a35), (PV.i a36), (PV.i a37), (PV.i a38), (PV.i a39), (PV.i a40), (PV.i a41), (PV.i a42), (PV.l a43), (PV.l a44), (PV.l a45), (PV.l a46), (PV.l a47), (PV.l a48)] []).bind fun r21 =>
   (bif (((r21).1.getD 0 PV.u)).toB then (bif (a1 == (36 : Int)) then (bif (a1 == (39 : Int)) then some [(PV.b true)]
   else (bif (a53 == (0 : Int)) then (bif (a54 == (0 : Int)) then some [(PV.b ((((List.length a55) : Nat) : Int) == (0 : Int)))]
   else some [(PV.b false)])
   else some [(PV.b false)]))
   else (bif (a49 == (0 : Int)) then (bif (a50 == (0 : Int)) then (bif (a51 == (0 : Int)) then (bif ((((List.length a52) : Nat) : Int) == (0 : Int)) then (bif (a1 == (39 : Int)) then some [(PV.b true)]
   else (bif (a53 == (0 : Int)) then (bif (a54 == (0 : Int)) then some [(PV.b ((((List.length a55) : Nat) : Int) == (0 : Int)))]
   else some [(PV.b false)])
   else some [(PV.b false)]))
   else some [(PV.b false)])
   else some [(PV.b false)])
   else some [(PV.b false)])
   else some [(PV.b false)]))
   else some [(PV.b false)]))
   else (cW f_movie_noShape [(PV.i a26), (PV.i a27), (PV.i a28), (PV.i a29), (PV.i a30), (PV.l a31), (PV.l a32), (PV.l a33)] []).bind fun r19 =>
   (bif (((r19).1.getD 0 PV.u)).toB then (bif (a1 == (46 : Int)) then (bif (a1 == (36 : Int)) then (bif (a1 == (39 : Int)) then some [(PV.b true)]
   else (bif (a53 == (0 : Int)) then (bif (a54 == (0 : Int)) then some [(PV.b ((((List.length a55) : Nat) : Int) == (0 : Int)))]
   else some [(PV.b false)])
   else some [(PV.b false)]))
   else (bif (a49 == (0 : Int)) then (bif (a50 == (0 : Int)) then (bif (a51 == (0 : Int)) then (bif ((((List.length a52) : Nat) : Int) == (0 : Int)) then (bif (a1 == (39 : Int)) then some [(PV.b true)]
   else (bif (a53 == (0 : Int)) then (bif (a54 == (0 : Int)) then some [(PV.b ((((List.length a55) : Nat) : Int) == (0 : Int)))]
   else some [(PV.b false)])
   else some [(PV.b false)]))
   else some [(PV.b false)])
   else some [(PV.b false)])
   else some [(PV.b false)])
   else some [(PV.b false)]))
   else (cW f_movie_noMorph [(PV.i a34), (PV.i a35), (PV.i a36), (PV.i a37), (PV.i a38), (PV.i a39), (PV.i a40), (PV.i a41), (PV.i a42), (PV.l a43), (PV.l a44), (PV.l a45), (PV.l a46), (PV.l a47), (PV.l a48)] []).bind fun r20 =>
   (bif (((r20).1.getD 0 PV.u)).toB then (bif (a1 == (36 : Int)) then (bif (a1 == (39 : Int)) then some [(PV.b true)]
   else (bif (a53 == (0 : Int)) then (bif (a54 == (0 : Int)) then some [(PV.b ((((List.length a55) : Nat) : Int) == (0 : Int)))]
   else some [(PV.b false)])
   else some [(PV.b false)]))
   else (bif (a49 == (0 : Int)) then (bif (a50 == (0 : Int)) then (bif (a51 == (0 : Int)) then (bif ((((List.length a52) : Nat) : Int) == (0 : Int)) then (bif (a1 == (39 : Int)) then some [(PV.b true)]
   else (bif (a53 == (0 : Int)) then (bif (a54 == (0 : Int)) then some [(PV.b ((((List.length a55) : Nat) : Int) == (0 : Int)))]
   else some [(PV.b false)])
   else some [(PV.b false)]))
   else some [(PV.b false)])
   else some [(PV.b false)])
   else some [(PV.b false)])
   else some [(PV.b false)]))
   else some [(PV.b false)]))
   else some [(PV.b false)]))
   else some [(PV.b false)]))
   else (bif ((a3 == (0 : Int)) && ((a4 == (0 : Int)) && ((a5 == (0 : Int)) && (a6 == (0 : Int))))) then (bif (a1 == (26 : Int)) then (bif (a1 == (32 : Int)) then (bif (a1 == (46 : Int)) then (bif (a1 == (36 : Int)) then (bif (a1 == (39 : Int)) then some [(PV.b true)]
   else (bif (a53 == (0 : Int)) then (bif (a54 == (0 : Int)) then some [(PV.b ((((List.length a55) : Nat) : Int) == (0 : Int)))]
   else some [(PV.b false)])
   else some [(PV.b false)]))
   else (bif (a49 == (0 : Int)) then (bif (a50 == (0 : Int)) then (bif (a51 == (0 : Int)) then (bif ((((List.length a52) : Nat) : Int) == (0 : Int)) then (bif (a1 == (39 : Int)) then some [(PV.b true)]
   else (bif (a53 == (0 : Int)) then (bif (a54 == (0 : Int)) then some [(PV.b ((((List.length a55) : Nat) : Int) == (0 : Int)))]
   else some [(PV.b false)])
   else some [(PV.b false)]))
   else some [(PV.b false)])
   else some [(PV.b false)])
   else some [(PV.b false)])
   else some [(PV.b false)]))
   else (cW f_movie_noMorph [(PV.i a34), (PV.i a35), (PV.i a36), (PV.i a37), (PV.i a38), (PV.i a39), (PV.i a40), (PV.i a41), (PV.i a42), (PV.l a43), (PV.l a44), (PV.l a45), (PV.l a46), (PV.l a47), (PV.l a48)] []).bind fun r18 =>
   (bif (((r18).1.getD 0 PV.u)).toB then (bif (a1 == (36 : Int)) then (bif (a1 == (39 : Int)) then some [(PV.b true)]
   else (bif (a53 == (0 : Int)) then (bif (a54 == (0 : Int)) then some [(PV.b ((((List.length a55) : Nat) : Int) == (0 : Int)))]
   else some [(PV.b false)])
   else some [(PV.b false)]))
   else (bif (a49 == (0 : Int)) then (bif (a50 == (0 : Int)) then (bif (a51 == (0 : Int)) then (bif ((((List.length a52) : Nat) : Int) == (0 : Int)) then (bif (a1 == (39 : Int)) then some [(PV.b true)]
   else (bif (a53 == (0 : Int)) then (bif (a54 == (0 : Int)) then some [(PV.b ((((List.length a55) : Nat) : Int) == (0 : Int)))]
   else some [(PV.b false)])
   else some [(PV.b false)]))
   else some [(PV.b false)])
   else some [(PV.b false)])
   else some [(PV.b false)])
   else some [(PV.b false)]))
   else some [(PV.b false)]))
   else (cW f_movie_noShape [(PV.i a26), (PV.i a27), (PV.i a28), (PV.i a29), (PV.i a30), (PV.l a31), (PV.l a32), (PV.l a33)] []).bind fun r16 =>
   (bif (((r16).1.getD 0 PV.u)).toB then (bif (a1 == (46 : Int)) then (bif (a1 == (36 : Int)) then (bif (a1 == (39 : Int)) then some [(PV.b true)]
   else (bif (a53 == (0 : Int)) then (bif (a54 == (0 : Int)) then some [(PV.b ((((List.length a55) : Nat) : Int) == (0 : Int)))]
   else some [(PV.b false)])
   else some [(PV.b false)]))
   else (bif (a49 == (0 : Int)) then (bif (a50 == (0 : Int)) then (bif (a51 == (0 : Int)) then (bif ((((List.length a52) : Nat) : Int) == (0 : Int)) then (bif (a1 == (39 : Int)) then some [(PV.b true)]
   else (bif (a53 == (0 : Int)) then (bif (a54 == (0 : Int)) then some [(PV.b ((((List.length a55) : Nat) : Int) == (0 : Int)))]
   else some [(PV.b false)])
   else some [(PV.b false)]))
   else some [(PV.b false)])
   else some [(PV.b false)])
   else some [(PV.b false)])
   else some [(PV.b false)]))
   else (cW f_movie_noMorph [(PV.i a34), (PV.i a35), (PV.i a36), (PV.i a37), (PV.i a38), (PV.i a39), (PV.i a40), (PV.i a41), (PV.i a42), (PV.l a43), (PV.l a44), (PV.l a45), (PV.l a46), (PV.l a47), (PV.l a48)] []).bind fun r17 =>
   (bif (((r17).1.getD 0 PV.u)).toB then (bif (a1 == (36 : Int)) then (bif (a1 == (39 : Int)) then some [(PV.b true)]
   else (bif (a53 == (0 : Int)) then (bif (a54 == (0 : Int)) then some [(PV.b ((((List.length a55) : Nat) : Int) == (0 : Int)))]
   else some [(PV.b false)])
   else some [(PV.b false)]))
   else (bif (a49 == (0 : Int)) then (bif (a50 == (0 : Int)) then (bif (a51 == (0 : Int)) then (bif ((((List.length a52) : Nat) : Int) == (0 : Int)) then (bif (a1 == (39 : Int)) then some [(PV.b true)]
   else (bif (a53 == (0 : Int)) then (bif (a54 == (0 : Int)) then some [(PV.b ((((List.length a55) : Nat) : Int) == (0 : Int)))]
   else some [(PV.b false)])
   else some [(PV.b false)]))
   else some [(PV.b false)])
   else some [(PV.b false)])
   else some [(PV.b false)])
   else some [(PV.b false)]))
   else some [(PV.b false)]))
   else some [(PV.b false)]))
   else (bif ((a7 == (0 : Int)) && ((a8 == (0 : Int)) && ((a9 == (0 : Int)) && ((a10 == (0 : Int)) && ((a11 == (0 : Int)) && ((a12 == (0 : Int)) && ((a13 == (0 : Int)) && ((a14 == (0 : Int)) && ((a15 == (0 : Int)) && ((a16 == (0 : Int)) && ((a17 == (0 : Int)) && ((a18 == (0 : Int)) && ((a19 == (0 : Int)) && ((a20 == (0 : Int)) && ((a21 == (0 : Int)) && ((a22 == (0 : Int)) && ((a23 == (0 : Int)) && ((a24 == (0 : Int)) && (a25 == (0 : Int)))))))))))))))))))) then (bif (a1 == (32 : Int)) then (bif (a1 == (46 : Int)) then (bif (a1 == (36 : Int)) then (bif (a1 == (39 : Int)) then some [(PV.b true)]
   else (bif (a53 == (0 : Int)) then (bif (a54 == (0 : Int)) then some [(PV.b ((((List.length a55) : Nat) : Int) == (0 : Int)))]
   else some [(PV.b false)])
   else some [(PV.b false)]))
   else (bif (a49 == (0 : Int)) then (bif (a50 == (0 : Int)) then (bif (a51 == (0 : Int)) then (bif ((((List.length a52) : Nat) : Int) == (0 : Int)) then (bif (a1 == (39 : Int)) then some [(PV.b true)]
   else (bif (a53 == (0 : Int)) then (bif (a54 == (0 : Int)) then some [(PV.b ((((List.length a55) : Nat) : Int) == (0 : Int)))]
   else some [(PV.b false)])
   else some [(PV.b false)]))
   else some [(PV.b false)])
   else some [(PV.b false)])
   else some [(PV.b false)])
   else some [(PV.b false)]))
   else (cW f_movie_noMorph [(PV.i a34), (PV.i a35), (PV.i a36), (PV.i a37), (PV.i a38), (PV.i a39), (PV.i a40), (PV.i a41), (PV.i a42), (PV.l a43), (PV.l a44), (PV.l a45), (PV.l a46), (PV.l a47), (PV.l a48)] []).bind fun r15 =>
   (bif (((r15).1.getD 0 PV.u)).toB then (bif (a1 == (36 : Int)) then (bif (a1 == (39 : Int)) then some [(PV.b true)]
   else (bif (a53 == (0 : Int)) then (bif (a54 == (0 : Int)) then some [(PV.b ((((List.length a55) : Nat) : Int) == (0 : Int)))]
   else some [(PV.b false)])
   else some [(PV.b false)]))
   else (bif (a49 == (0 : Int)) then (bif (a50 == (0 : Int)) then (bif (a51 == (0 : Int)) then (bif ((((List.length a52) : Nat) : Int) == (0 : Int)) then (bif (a1 == (39 : Int)) then some [(PV.b true)]
   else (bif (a53 == (0 : Int)) then (bif (a54 == (0 : Int)) then some [(PV.b ((((List.length a55) : Nat) : Int) == (0 : Int)))]
   else some [(PV.b false)])
   else some [(PV.b false)]))
   else some [(PV.b false)])
   else some [(PV.b false)])
   else some [(PV.b false)])
   else some [(PV.b false)]))
   else some [(PV.b false)]))
   else (cW f_movie_noShape [(PV.i a26), (PV.i a27), (PV.i a28), (PV.i a29), (PV.i a30), (PV.l a31), (PV.l a32), (PV.l a33)] []).bind fun r13 =>
   (bif (((r13).1.getD 0 PV.u)).toB then (bif (a1 == (46 : Int)) then (bif (a1 == (36 : Int)) then (bif (a1 == (39 : Int)) then some [(PV.b true)]
   else (bif (a53 == (0 : Int)) then (bif (a54 == (0 : Int)) then some [(PV.b ((((List.length a55) : Nat) : Int) == (0 : Int)))]
   else some [(PV.b false)])
   else some [(PV.b false)]))
   else (bif (a49 == (0 : Int)) then (bif (a50 == (0 : Int)) then (bif (a51 == (0 : Int)) then (bif ((((List.length a52) : Nat) : Int) == (0 : Int)) then (bif (a1 == (39 : Int)) then some [(PV.b true)]
   else (bif (a53 == (0 : Int)) then (bif (a54 == (0 : Int)) then some [(PV.b ((((List.length a55) : Nat) : Int) == (0 : Int)))]
   else some [(PV.b false)])
   else some [(PV.b false)]))
   else some [(PV.b false)])
   else some [(PV.b false)])
   else some [(PV.b false)])
   else some [(PV.b false)]))
   else (cW f_movie_noMorph [(PV.i a34), (PV.i a35), (PV.i a36), (PV.i a37), (PV.i a38), (PV.i a39), (PV.i a40), (PV.i a41), (PV.i a42), (PV.l a43), (PV.l a44), (PV.l a45), (PV.l a46), (PV.l a47), (PV.l a48)] []).bind fun r14 =>
   (bif (((r14).1.getD 0 PV.u)).toB then (bif (a1 == (36 : Int)) then (bif (a1 == (39 : Int)) then some [(PV.b true)]
   else (bif (a53 == (0 : Int)) then (bif (a54 == (0 : Int)) then some [(PV.b ((((List.length a55) : Nat) : Int) == (0 : Int)))]
   else some [(PV.b false)])
   else some [(PV.b false)]))
   else (bif (a49 == (0 : Int)) then (bif (a50 == (0 : Int)) then (bif (a51 == (0 : Int)) then (bif ((((List.length a52) : Nat) : Int) == (0 : Int)) then (bif (a1 == (39 : Int)) then some [(PV.b true)]
   else (bif (a53 == (0 : Int)) then (bif (a54 == (0 : Int)) then some [(PV.b ((((List.length a55) : Nat) : Int) == (0 : Int)))]
   else some [(PV.b false)])
   else some [(PV.b false)]))
   else some [(PV.b false)])
   else some [(PV.b false)])
   else some [(PV.b false)])
   else some [(PV.b false)]))
   else some [(PV.b false)]))
   else some [(PV.b false)]))
   else some [(PV.b false)]))
   else some [(PV.b false)]))
   else (bif (a2 == (0 : Int)) then (bif (a1 == (9 : Int)) then (bif (a1 == (26 : Int)) then (bif (a1 == (32 : Int)) then (bif (a1 == (46 : Int)) then (bif (a1 == (36 : Int)) then (bif (a1 == (39 : Int)) then some [(PV.b true)]
   else (bif (a53 == (0 : Int)) then (bif (a54 == (0 : Int)) then some [(PV.b ((((List.length a55) : Nat) : Int) == (0 : Int)))]
   else some [(PV.b false)])
   else some [(PV.b false)]))
   else (bif (a49 == (0 : Int)) then (bif (a50 == (0 : Int)) then (bif (a51 == (0 : Int)) then (bif ((((List.length a52) : Nat) : Int) == (0 : Int)) then (bif (a1 == (39 : Int)) then some [(PV.b true)]
   else (bif (a53 == (0 : Int)) then (bif (a54 == (0 : Int)) then some [(PV.b ((((List.length a55) : Nat) : Int) == (0 : Int)))]
   else some [(PV.b false)])
   else some [(PV.b false)]))
   else some [(PV.b false)])
   else some [(PV.b false)])
   else some [(PV.b false)])
   else some [(PV.b false)]))
   else (cW f_movie_noMorph [(PV.i a34), (PV.i a35), (PV.i a36), (PV.i a37), (PV.i a38), (PV.i a39), (PV.i a40), (PV.i a41), (PV.i a42), (PV.l a43), (PV.l a44), (PV.l a45), (PV.l a46), (PV.l a47), (PV.l a48)] []).bind fun r12 =>
   (bif (((r12).1.getD 0 PV.u)).toB then (bif (a1 == (36 : Int)) then (bif (a1 == (39 : Int)) then some [(PV.b true)]
   else (bif (a53 == (0 : Int)) then (bif (a54 == (0 : Int)) then some [(PV.b ((((List.length a55) : Nat) : Int) == (0 : Int)))]
   else some [(PV.b false)])
   else some [(PV.b false)]))
   else (bif (a49 == (0 : Int)) then (bif (a50 == (0 : Int)) then (bif (a51 == (0 : Int)) then (bif ((((List.length a52) : Nat) : Int) == (0 : Int)) then (bif (a1 == (39 : Int)) then some [(PV.b true)]
   else (bif (a53 == (0 : Int)) then (bif (a54 == (0 : Int)) then some [(PV.b ((((List.length a55) : Nat) : Int) == (0 : Int)))]
   else some [(PV.b false)])
   else some [(PV.b false)]))
   else some [(PV.b false)])
   else some [(PV.b false)])
   else some [(PV.b false)])
   else some [(PV.b false)]))
   else some [(PV.b false)]))
   else (cW f_movie_noShape [(PV.i a26), (PV.i a27), (PV.i a28), (PV.i a29), (PV.i a30), (PV.l a31), (PV.l a32), (PV.l a33)] []).bind fun r10 =>
   (bif (((r10).1.getD 0 PV.u)).toB then (bif (a1 == (46 : Int)) then (bif (a1 == (36 : Int)) then (bif (a1 == (39 : Int)) then some [(PV.b true)]
   else (bif (a53 == (0 : Int)) then (bif (a54 == (0 : Int)) then some [(PV.b ((((List.length a55) : Nat) : Int) == (0 : Int)))]
   else some [(PV.b false)])
   else some [(PV.b false)]))
   else (bif (a49 == (0 : Int)) then (bif (a50 == (0 : Int)) then (bif (a51 == (0 : Int)) then (bif ((((List.length a52) : Nat) : Int) == (0 : Int)) then (bif (a1 == (39 : Int)) then some [(PV.b true)]
   else (bif (a53 == (0 : Int)) then (bif (a54 == (0 : Int)) then some [(PV.b ((((List.length a55) : Nat) : Int) == (0 : Int)))]
   else some [(PV.b false)])
   else some [(PV.b false)]))
   else some [(PV.b false)])
   else some [(PV.b false)])
   else some [(PV.b false)])
   else some [(PV.b false)]))
   else (cW f_movie_noMorph [(PV.i a34), (PV.i a35), (PV.i a36), (PV.i a37), (PV.i a38), (PV.i a39), (PV.i a40), (PV.i a41), (PV.i a42), (PV.l a43), (PV.l a44), (PV.l a45), (PV.l a46), (PV.l a47), (PV.l a48)] []).bind fun r11 =>
   (bif (((r11).1.getD 0 PV.u)).toB then (bif (a1 == (36 : Int)) then (bif (a1 == (39 : Int)) then some [(PV.b true)]
   else (bif (a53 == (0 : Int)) then (bif (a54 == (0 : Int)) then some [(PV.b ((((List.length a55) : Nat) : Int) == (0 : Int)))]
   else some [(PV.b false)])
   else some [(PV.b false)]))
   else (bif (a49 == (0 : Int)) then (bif (a50 == (0 : Int)) then (bif (a51 == (0 : Int)) then (bif ((((List.length a52) : Nat) : Int) == (0 : Int)) then (bif (a1 == (39 : Int)) then some [(PV.b true)]
   else (bif (a53 == (0 : Int)) then (bif (a54 == (0 : Int)) then some [(PV.b ((((List.length a55) : Nat) : Int) == (0 : Int)))]
   else some [(PV.b false)])
   else some [(PV.b false)]))
   else some [(PV.b false)])
   else some [(PV.b false)])
   else some [(PV.b false)])
   else some [(PV.b false)]))
   else some [(PV.b false)]))
   else some [(PV.b false)]))
   else (bif ((a7 == (0 : Int)) && ((a8 == (0 : Int)) && ((a9 == (0 : Int)) && ((a10 == (0 : Int)) && ((a11 == (0 : Int)) && ((a12 == (0 : Int)) && ((a13 == (0 : Int)) && ((a14 == (0 : Int)) && ((a15 == (0 : Int)) && ((a16 == (0 : Int)) && ((a17 == (0 : Int)) && ((a18 == (0 : Int)) && ((a19 == (0 : Int)) && ((a20 == (0 : Int)) && ((a21 == (0 : Int)) && ((a22 == (0 : Int)) && ((a23 == (0 : Int)) && ((a24 == (0 : Int)) && (a25 == (0 : Int)))))))))))))))))))) then (bif (a1 == (32 : Int)) then (bif (a1 == (46 : Int)) then (bif (a1 == (36 : Int)) then (bif (a1 == (39 : Int)) then some [(PV.b true)]
   else (bif (a53 == (0 : Int)) then (bif (a54 == (0 : Int)) then some [(PV.b ((((List.length a55) : Nat) : Int) == (0 : Int)))]
   else some [(PV.b false)])
   else some [(PV.b false)]))
   else (bif (a49 == (0 : Int)) then (bif (a50 == (0 : Int)) then (bif (a51 == (0 : Int)) then (bif ((((List.length a52) : Nat) : Int) == (0 : Int)) then (bif (a1 == (39 : Int)) then some [(PV.b true)]
   else (bif (a53 == (0 : Int)) then (bif (a54 == (0 : Int)) then some [(PV.b ((((List.length a55) : Nat) : Int) == (0 : Int)))]
   else some [(PV.b false)])
   else some [(PV.b false)]))
   else some [(PV.b false)])
   else some [(PV.b false)])
   else some [(PV.b false)])
   else some [(PV.b false)]))
   else (cW f_movie_noMorph [(PV.i a34), (PV.i a35), (PV.i a36), (PV.i a37), (PV.i a38), (PV.i a39), (PV.i a40), (PV.i a41), (PV.i a42), (PV.l a43), (PV.l a44), (PV.l a45), (PV.l a46), (PV.l a47), (PV.l a48)] []).bind fun r9 =>
   (bif (((r9).1.getD 0 PV.u)).toB then (bif (a1 == (36 : Int)) then (bif (a1 == (39 : Int)) then some [(PV.b true)]
   else (bif (a53 == (0 : Int)) then (bif (a54 == (0 : Int)) then some [(PV.b ((((List.length a55) : Nat) : Int) == (0 : Int)))]
   else some [(PV.b false)])
   else some [(PV.b false)]))
   else (bif (a49 == (0 : Int)) then (bif (a50 == (0 : Int)) then (bif (a51 == (0 : Int)) then (bif ((((List.length a52) : Nat) : Int) == (0 : Int)) then (bif (a1 == (39 : Int)) then some [(PV.b true)]
   else (bif (a53 == (0 : Int)) then (bif (a54 == (0 : Int)) then some [(PV.b ((((List.length a55) : Nat) : Int) == (0 : Int)))]
   else some [(PV.b false)])
   else some [(PV.b false)]))
   else some [(PV.b false)])
   else some [(PV.b false)])
   else some [(PV.b false)])
   else some [(PV.b false)]))
   else some [(PV.b false)]))
   else (cW f_movie_noShape [(PV.i a26), (PV.i a27), (PV.i a28), (PV.i a29), (PV.i a30), (PV.l a31), (PV.l a32), (PV.l a33)] []).bind fun r7 =>
   (bif (((r7).1.getD 0 PV.u)).toB then (bif (a1 == (46 : Int)) then (bif (a1 == (36 : Int)) then (bif (a1 == (39 : Int)) then some [(PV.b true)]
   else (bif (a53 == (0 : Int)) then (bif (a54 == (0 : Int)) then some [(PV.b ((((List.length a55) : Nat) : Int) == (0 : Int)))]
   else some [(PV.b false)])
   else some [(PV.b false)]))
   else (bif (a49 == (0 : Int)) then (bif (a50 == (0 : Int)) then (bif (a51 == (0 : Int)) then (bif ((((List.length a52) : Nat) : Int) == (0 : Int)) then (bif (a1 == (39 : Int)) then some [(PV.b true)]
   else (bif (a53 == (0 : Int)) then (bif (a54 == (0 : Int)) then some [(PV.b ((((List.length a55) : Nat) : Int) == (0 : Int)))]
   else some [(PV.b false)])
   else some [(PV.b false)]))
   else some [(PV.b false)])
   else some [(PV.b false)])
   else some [(PV.b false)])
   else some [(PV.b false)]))
   else (cW f_movie_noMorph [(PV.i a34), (PV.i a35), (PV.i a36), (PV.i a37), (PV.i a38), (PV.i a39), (PV.i a40), (PV.i a41), (PV.i a42), (PV.l a43), (PV.l a44), (PV.l a45), (PV.l a46), (PV.l a47), (PV.l a48)] []).bind fun r8 =>
   (bif (((r8).1.getD 0 PV.u)).toB then (bif (a1 == (36 : Int)) then (bif (a1 == (39 : Int)) then some [(PV.b true)]
   else (bif (a53 == (0 : Int)) then (bif (a54 == (0 : Int)) then some [(PV.b ((((List.length a55) : Nat) : Int) == (0 : Int)))]
   else some [(PV.b false)])
   else some [(PV.b false)]))
   else (bif (a49 == (0 : Int)) then (bif (a50 == (0 : Int)) then (bif (a51 == (0 : Int)) then (bif ((((List.length a52) : Nat) : Int) == (0 : Int)) then (bif (a1 == (39 : Int)) then some [(PV.b true)]
   else (bif (a53 == (0 : Int)) then (bif (a54 == (0 : Int)) then some [(PV.b ((((List.length a55) : Nat) : Int) == (0 : Int)))]
   else some [(PV.b false)])
   else some [(PV.b false)]))
   else some [(PV.b false)])
   else some [(PV.b false)])
   else some [(PV.b false)])
   else some [(PV.b false)]))
   else some [(PV.b false)]))
   else some [(PV.b false)]))
   else some [(PV.b false)]))
   else (bif ((a3 == (0 : Int)) && ((a4 == (0 : Int)) && ((a5 == (0 : Int)) && (a6 == (0 : Int))))) then (bif (a1 == (26 : Int)) then (bif (a1 == (32 : Int)) then (bif (a1 == (46 : Int)) then (bif (a1 == (36 : Int)) then (bif (a1 == (39 : Int)) then some [(PV.b true)]
   else (bif (a53 == (0 : Int)) then (bif (a54 == (0 : Int)) then some [(PV.b ((((List.length a55) : Nat) : Int) == (0 : Int)))]
   else some [(PV.b false)])
   else some [(PV.b false)]))
   else (bif (a49 == (0 : Int)) then (bif (a50 == (0 : Int)) then (bif (a51 == (0 : Int)) then (bif ((((List.length a52) : Nat) : Int) == (0 : Int)) then (bif (a1 == (39 : Int)) then some [(PV.b true)]
   else (bif (a53 == (0 : Int)) then (bif (a54 == (0 : Int)) then some [(PV.b ((((List.length a55) : Nat) : Int) == (0 : Int)))]
   else some [(PV.b false)])
   else some [(PV.b false)]))
   else some [(PV.b false)])
   else some [(PV.b false)])
   else some [(PV.b false)])
   else some [(PV.b false)]))
   else (cW f_movie_noMorph [(PV.i a34), (PV.i a35), (PV.i a36), (PV.i a37), (PV.i a38), (PV.i a39), (PV.i a40), (PV.i a41), (PV.i a42), (PV.l a43), (PV.l a44), (PV.l a45), (PV.l a46), (PV.l a47), (PV.l a48)] []).bind fun r6 =>
   (bif (((r6).1.getD 0 PV.u)).toB then (bif (a1 == (36 : Int)) then (bif (a1 == (39 : Int)) then some [(PV.b true)]
   else (bif (a53 == (0 : Int)) then (bif (a54 == (0 : Int)) then some [(PV.b ((((List.length a55) : Nat) : Int) == (0 : Int)))]
   else some [(PV.b false)])
   else some [(PV.b false)]))
   else (bif (a49 == (0 : Int)) then (bif (a50 == (0 : Int)) then (bif (a51 == (0 : Int)) then (bif ((((List.length a52) : Nat) : Int) == (0 : Int)) then (bif (a1 == (39 : Int)) then some [(PV.b true)]
   else (bif (a53 == (0 : Int)) then (bif (a54 == (0 : Int)) then some [(PV.b ((((List.length a55) : Nat) : Int) == (0 : Int)))]
   else some [(PV.b false)])
   else some [(PV.b false)]))
   else some [(PV.b false)])
   else some [(PV.b false)])
   else some [(PV.b false)])
   else some [(PV.b false)]))
   else some [(PV.b false)]))
   else (cW f_movie_noShape [(PV.i a26), (PV.i a27), (PV.i a28), (PV.i a29), (PV.i a30), (PV.l a31), (PV.l a32), (PV.l a33)] []).bind fun r4 =>
   (bif (((r4).1.getD 0 PV.u)).toB then (bif (a1 == (46 : Int)) then (bif (a1 == (36 : Int)) then (bif (a1 == (39 : Int)) then some [(PV.b true)]
   else (bif (a53 == (0 : Int)) then (bif (a54 == (0 : Int)) then some [(PV.b ((((List.length a55) : Nat) : Int) == (0 : Int)))]
   else some [(PV.b false)])
   else some [(PV.b false)]))
   else (bif (a49 == (0 : Int)) then (bif (a50 == (0 : Int)) then (bif (a51 == (0 : Int)) then (bif ((((List.length a52) : Nat) : Int) == (0 : Int)) then (bif (a1 == (39 : Int)) then some [(PV.b true)]
   else (bif (a53 == (0 : Int)) then (bif (a54 == (0 : Int)) then some [(PV.b ((((List.length a55) : Nat) : Int) == (0 : Int)))]
   else some [(PV.b false)])
   else some [(PV.b false)]))
   else some [(PV.b false)])
   else some [(PV.b false)])
   else some [(PV.b false)])
   else some [(PV.b false)]))
   else (cW f_movie_noMorph [(PV.i a34), (PV.i a35), (PV.i a36), (PV.i a37), (PV.i a38), (PV.i a39), (PV.i a40), (PV.i a41), (PV.i a42), (PV.l a43), (PV.l a44), (PV.l a45), (PV.l a46), (PV.l a47), (PV.l a48)] []).bind fun r5 =>
   (bif (((r5).1.getD 0 PV.u)).toB then (bif (a1 == (36 : Int)) then (bif (a1 == (39 : Int)) then some [(PV.b true)]
   else (bif (a53 == (0 : Int)) then (bif (a54 == (0 : Int)) then some [(PV.b ((((List.length a55) : Nat) : Int) == (0 : Int)))]
   else some [(PV.b false)])
   else some [(PV.b false)]))
   else (bif (a49 == (0 : Int)) then (bif (a50 == (0 : Int)) then (bif (a51 == (0 : Int)) then (bif ((((List.length a52) : Nat) : Int) == (0 : Int)) then (bif (a1 == (39 : Int)) then some [(PV.b true)]
   else (bif (a53 == (0 : Int)) then (bif (a54 == (0 : Int)) then some [(PV.b ((((List.length a55) : Nat) : Int) == (0 : Int)))]
   else some [(PV.b false)])
   else some [(PV.b false)]))
   else some [(PV.b false)])
   else some [(PV.b false)])
   else some [(PV.b false)])
   else some [(PV.b false)]))
   else some [(PV.b false)]))
   else some [(PV.b false)]))
   else (bif ((a7 == (0 : Int)) && ((a8 == (0 : Int)) && ((a9 == (0 : Int)) && ((a10 == (0 : Int)) && ((a11 == (0 : Int)) && ((a12 == (0 : Int)) && ((a13 == (0 : Int)) && ((a14 == (0 : Int)) && ((a15 == (0 : Int)) && ((a16 == (0 : Int)) && ((a17 == (0 : Int)) && ((a18 == (0 : Int)) && ((a19 == (0 : Int)) && ((a20 == (0 : Int)) && ((a21 == (0 : Int)) && ((a22 == (0 : Int)) && ((a23 == (0 : Int)) && ((a24 == (0 : Int)) && (a25 == (0 : Int)))))))))))))))))))) then (bif (a1 == (32 : Int)) then (bif (a1 == (46 : Int)) then (bif (a1 == (36 : Int)) then (bif (a1 == (39 : Int)) then some [(PV.b true)]
   else (bif (a53 == (0 : Int)) then (bif (a54 == (0 : Int)) then some [(PV.b ((((List.length a55) : Nat) : Int) == (0 : Int)))]
   else some [(PV.b false)])
   else some [(PV.b false)]))
   else (bif (a49 == (0 : Int)) then (bif (a50 == (0 : Int)) then (bif (a51 == (0 : Int)) then (bif ((((List.length a52) : Nat) : Int) == (0 : Int)) then (bif (a1 == (39 : Int)) then some [(PV.b true)]
   else (bif (a53 == (0 : Int)) then (bif (a54 == (0 : Int)) then some [(PV.b ((((List.length a55) : Nat) : Int) == (0 : Int)))]
   else some [(PV.b false)])
   else some [(PV.b false)]))
   else some [(PV.b false)])
   else some [(PV.b false)])
   else some [(PV.b false)])
   else some [(PV.b false)]))
   else (cW f_movie_noMorph [(PV.i a34), (PV.i a35), (PV.i a36), (PV.i a37), (PV.i a38), (PV.i a39), (PV.i a40), (PV.i a41), (PV.i a42), (PV.l a43), (PV.l a44), (PV.l a45), (PV.l a46), (PV.l a47), (PV.l a48)] []).bind fun r3 =>
   (bif (((r3).1.getD 0 PV.u)).toB then (bif (a1 == (36 : Int)) then (bif (a1 == (39 : Int)) then some [(PV.b true)]
   else (bif (a53 == (0 : Int)) then (bif (a54 == (0 : Int)) then some [(PV.b ((((List.length a55) : Nat) : Int) == (0 : Int)))]
   else some [(PV.b false)])
   else some [(PV.b false)]))
   else (bif (a49 == (0 : Int)) then (bif (a50 == (0 : Int)) then (bif (a51 == (0 : Int)) then (bif ((((List.length a52) : Nat) : Int) == (0 : Int)) then (bif (a1 == (39 : Int)) then some [(PV.b true)]
   else (bif (a53 == (0 : Int)) then (bif (a54 == (0 : Int)) then some [(PV.b ((((List.length a55) : Nat) : Int) == (0 : Int)))]
   else some [(PV.b false)])
   else some [(PV.b false)]))
   else some [(PV.b false)])
   else some [(PV.b false)])
   else some [(PV.b false)])
   else some [(PV.b false)]))
   else some [(PV.b false)]))
   else (cW f_movie_noShape [(PV.i a26), (PV.i a27), (PV.i a28), (PV.i a29), (PV.i a30), (PV.l a31), (PV.l a32), (PV.l a33)] []).bind fun r1 =>
   (bif (((r1).1.getD 0 PV.u)).toB then (bif (a1 == (46 : Int)) then (bif (a1 == (36 : Int)) then (bif (a1 == (39 : Int)) then some [(PV.b true)]
   else (bif (a53 == (0 : Int)) then (bif (a54 == (0 : Int)) then some [(PV.b ((((List.length a55) : Nat) : Int) == (0 : Int)))]
   else some [(PV.b false)])
   else some [(PV.b false)]))
   else (bif (a49 == (0 : Int)) then (bif (a50 == (0 : Int)) then (bif (a51 == (0 : Int)) then (bif ((((List.length a52) : Nat) : Int) == (0 : Int)) then (bif (a1 == (39 : Int)) then some [(PV.b true)]
   else (bif (a53 == (0 : Int)) then (bif (a54 == (0 : Int)) then some [(PV.b ((((List.length a55) : Nat) : Int) == (0 : Int)))]
   else some [(PV.b false)])
   else some [(PV.b false)]))
   else some [(PV.b false)])
   else some [(PV.b false)])
   else some [(PV.b false)])
   else some [(PV.b false)]))
   else (cW f_movie_noMorph [(PV.i a34), (PV.i a35), (PV.i a36), (PV.i a37), (PV.i a38), (PV.i a39), (PV.i a40), (PV.i a41), (PV.i a42), (PV.l a43), (PV.l a44), (PV.l a45), (PV.l a46), (PV.l a47), (PV.l a48)] []).bind fun r2 =>
   (bif (((r2).1.getD 0 PV.u)).toB then (bif (a1 == (36 : Int)) then (bif (a1 == (39 : Int)) then some [(PV.b true)]
   else (bif (a53 == (0 : Int)) then (bif (a54 == (0 : Int)) then some [(PV.b ((((List.length a55) : Nat) : Int) == (0 : Int)))]
   else some [(PV.b false)])
   else some [(PV.b false)]))
   else (bif (a49 == (0 : Int)) then (bif (a50 == (0 : Int)) then (bif (a51 == (0 : Int)) then (bif ((((List.length a52) : Nat) : Int) == (0 : Int)) then (bif (a1 == (39 : Int)) then some [(PV.b true)]
   else (bif (a53 == (0 : Int)) then (bif (a54 == (0 : Int)) then some [(PV.b ((((List.length a55) : Nat) : Int) == (0 : Int)))]
   else some [(PV.b false)])
   else some [(PV.b false)]))
   else some [(PV.b false)])
   else some [(PV.b false)])
   else some [(PV.b false)])
   else some [(PV.b false)]))
   else some [(PV.b false)]))
   else some [(PV.b false)]))
   else some [(PV.b false)]))
   else some [(PV.b false)]))
   else some [(PV.b false)]))).bind fun r25 =>
  some ([(PV.b ((r25.getD 0 PV.u)).toB)], []) := by rw [cW_fix]; generalize cW = C; generalize rW = R; kernel_rfl
/- celluloid/movie.step -/
theorem w_movie_step (a1 : Int) : cW f_movie_step [.i a1] [] =
  ((bif (a1 == (1 : Int)) then some [(PV.b true)]
   else (bif (a1 == (26 : Int)) then some [(PV.b true)]
   else some [(PV.b (a1 == (28 : Int)))]))).bind fun r1 =>
  some ([(PV.b ((r1.getD 0 PV.u)).toB)], []) := by rw [cW_fix]; generalize cW = C; generalize rW = R; kernel_rfl
/- celluloid/movie.told -/
theorem w_movie_told (a1 : Int) (a2 : Int) (a3 : Int) (a4 : Int) (a5 : Int) (a6 : Int) (a7 : Int) (a8 : Int) (a9 : Int) (a10 : Int) (a11 : Int) (a12 : Int) (a13 : Int) (a14 : Int) (a15 : Int) (a16 : Int) (a17 : Int) (a18 : Int) (a19 : Int) : cW f_movie_told [.i a1, .i a2, .i a3, .i a4, .i a5, .i a6, .i a7, .i a8, .i a9, .i a10, .i a11, .i a12, .i a13, .i a14, .i a15, .i a16, .i a17, .i a18, .i a19] [] =
  (bif ((bitsOp Go.BinOp.and .i64 a1 (2 : Int)) != (0 : Int)) then (bif ((bitsOp Go.BinOp.and .i64 a1 (4 : Int)) != (0 : Int)) then (bif ((bitsOp Go.BinOp.and .i64 a1 (8 : Int)) != (0 : Int)) then (bif ((bitsOp Go.BinOp.and .i64 a1 (16 : Int)) != (0 : Int)) then (bif ((bitsOp Go.BinOp.and .i64 a1 (64 : Int)) != (0 : Int)) then some ([(PV.i a1), (PV.i a2), (PV.i a3), (PV.i a4), (PV.i a5), (PV.i a6), (PV.i a7), (PV.i a8), (PV.i a9), (PV.i a10), (PV.i a11), (PV.i a12), (PV.i a13), (PV.i a14), (PV.i a15), (PV.i a16), (PV.i a17), (PV.i a18), (PV.i a19)], [])
  else some ([(PV.i a1), (PV.i a2), (PV.i a3), (PV.i a4), (PV.i a5), (PV.i a6), (PV.i a7), (PV.i a8), (PV.i a9), (PV.i a10), (PV.i a11), (PV.i a12), (PV.i a13), (PV.i a14), (PV.i a15), (PV.i a16), (PV.i a17), (PV.i a18), (PV.i (0 : Int))], []))
  else (bif ((bitsOp Go.BinOp.and .i64 a1 (64 : Int)) != (0 : Int)) then some ([(PV.i a1), (PV.i a2), (PV.i a3), (PV.i a4), (PV.i a5), (PV.i a6), (PV.i a7), (PV.i a8), (PV.i a9), (PV.i a10), (PV.i a11), (PV.i a12), (PV.i a13), (PV.i a14), (PV.i a15), (PV.i a16), (PV.i a17), (PV.i (0 : Int)), (PV.i a19)], [])
  else some ([(PV.i a1), (PV.i a2), (PV.i a3), (PV.i a4), (PV.i a5), (PV.i a6), (PV.i a7), (PV.i a8), (PV.i a9), (PV.i a10), (PV.i a11), (PV.i a12), (PV.i a13), (PV.i a14), (PV.i a15), (PV.i a16), (PV.i a17), (PV.i (0 : Int)), (PV.i (0 : Int))], [])))
  else (bif ((bitsOp Go.BinOp.and .i64 a1 (16 : Int)) != (0 : Int)) then (bif ((bitsOp Go.BinOp.and .i64 a1 (64 : Int)) != (0 : Int)) then some ([(PV.i a1), (PV.i a2), (PV.i a3), (PV.i a4), (PV.i a5), (PV.i a6), (PV.i a7), (PV.i a8), (PV.i a9), (PV.i (0 : Int)), (PV.i (0 : Int)), (PV.i (0 : Int)), (PV.i (0 : Int)), (PV.i (0 : Int)), (PV.i (0 : Int)), (PV.i (0 : Int)), (PV.i (0 : Int)), (PV.i a18), (PV.i a19)], [])
  else some ([(PV.i a1), (PV.i a2), (PV.i a3), (PV.i a4), (PV.i a5), (PV.i a6), (PV.i a7), (PV.i a8), (PV.i a9), (PV.i (0 : Int)), (PV.i (0 : Int)), (PV.i (0 : Int)), (PV.i (0 : Int)), (PV.i (0 : Int)), (PV.i (0 : Int)), (PV.i (0 : Int)), (PV.i (0 : Int)), (PV.i a18), (PV.i (0 : Int))], []))
  else (bif ((bitsOp Go.BinOp.and .i64 a1 (64 : Int)) != (0 : Int)) then some ([(PV.i a1), (PV.i a2), (PV.i a3), (PV.i a4), (PV.i a5), (PV.i a6), (PV.i a7), (PV.i a8), (PV.i a9), (PV.i (0 : Int)), (PV.i (0 : Int)), (PV.i (0 : Int)), (PV.i (0 : Int)), (PV.i (0 : Int)), (PV.i (0 : Int)), (PV.i (0 : Int)), (PV.i (0 : Int)), (PV.i (0 : Int)), (PV.i a19)], [])
  else some ([(PV.i a1), (PV.i a2), (PV.i a3), (PV.i a4), (PV.i a5), (PV.i a6), (PV.i a7), (PV.i a8), (PV.i a9), (PV.i (0 : Int)), (PV.i (0 : Int)), (PV.i (0 : Int)), (PV.i (0 : Int)), (PV.i (0 : Int)), (PV.i (0 : Int)), (PV.i (0 : Int)), (PV.i (0 : Int)), (PV.i (0 : Int)), (PV.i (0 : Int))], []))))
  else (bif ((bitsOp Go.BinOp.and .i64 a1 (8 : Int)) != (0 : Int)) then (bif ((bitsOp Go.BinOp.and .i64 a1 (16 : Int)) != (0 : Int)) then (bif ((bitsOp Go.BinOp.and .i64 a1 (64 : Int)) != (0 : Int)) then some ([(PV.i a1), (PV.i a2), (PV.i a3), (PV.i (0 : Int)), (PV.i (0 : Int)), (PV.i (0 : Int)), (PV.i (0 : Int)), (PV.i (0 : Int)), (PV.i (0 : Int)), (PV.i a10), (PV.i a11), (PV.i a12), (PV.i a13), (PV.i a14), (PV.i a15), (PV.i a16), (PV.i a17), (PV.i a18), (PV.i a19)], [])
  else some ([(PV.i a1), (PV.i a2), (PV.i a3), (PV.i (0 : Int)), (PV.i (0 : Int)), (PV.i (0 : Int)), (PV.i (0 : Int)), (PV.i (0 : Int)), (PV.i (0 : Int)), (PV.i a10), (PV.i a11), (PV.i a12), (PV.i a13), (PV.i a14), (PV.i a15), (PV.i a16), (PV.i a17), (PV.i a18), (PV.i (0 : Int))], []))
  else (bif ((bitsOp Go.BinOp.and .i64 a1 (64 : Int)) != (0 : Int)) then some ([(PV.i a1), (PV.i a2), (PV.i a3), (PV.i (0 : Int)), (PV.i (0 : Int)), (PV.i (0 : Int)), (PV.i (0 : Int)), (PV.i (0 : Int)), (PV.i (0 : Int)), (PV.i a10), (PV.i a11), (PV.i a12), (PV.i a13), (PV.i a14), (PV.i a15), (PV.i a16), (PV.i a17), (PV.i (0 : Int)), (PV.i a19)], [])
  else some ([(PV.i a1), (PV.i a2), (PV.i a3), (PV.i (0 : Int)), (PV.i (0 : Int)), (PV.i (0 : Int)), (PV.i (0 : Int)), (PV.i (0 : Int)), (PV.i (0 : Int)), (PV.i a10), (PV.i a11), (PV.i a12), (PV.i a13), (PV.i a14), (PV.i a15), (PV.i a16), (PV.i a17), (PV.i (0 : Int)), (PV.i (0 : Int))], [])))
  else (bif ((bitsOp Go.BinOp.and .i64 a1 (16 : Int)) != (0 : Int)) then (bif ((bitsOp Go.BinOp.and .i64 a1 (64 : Int)) != (0 : Int)) then some ([(PV.i a1), (PV.i a2), (PV.i a3), (PV.i (0 : Int)), (PV.i (0 : Int)), (PV.i (0 : Int)), (PV.i (0 : Int)), (PV.i (0 : Int)), (PV.i (0 : Int)), (PV.i (0 : Int)), (PV.i (0 : Int)), (PV.i (0 : Int)), (PV.i (0 : Int)), (PV.i (0 : Int)), (PV.i (0 : Int)), (PV.i (0 : Int)), (PV.i (0 : Int)), (PV.i a18), (PV.i a19)], [])
  else some ([(PV.i a1), (PV.i a2), (PV.i a3), (PV.i (0 : Int)), (PV.i (0 : Int)), (PV.i (0 : Int)), (PV.i (0 : Int)), (PV.i (0 : Int)), (PV.i (0 : Int)), (PV.i (0 : Int)), (PV.i (0 : Int)), (PV.i (0 : Int)), (PV.i (0 : Int)), (PV.i (0 : Int)), (PV.i (0 : Int)), (PV.i (0 : Int)), (PV.i (0 : Int)), (PV.i a18), (PV.i (0 : Int))], []))
  else (bif ((bitsOp Go.BinOp.and .i64 a1 (64 : Int)) != (0 : Int)) then some ([(PV.i a1), (PV.i a2), (PV.i a3), (PV.i (0 : Int)), (PV.i (0 : Int)), (PV.i (0 : Int)), (PV.i (0 : Int)), (PV.i (0 : Int)), (PV.i (0 : Int)), (PV.i (0 : Int)), (PV.i (0 : Int)), (PV.i (0 : Int)), (PV.i (0 : Int)), (PV.i (0 : Int)), (PV.i (0 : Int)), (PV.i (0 : Int)), (PV.i (0 : Int)), (PV.i (0 : Int)), (PV.i a19)], [])
  else some ([(PV.i a1), (PV.i a2), (PV.i a3), (PV.i (0 : Int)), (PV.i (0 : Int)), (PV.i (0 : Int)), (PV.i (0 : Int)), (PV.i (0 : Int)), (PV.i (0 : Int)), (PV.i (0 : Int)), (PV.i (0 : Int)), (PV.i (0 : Int)), (PV.i (0 : Int)), (PV.i (0 : Int)), (PV.i (0 : Int)), (PV.i (0 : Int)), (PV.i (0 : Int)), (PV.i (0 : Int)), (PV.i (0 : Int))], [])))))
  else (bif ((bitsOp Go.BinOp.and .i64 a1 (4 : Int)) != (0 : Int)) then (bif ((bitsOp Go.BinOp.and .i64 a1 (8 : Int)) != (0 : Int)) then (bif ((bitsOp Go.BinOp.and .i64 a1 (16 : Int)) != (0 : Int)) then (bif ((bitsOp Go.BinOp.and .i64 a1 (64 : Int)) != (0 : Int)) then some ([(PV.i a1), (PV.i a2), (PV.i (0 : Int)), (PV.i a4), (PV.i a5), (PV.i a6), (PV.i a7), (PV.i a8), (PV.i a9), (PV.i a10), (PV.i a11), (PV.i a12), (PV.i a13), (PV.i a14), (PV.i a15), (PV.i a16), (PV.i a17), (PV.i a18), (PV.i a19)], [])
  else some ([(PV.i a1), (PV.i a2), (PV.i (0 : Int)), (PV.i a4), (PV.i a5), (PV.i a6), (PV.i a7), (PV.i a8), (PV.i a9), (PV.i a10), (PV.i a11), (PV.i a12), (PV.i a13), (PV.i a14), (PV.i a15), (PV.i a16), (PV.i a17), (PV.i a18), (PV.i (0 : Int))], []))
  else (bif ((bitsOp Go.BinOp.and .i64 a1 (64 : Int)) != (0 : Int)) then some ([(PV.i a1), (PV.i a2), (PV.i (0 : Int)), (PV.i a4), (PV.i a5), (PV.i a6), (PV.i a7), (PV.i a8), (PV.i a9), (PV.i a10), (PV.i a11), (PV.i a12), (PV.i a13), (PV.i a14), (PV.i a15), (PV.i a16), (PV.i a17), (PV.i (0 : Int)), (PV.i a19)], [])
  else some ([(PV.i a1), (PV.i a2), (PV.i (0 : Int)), (PV.i a4), (PV.i a5), (PV.i a6), (PV.i a7), (PV.i a8), (PV.i a9), (PV.i a10), (PV.i a11), (PV.i a12), (PV.i a13), (PV.i a14), (PV.i a15), (PV.i a16), (PV.i a17), (PV.i (0 : Int)), (PV.i (0 : Int))], [])))
  else (bif ((bitsOp Go.BinOp.and .i64 a1 (16 : Int)) != (0 : Int)) then (bif ((bitsOp Go.BinOp.and .i64 a1 (64 : Int)) != (0 : Int)) then some ([(PV.i a1), (PV.i a2), (PV.i (0 : Int)), (PV.i a4), (PV.i a5), (PV.i a6), (PV.i a7), (PV.i a8), (PV.i a9), (PV.i (0 : Int)), (PV.i (0 : Int)), (PV.i (0 : Int)), (PV.i (0 : Int)), (PV.i (0 : Int)), (PV.i (0 : Int)), (PV.i (0 : Int)), (PV.i (0 : Int)), (PV.i a18), (PV.i a19)], [])
  else some ([(PV.i a1), (PV.i a2), (PV.i (0 : Int)), (PV.i a4), (PV.i a5), (PV.i a6), (PV.i a7), (PV.i a8), (PV.i a9), (PV.i (0 : Int)), (PV.i (0 : Int)), (PV.i (0 : Int)), (PV.i (0 : Int)), (PV.i (0 : Int)), (PV.i (0 : Int)), (PV.i (0 : Int)), (PV.i (0 : Int)), (PV.i a18), (PV.i (0 : Int))], []))
  else (bif ((bitsOp Go.BinOp.and .i64 a1 (64 : Int)) != (0 : Int)) then some ([(PV.i a1), (PV.i a2), (PV.i (0 : Int)), (PV.i a4), (PV.i a5), (PV.i a6), (PV.i a7), (PV.i a8), (PV.i a9), (PV.i (0 : Int)), (PV.i (0 : Int)), (PV.i (0 : Int)), (PV.i (0 : Int)), (PV.i (0 : Int)), (PV.i (0 : Int)), (PV.i (0 : Int)), (PV.i (0 : Int)), (PV.i (0 : Int)), (PV.i a19)], [])
  else some ([(PV.i a1), (PV.i a2), (PV.i (0 : Int)), (PV.i a4), (PV.i a5), (PV.i a6), (PV.i a7), (PV.i a8), (PV.i a9), (PV.i (0 : Int)), (PV.i (0 : Int)), (PV.i (0 : Int)), (PV.i (0 : Int)), (PV.i (0 : Int)), (PV.i (0 : Int)), (PV.i (0 : Int)), (PV.i (0 : Int)), (PV.i (0 : Int)), (PV.i (0 : Int))], []))))
  else (bif ((bitsOp Go.BinOp.and .i64 a1 (8 : Int)) != (0 : Int)) then (bif ((bitsOp Go.BinOp.and .i64 a1 (16 : Int)) != (0 : Int)) then (bif ((bitsOp Go.BinOp.and .i64 a1 (64 : Int)) != (0 : Int)) then some ([(PV.i a1), (PV.i a2), (PV.i (0 : Int)), (PV.i (0 : Int)), (PV.i (0 : Int)), (PV.i (0 : Int)), (PV.i (0 : Int)), (PV.i (0 : Int)), (PV.i (0 : Int)), (PV.i a10), (PV.i a11), (PV.i a12), (PV.i a13), (PV.i a14), (PV.i a15), (PV.i a16), (PV.i a17), (PV.i a18), (PV.i a19)], [])
  else some ([(PV.i a1), (PV.i a2), (PV.i (0 : Int)), (PV.i (0 : Int)), (PV.i (0 : Int)), (PV.i (0 : Int)), (PV.i (0 : Int)), (PV.i (0 : Int)), (PV.i (0 : Int)), (PV.i a10), (PV.i a11), (PV.i a12), (PV.i a13), (PV.i a14), (PV.i a15), (PV.i a16), (PV.i a17), (PV.i a18), (PV.i (0 : Int))], []))
  else (bif ((bitsOp Go.BinOp.and .i64 a1 (64 : Int)) != (0 : Int)) then some ([(PV.i a1), (PV.i a2), (PV.i (0 : Int)), (PV.i (0 : Int)), (PV.i (0 : Int)), (PV.i (0 : Int)), (PV.i (0 : Int)), (PV.i (0 : Int)), (PV.i (0 : Int)), (PV.i a10), (PV.i a11), (PV.i a12), (PV.i a13), (PV.i a14), (PV.i a15), (PV.i a16), (PV.i a17), (PV.i (0 : Int)), (PV.i a19)], [])
  else some ([(PV.i a1), (PV.i a2), (PV.i (0 : Int)), (PV.i (0 : Int)), (PV.i (0 : Int)), (PV.i (0 : Int)), (PV.i (0 : Int)), (PV.i (0 : Int)), (PV.i (0 : Int)), (PV.i a10), (PV.i a11), (PV.i a12), (PV.i a13), (PV.i a14), (PV.i a15), (PV.i a16), (PV.i a17), (PV.i (0 : Int)), (PV.i (0 : Int))], [])))
  else (bif ((bitsOp Go.BinOp.and .i64 a1 (16 : Int)) != (0 : Int)) then (bif ((bitsOp Go.BinOp.and .i64 a1 (64 : Int)) != (0 : Int)) then some ([(PV.i a1), (PV.i a2), (PV.i (0 : Int)), (PV.i (0 : Int)), (PV.i (0 : Int)), (PV.i (0 : Int)), (PV.i (0 : Int)), (PV.i (0 : Int)), (PV.i (0 : Int)), (PV.i (0 : Int)), (PV.i (0 : Int)), (PV.i (0 : Int)), (PV.i (0 : Int)), (PV.i (0 : Int)), (PV.i (0 : Int)), (PV.i (0 : Int)), (PV.i (0 : Int)), (PV.i a18), (PV.i a19)], [])
  else some ([(PV.i a1), (PV.i a2), (PV.i (0 : Int)), (PV.i (0 : Int)), (PV.i (0 : Int)), (PV.i (0 : Int)), (PV.i (0 : Int)), (PV.i (0 : Int)), (PV.i (0 : Int)), (PV.i (0 : Int)), (PV.i (0 : Int)), (PV.i (0 : Int)), (PV.i (0 : Int)), (PV.i (0 : Int)), (PV.i (0 : Int)), (PV.i (0 : Int)), (PV.i (0 : Int)), (PV.i a18), (PV.i (0 : Int))], []))
  else (bif ((bitsOp Go.BinOp.and .i64 a1 (64 : Int)) != (0 : Int)) then some ([(PV.i a1), (PV.i a2), (PV.i (0 : Int)), (PV.i (0 : Int)), (PV.i (0 : Int)), (PV.i (0 : Int)), (PV.i (0 : Int)), (PV.i (0 : Int)), (PV.i (0 : Int)), (PV.i (0 : Int)), (PV.i (0 : Int)), (PV.i (0 : Int)), (PV.i (0 : Int)), (PV.i (0 : Int)), (PV.i (0 : Int)), (PV.i (0 : Int)), (PV.i (0 : Int)), (PV.i (0 : Int)), (PV.i a19)], [])
  else some ([(PV.i a1), (PV.i a2), (PV.i (0 : Int)), (PV.i (0 : Int)), (PV.i (0 : Int)), (PV.i (0 : Int)), (PV.i (0 : Int)), (PV.i (0 : Int)), (PV.i (0 : Int)), (PV.i (0 : Int)), (PV.i (0 : Int)), (PV.i (0 : Int)), (PV.i (0 : Int)), (PV.i (0 : Int)), (PV.i (0 : Int)), (PV.i (0 : Int)), (PV.i (0 : Int)), (PV.i (0 : Int)), (PV.i (0 : Int))], [])))))) := by rw [cW_fix]; generalize cW = C; generalize rW = R; kernel_rfl
/- slices.ContainsFunc[[]celluloid/api.RGBA,celluloid/api.RGBA] -/
theorem w_slices_ContainsFunc___celluloid_api_RGBA_celluloid_api_RGBA_ (a1 : List (List PV)) : cW f_slices_ContainsFunc___celluloid_api_RGBA_celluloid_api_RGBA_ [.l a1, (.f f_pixel_Right_1 0)] [] =
  (cW f_slices_IndexFunc___celluloid_api_RGBA_celluloid_api_RGBA_ [(PV.l a1), (PV.f f_pixel_Right_1 0)] []).bind fun r1 =>
  some ([(PV.b (decide ((((r1).1.getD 0 PV.u)).toI ≥ (0 : Int))))], []) := by rw [cW_fix]; generalize cW = C; generalize rW = R; kernel_rfl
/- movie slices.IndexFunc[[]int,int] -/
noncomputable def S_movie_slices_IndexFunc___int_int__L0 (x1 : List (List PV)) (x2 : Int) (x3 : Int) (x4 : Int) (x5 : Int) : St := mkSt [(0, .v (.sl 3 x1)), (1, .v (.fn 68 [(.p 0), (.p 1)])), (7, .v (.int .i64 x2)), (8, .v (.int .i64 x3))] [((.p 0), .cells 3 [.int .i64 x4]), ((.p 1), .cells 3 [.int .i64 x5])] 1000 19
noncomputable def at_movie_slices_IndexFunc___int_int__L0 : List Item := (atLoop Tryz.f120 0)
theorem w_movie_slices_IndexFunc___int_int_ (a1 : List (List PV)) (p0_1 : Int) (p1_1 : Int) : cW f_slices_IndexFunc___int_int_ [.l a1, (.f f_movie_within_1 2)] [(t_int, [.i p0_1]), (t_int, [.i p1_1])] =
  rW f_slices_IndexFunc___int_int_ [t_int, t_int] at_movie_slices_IndexFunc___int_int__L0 (S_movie_slices_IndexFunc___int_int__L0 (a1) ((((List.length a1) : Nat) : Int)) ((0 : Int)) (p0_1) (p1_1)) := by rw [cW_fix]; generalize cW = C; generalize rW = R; kernel_rfl
theorem w_movie_slices_IndexFunc___int_int__L0 (x1 : List (List PV)) (x2 : Int) (x3 : Int) (x4 : Int) (x5 : Int) : rW f_slices_IndexFunc___int_int_ [t_int, t_int] at_movie_slices_IndexFunc___int_int__L0 (S_movie_slices_IndexFunc___int_int__L0 x1 x2 x3 x4 x5) =
  (bif (decide (x3 < x2)) then (bif (inB x3 (List.length x1)) then (cW f_movie_within_1 [(PV.i (((elemAt x1 x3).getD 0 PV.u)).toI)] [(t_int, [(PV.i x4)]), (t_int, [(PV.i x5)])]).bind fun r1 =>
  (bif (((r1).1.getD 0 PV.u)).toB then some ([(PV.i x3)], [(t_int, [(PV.i (((((r1).2.getD 0 (0, []))).2.getD 0 PV.u)).toI)]), (t_int, [(PV.i (((((r1).2.getD 1 (0, []))).2.getD 0 PV.u)).toI)])])
  else rW f_slices_IndexFunc___int_int_ [t_int, t_int] at_movie_slices_IndexFunc___int_int__L0 (S_movie_slices_IndexFunc___int_int__L0 (x1) (x2) ((IntKind.wrap .i64 (x3 + (1 : Int)))) ((((((r1).2.getD 0 (0, []))).2.getD 0 PV.u)).toI) ((((((r1).2.getD 1 (0, []))).2.getD 0 PV.u)).toI)))
  else none)
  else some ([(PV.i (-1 : Int))], [(t_int, [(PV.i x4)]), (t_int, [(PV.i x5)])])) := by rw [rW_fix]; generalize cW = C; generalize rW = R; kernel_rfl
/- celluloid/movie.Right -/
/- celluloid/movie.raws -/
noncomputable def S_movie_raws_L0 (x1 : List (List PV)) (x2 : Int) (x3 : Int) (x4 : List (List PV)) : St := mkSt [(4, .v (.wr (.w 4))), (12, .v (.sl 60 x1)), (13, .v (.int .i64 x2)), (14, .v (.int .i64 x3))] [((.w 4), .row 74 x4)] 1000 31
noncomputable def at_movie_raws_L0 : List Item := (atLoop Tryz.f28 0)
/- (celluloid/movie.Place).right -/
theorem w__celluloid_movie_Place__right (a1 : Int) (a2 : Int) (a3 : Int) (a4 : Int) (a5 : Int) (a6 : Int) (a7 : Int) (a8 : Int) (a9 : Int) (a10 : Int) (a11 : Int) (a12 : Int) (a13 : Int) (a14 : Int) (a15 : Int) (a16 : Int) (a17 : Int) (a18 : Int) (a19 : Int) : cW f__celluloid_movie_Place__right [.i a1, .i a2, .i a3, .i a4, .i a5, .i a6, .i a7, .i a8, .i a9, .i a10, .i a11, .i a12, .i a13, .i a14, .i a15, .i a16, .i a17, .i a18, .i a19] [] =
  ((bif (decide (a1 ≥ (0 : Int))) then (bif ((bitsOp Go.BinOp.andNot .i64 a1 (95 : Int)) == (0 : Int)) then (bif ((bitsOp Go.BinOp.and .i64 a1 (3 : Int)) != (0 : Int)) then (cW f_movie_within [(PV.i (1 : Int)), (PV.i (255 : Int)), (PV.l (List.set [[(PV.i (0 : Int))]] 0 [(PV.i a2)]))] []).bind fun r1 =>
   (bif (((r1).1.getD 0 PV.u)).toB then (cW f_movie_told [(PV.i a1), (PV.i a2), (PV.i a3), (PV.i a4), (PV.i a5), (PV.i a6), (PV.i a7), (PV.i a8), (PV.i a9), (PV.i a10), (PV.i a11), (PV.i a12), (PV.i a13), (PV.i a14), (PV.i a15), (PV.i a16), (PV.i a17), (PV.i a18), (PV.i a19)] []).bind fun r2 =>
   (bif ((a1 == (((r2).1.getD 0 PV.u)).toI) && ((a2 == (((r2).1.getD 1 PV.u)).toI) && ((a3 == (((r2).1.getD 2 PV.u)).toI) && ((a4 == (((r2).1.getD 3 PV.u)).toI) && ((a5 == (((r2).1.getD 4 PV.u)).toI) && ((a6 == (((r2).1.getD 5 PV.u)).toI) && ((a7 == (((r2).1.getD 6 PV.u)).toI) && ((a8 == (((r2).1.getD 7 PV.u)).toI) && ((a9 == (((r2).1.getD 8 PV.u)).toI) && ((a10 == (((r2).1.getD 9 PV.u)).toI) && ((a11 == (((r2).1.getD 10 PV.u)).toI) && ((a12 == (((r2).1.getD 11 PV.u)).toI) && ((a13 == (((r2).1.getD 12 PV.u)).toI) && ((a14 == (((r2).1.getD 13 PV.u)).toI) && ((a15 == (((r2).1.getD 14 PV.u)).toI) && ((a16 == (((r2).1.getD 15 PV.u)).toI) && ((a17 == (((r2).1.getD 16 PV.u)).toI) && ((a18 == (((r2).1.getD 17 PV.u)).toI) && (a19 == (((r2).1.getD 18 PV.u)).toI))))))))))))))))))) then (cW f_movie_within [(PV.i (0 : Int)), (PV.i (65535 : Int)), (PV.l (List.set (List.set [[(PV.i (0 : Int))], [(PV.i (0 : Int))]] 0 [(PV.i a3)]) 1 [(PV.i a18)]))] []).bind fun r3 =>
   (bif (((r3).1.getD 0 PV.u)).toB then (cW f_field_RightMatrix [(PV.i a4), (PV.i a5), (PV.i a6), (PV.i a7), (PV.i a8), (PV.i a9)] []).bind fun r4 =>
   (bif (((r4).1.getD 0 PV.u)).toB then (cW f_field_RightCx [(PV.i a10), (PV.i a11), (PV.i a12), (PV.i a13), (PV.i a14), (PV.i a15), (PV.i a16), (PV.i a17)] []).bind fun r5 =>
   (bif (((r5).1.getD 0 PV.u)).toB then (bif ((bitsOp Go.BinOp.and .i64 a1 (64 : Int)) == (0 : Int)) then some [(PV.b true)]
   else (cW f_movie_within [(PV.i (1 : Int)), (PV.i (255 : Int)), (PV.l (List.set [[(PV.i (0 : Int))]] 0 [(PV.i a19)]))] []).bind fun r6 =>
   some [(PV.b (((r6).1.getD 0 PV.u)).toB)])
   else some [(PV.b false)])
   else some [(PV.b false)])
   else some [(PV.b false)])
   else some [(PV.b false)])
   else some [(PV.b false)])
   else some [(PV.b false)])
   else some [(PV.b false)])
   else some [(PV.b false)])).bind fun r7 =>
  some ([(PV.b ((r7.getD 0 PV.u)).toB)], []) := by rw [cW_fix]; generalize cW = C; generalize rW = R; kernel_rfl
/- celluloid/pixel.Right -/
theorem w_pixel_Right (a1 : Int) (a2 : Int) (a3 : Int) (a4 : List (List PV)) : cW f_pixel_Right [.i a1, .i a2, .i a3, .l a4] [] =
  ((bif (decide (a1 ≥ (0 : Int))) then (bif (decide (a1 < (65536 : Int))) then (bif (decide (a2 ≥ (1 : Int))) then (bif (decide (a2 ≤ (64 : Int))) then (bif (decide (a3 ≥ (1 : Int))) then (bif (decide (a3 ≤ (64 : Int))) then (bif ((((List.length a4) : Nat) : Int) == (IntKind.wrap .i64 (a2 * a3))) then (cW f_slices_ContainsFunc___celluloid_api_RGBA_celluloid_api_RGBA_ [(PV.l a4), (PV.f f_pixel_Right_1 0)] []).bind fun r1 =>
   some [(PV.b (!(((r1).1.getD 0 PV.u)).toB))]
   else some [(PV.b false)])
   else some [(PV.b false)])
   else some [(PV.b false)])
   else some [(PV.b false)])
   else some [(PV.b false)])
   else some [(PV.b false)])
   else some [(PV.b false)])).bind fun r2 =>
  some ([(PV.b ((r2.getD 0 PV.u)).toB)], []) := by rw [cW_fix]; generalize cW = C; generalize rW = R; kernel_rfl
/- celluloid/pixel.Right$1 -/
theorem w_pixel_Right_1 (a1 : Int) (a2 : Int) (a3 : Int) (a4 : Int) : cW f_pixel_Right_1 [.i a1, .i a2, .i a3, .i a4] [] =
  (cW f_pixel_faint [(PV.i a1), (PV.i a2), (PV.i a3), (PV.i a4)] []).bind fun r1 =>
  some ([(PV.b (!(((r1).1.getD 0 PV.u)).toB))], []) := by rw [cW_fix]; generalize cW = C; generalize rW = R; kernel_rfl
/- celluloid/movie.Encode -/
/- celluloid/movie.inner -/
/- celluloid/movie.within -/
theorem w_movie_within (a1 : Int) (a2 : Int) (a3 : List (List PV)) : cW f_movie_within [.i a1, .i a2, .l a3] [] =
  (cW f_slices_ContainsFunc___int_int_ [(PV.l a3), (PV.f f_movie_within_1 (List.length [(Id.n 1 0 0), (Id.n 1 1 0)]))] [(t_int, [(PV.i a1)]), (t_int, [(PV.i a2)])]).bind fun r1 =>
  some ([(PV.b (!(((r1).1.getD 0 PV.u)).toB))], []) := by rw [cW_fix]; generalize cW = C; generalize rW = R; kernel_rfl
/- slices.ContainsFunc[[]celluloid/movie.Tag,celluloid/movie.Tag] -/
theorem w_slices_ContainsFunc___celluloid_movie_Tag_celluloid_movie_Tag_ (a1 : List (List PV)) : cW f_slices_ContainsFunc___celluloid_movie_Tag_celluloid_movie_Tag_ [.l a1, (.f f_movie_RightTag_1 0)] [] =
  (cW f_slices_IndexFunc___celluloid_movie_Tag_celluloid_movie_Tag_ [(PV.l a1), (PV.f f_movie_RightTag_1 0)] []).bind fun r1 =>
  some ([(PV.b (decide ((((r1).1.getD 0 PV.u)).toI ≥ (0 : Int))))], []) := by rw [cW_fix]; generalize cW = C; generalize rW = R; kernel_rfl
/- movie slices.ContainsFunc[[]int,int] -/
theorem w_movie_slices_ContainsFunc___int_int_ (a1 : List (List PV)) (p0_1 : Int) (p1_1 : Int) : cW f_slices_ContainsFunc___int_int_ [.l a1, (.f f_movie_within_1 2)] [(t_int, [.i p0_1]), (t_int, [.i p1_1])] =
  (cW f_slices_IndexFunc___int_int_ [(PV.l a1), (PV.f f_movie_within_1 2)] [(t_int, [(PV.i p0_1)]), (t_int, [(PV.i p1_1)])]).bind fun r1 =>
  some ([(PV.b (decide ((((r1).1.getD 0 PV.u)).toI ≥ (0 : Int))))], [(t_int, [(PV.i (((((r1).2.getD 0 (0, []))).2.getD 0 PV.u)).toI)]), (t_int, [(PV.i (((((r1).2.getD 1 (0, []))).2.getD 0 PV.u)).toI)])]) := by rw [cW_fix]; generalize cW = C; generalize rW = R; kernel_rfl
/- celluloid/movie.noShape -/
theorem w_movie_noShape (a1 : Int) (a2 : Int) (a3 : Int) (a4 : Int) (a5 : Int) (a6 : List (List PV)) (a7 : List (List PV)) (a8 : List (List PV)) : cW f_movie_noShape [.i a1, .i a2, .i a3, .i a4, .i a5, .l a6, .l a7, .l a8] [] =
  ((bif (a1 == (0 : Int)) then (bif ((a2 == (0 : Int)) && ((a3 == (0 : Int)) && ((a4 == (0 : Int)) && (a5 == (0 : Int))))) then some [(PV.b ((IntKind.wrap .i64 ((IntKind.wrap .i64 ((((List.length a6) : Nat) : Int) + (((List.length a7) : Nat) : Int))) + (((List.length a8) : Nat) : Int))) == (0 : Int)))]
   else some [(PV.b false)])
   else some [(PV.b false)])).bind fun r1 =>
  some ([(PV.b ((r1.getD 0 PV.u)).toB)], []) := by rw [cW_fix]; generalize cW = C; generalize rW = R; kernel_rfl
/- celluloid/pixel.faint -/
theorem w_pixel_faint (a1 : Int) (a2 : Int) (a3 : Int) (a4 : Int) : cW f_pixel_faint [.i a1, .i a2, .i a3, .i a4] [] =
  ((cW f_field_RightRGBA [(PV.i a1), (PV.i a2), (PV.i a3), (PV.i a4)] []).bind fun r1 =>
   (bif (((r1).1.getD 0 PV.u)).toB then some [(PV.b (decide ((bif (decide (a3 > (bif (decide (a2 > a1)) then a2 else a1))) then a3 else (bif (decide (a2 > a1)) then a2 else a1)) ≤ a4)))]
   else some [(PV.b false)])).bind fun r2 =>
  some ([(PV.b ((r2.getD 0 PV.u)).toB)], []) := by rw [cW_fix]; generalize cW = C; generalize rW = R; kernel_rfl
/- slices.IndexFunc[[]celluloid/api.RGBA,celluloid/api.RGBA] -/
noncomputable def S_slices_IndexFunc___celluloid_api_RGBA_celluloid_api_RGBA__L0 (x1 : List (List PV)) (x2 : Int) (x3 : Int) : St := mkSt [(0, .v (.sl 39 x1)), (1, .v (.fn 109 [])), (7, .v (.int .i64 x2)), (8, .v (.int .i64 x3))] [] 1000 19
noncomputable def at_slices_IndexFunc___celluloid_api_RGBA_celluloid_api_RGBA__L0 : List Item := (atLoop Tryz.f149 0)
theorem w_slices_IndexFunc___celluloid_api_RGBA_celluloid_api_RGBA_ (a1 : List (List PV)) : cW f_slices_IndexFunc___celluloid_api_RGBA_celluloid_api_RGBA_ [.l a1, (.f f_pixel_Right_1 0)] [] =
  rW f_slices_IndexFunc___celluloid_api_RGBA_celluloid_api_RGBA_ [] at_slices_IndexFunc___celluloid_api_RGBA_celluloid_api_RGBA__L0 (S_slices_IndexFunc___celluloid_api_RGBA_celluloid_api_RGBA__L0 (a1) ((((List.length a1) : Nat) : Int)) ((0 : Int))) := by rw [cW_fix]; generalize cW = C; generalize rW = R; kernel_rfl
theorem w_slices_IndexFunc___celluloid_api_RGBA_celluloid_api_RGBA__L0 (x1 : List (List PV)) (x2 : Int) (x3 : Int) : rW f_slices_IndexFunc___celluloid_api_RGBA_celluloid_api_RGBA_ [] at_slices_IndexFunc___celluloid_api_RGBA_celluloid_api_RGBA__L0 (S_slices_IndexFunc___celluloid_api_RGBA_celluloid_api_RGBA__L0 x1 x2 x3) =
  (bif (decide (x3 < x2)) then (bif (inB x3 (List.length x1)) then (cW f_pixel_Right_1 [(PV.i (((elemAt x1 x3).getD 0 PV.u)).toI), (PV.i (((elemAt x1 x3).getD 1 PV.u)).toI), (PV.i (((elemAt x1 x3).getD 2 PV.u)).toI), (PV.i (((elemAt x1 x3).getD 3 PV.u)).toI)] []).bind fun r1 =>
  (bif (((r1).1.getD 0 PV.u)).toB then some ([(PV.i x3)], [])
  else rW f_slices_IndexFunc___celluloid_api_RGBA_celluloid_api_RGBA_ [] at_slices_IndexFunc___celluloid_api_RGBA_celluloid_api_RGBA__L0 (S_slices_IndexFunc___celluloid_api_RGBA_celluloid_api_RGBA__L0 (x1) (x2) ((IntKind.wrap .i64 (x3 + (1 : Int))))))
  else none)
  else some ([(PV.i (-1 : Int))], [])) := by rw [rW_fix]; generalize cW = C; generalize rW = R; kernel_rfl
end Go.AI
