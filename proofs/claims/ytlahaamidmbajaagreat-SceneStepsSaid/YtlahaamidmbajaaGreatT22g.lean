/- A place, done: what stands behind it. -/
import Derived.Test.YtlahaamidmbajaaGreatU22
import Derived.Test.YtlahaamidmbajaaGreatT22f
set_option linter.unusedVariables false
set_option linter.unusedSimpArgs false
set_option maxRecDepth 100000
namespace Go.AI
open Go Go.RowKit Go.Proofs Go.Maps
def itE (y : Nat → Int) : List PV := [.i (y 0), .i (y 1), .i (y 2), .i (y 3), .i (y 4), .i (y 5), .i (y 6), .i (y 7), .i (y 8), .i (y 9), .i (y 10), .i (y 11), .i (y 12), .i (y 13), .i (y 14), .i (y 15), .i (y 16), .i (y 17), .i (y 18)]
def up (y : Nat → Int) (j : Nat) (v : Int) (i : Nat) : Int := bif Nat.beq i j then v else y i
def bt2 (m k : Int) : Bool := bitsOp .and .i64 m k != 0
def s64 (y p : Nat → Int) : Nat → Int := bif bt2 (p 0) 64 then up y 17 (p 18) else y
def s16 (y p : Nat → Int) : Nat → Int := bif bt2 (p 0) 16 then up y 16 (p 17) else y
def s8 (y p : Nat → Int) : Nat → Int := bif bt2 (p 0) 8 then (fun i => bif Nat.ble 8 i && Nat.ble i 15 then p (i + 1) else y i) else y
def s4 (y p : Nat → Int) : Nat → Int := bif bt2 (p 0) 4 then (fun i => bif Nat.ble 2 i && Nat.ble i 7 then p (i + 1) else y i) else y
def s2 (y p : Nat → Int) (n : Int) : Nat → Int := bif bt2 (p 0) 2 then up (up y 1 (p 2)) 18 n else y
def newF (d : Int) : Nat → Int
  | 0 => d
  | 2 => 65536
  | 5 => 65536
  | 8 => 256
  | 9 => 256
  | 10 => 256
  | 11 => 256
  | _ => 0
def placeF (x : Nat → Int) (th : Bool) (p : Nat → Int) (n : Int) : (Nat → Int) × Bool :=
  bif (bitsOp .and .i64 (p 0) 2 == 0) && !th then (x, false)
  else (s64 (s16 (s8 (s4 (s2 (bif !th || (bitsOp .and .i64 (p 0) 1 == 0) then newF (p 1) else x) p n) p) p) p) p, true)
theorem pC13 (y p z : Nat → Int) : rW f_scene_place [] at_scene_place_C13 (S_scene_place_C13 (y 0) (y 1) (y 2) (y 3) (y 4) (y 5) (y 6) (y 7) (y 8) (y 9) (y 10) (y 11) (y 12) (y 13) (y 14) (y 15) (y 16) (y 17) (y 18) (p 0) (p 1) (p 2) (p 3) (p 4) (p 5) (p 6) (p 7) (p 8) (p 9) (p 10) (p 11) (p 12) (p 13) (p 14) (p 15) (p 16) (p 17) (p 18) (z 0) (z 1) (z 2) (z 3) (z 4) (z 5) (z 6) (z 7) (z 8) (z 9) (z 10) (z 11) (z 12) (z 13) (z 14) (z 15) (z 16) (z 17) (z 18)) = some (itE (s64 y p) ++ [.b true], []) := by
  rw [w_scene_place_C13]
  unfold s64 bt2
  cases bitsOp Go.BinOp.and .i64 (p 0) 64 != 0 <;> rfl
theorem pC11 (y p z : Nat → Int) : rW f_scene_place [] at_scene_place_C11 (S_scene_place_C11 (y 0) (y 1) (y 2) (y 3) (y 4) (y 5) (y 6) (y 7) (y 8) (y 9) (y 10) (y 11) (y 12) (y 13) (y 14) (y 15) (y 16) (y 17) (y 18) (p 0) (p 1) (p 2) (p 3) (p 4) (p 5) (p 6) (p 7) (p 8) (p 9) (p 10) (p 11) (p 12) (p 13) (p 14) (p 15) (p 16) (p 17) (p 18) (z 0) (z 1) (z 2) (z 3) (z 4) (z 5) (z 6) (z 7) (z 8) (z 9) (z 10) (z 11) (z 12) (z 13) (z 14) (z 15) (z 16) (z 17) (z 18)) = some (itE (s64 (s16 y p) p) ++ [.b true], []) := by
  rw [w_scene_place_C11]
  unfold s16 bt2
  cases bitsOp Go.BinOp.and .i64 (p 0) 16 != 0 with
  | true => exact pC13 (up y 16 (p 17)) p z
  | false => exact pC13 y p z
theorem pC9 (y p z : Nat → Int) : rW f_scene_place [] at_scene_place_C9 (S_scene_place_C9 (y 0) (y 1) (y 2) (y 3) (y 4) (y 5) (y 6) (y 7) (y 8) (y 9) (y 10) (y 11) (y 12) (y 13) (y 14) (y 15) (y 16) (y 17) (y 18) (p 0) (p 1) (p 2) (p 3) (p 4) (p 5) (p 6) (p 7) (p 8) (p 9) (p 10) (p 11) (p 12) (p 13) (p 14) (p 15) (p 16) (p 17) (p 18) (z 0) (z 1) (z 2) (z 3) (z 4) (z 5) (z 6) (z 7) (z 8) (z 9) (z 10) (z 11) (z 12) (z 13) (z 14) (z 15) (z 16) (z 17) (z 18)) = some (itE (s64 (s16 (s8 y p) p) p) ++ [.b true], []) := by
  rw [w_scene_place_C9]
  unfold s8 bt2
  cases bitsOp Go.BinOp.and .i64 (p 0) 8 != 0 with
  | true => exact pC11 (fun i => bif Nat.ble 8 i && Nat.ble i 15 then p (i + 1) else y i) p z
  | false => exact pC11 y p z
theorem pC7 (y p z : Nat → Int) : rW f_scene_place [] at_scene_place_C7 (S_scene_place_C7 (y 0) (y 1) (y 2) (y 3) (y 4) (y 5) (y 6) (y 7) (y 8) (y 9) (y 10) (y 11) (y 12) (y 13) (y 14) (y 15) (y 16) (y 17) (y 18) (p 0) (p 1) (p 2) (p 3) (p 4) (p 5) (p 6) (p 7) (p 8) (p 9) (p 10) (p 11) (p 12) (p 13) (p 14) (p 15) (p 16) (p 17) (p 18) (z 0) (z 1) (z 2) (z 3) (z 4) (z 5) (z 6) (z 7) (z 8) (z 9) (z 10) (z 11) (z 12) (z 13) (z 14) (z 15) (z 16) (z 17) (z 18)) = some (itE (s64 (s16 (s8 (s4 y p) p) p) p) ++ [.b true], []) := by
  rw [w_scene_place_C7]
  unfold s4 bt2
  cases bitsOp Go.BinOp.and .i64 (p 0) 4 != 0 with
  | true => exact pC9 (fun i => bif Nat.ble 2 i && Nat.ble i 7 then p (i + 1) else y i) p z
  | false => exact pC9 y p z
theorem pC5 (n : Int) (y p z : Nat → Int) : rW f_scene_place [] at_scene_place_C5 (S_scene_place_C5 n (y 0) (y 1) (y 2) (y 3) (y 4) (y 5) (y 6) (y 7) (y 8) (y 9) (y 10) (y 11) (y 12) (y 13) (y 14) (y 15) (y 16) (y 17) (y 18) (p 0) (p 1) (p 2) (p 3) (p 4) (p 5) (p 6) (p 7) (p 8) (p 9) (p 10) (p 11) (p 12) (p 13) (p 14) (p 15) (p 16) (p 17) (p 18) (z 0) (z 1) (z 2) (z 3) (z 4) (z 5) (z 6) (z 7) (z 8) (z 9) (z 10) (z 11) (z 12) (z 13) (z 14) (z 15) (z 16) (z 17) (z 18)) = some (itE (s64 (s16 (s8 (s4 (s2 y p n) p) p) p) p) ++ [.b true], []) := by
  rw [w_scene_place_C5]
  unfold s2 bt2
  cases bitsOp Go.BinOp.and .i64 (p 0) 2 != 0 with
  | true => exact pC7 (up (up y 1 (p 2)) 18 n) p z
  | false => exact pC7 y p z
theorem Same_c : cW f_field_Same [] [] = some ([.i 65536, .i 0, .i 0, .i 65536, .i 0, .i 0], []) := c_at 10 (by kernel_rfl)
theorem Plain_c : cW f_field_Plain [] [] = some ([.i 256, .i 256, .i 256, .i 256, .i 0, .i 0, .i 0, .i 0], []) := c_at 10 (by kernel_rfl)
theorem Place_c (x : Nat → Int) (th : Bool) (p : Nat → Int) (n : Int) : cW f_scene_place (itE x ++ [.b th] ++ itE p ++ [.i n]) [] = some (itE (placeF x th p n).1 ++ [.b (placeF x th p n).2], []) := by
  unfold itE
  simp only [List.cons_append, List.nil_append]
  rw [w_scene_place]
  simp only [Same_c, Plain_c]
  unfold placeF
  cases bitsOp Go.BinOp.and .i64 (p 0) 2 == 0 with
  | true =>
    cases th with
    | true => 
      cases bitsOp Go.BinOp.and .i64 (p 0) 1 == 0 with
      | true => exact pC5 n (newF (p 1)) p (fun _ => 0)
      | false => exact pC5 n x p (fun _ => 0)
    | false => rfl
  | false =>
    cases th with
    | true => 
      cases bitsOp Go.BinOp.and .i64 (p 0) 1 == 0 with
      | true => exact pC5 n (newF (p 1)) p (fun _ => 0)
      | false => exact pC5 n x p (fun _ => 0)
    | false => exact pC5 n (newF (p 1)) p (fun _ => 0)
end Go.AI
