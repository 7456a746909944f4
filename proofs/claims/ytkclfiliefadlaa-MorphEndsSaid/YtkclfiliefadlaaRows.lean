/-
  No cell of these rows narrows 'for every input' (looked for: loops, veiled, ifaces, maps, wideKeys, modest, calm, conditions, laid).
  DERIVED. THE GIVEN ROWS OF THIS SEAT. 5 by the template 'for every input the law returns true; each argument reads behind the call as it read before'; 0 by the template 'total and deterministic' (their statements: YtkclfiliefadlaaTotals.lean).
  GIVEN WITH THE SEED: the statements are not yours to turn. If you find one false, say at which input.
  Laid BY PROGRAM, IN A SANDBOX (cutbox-rows.mjs): the forced cells as the released guide's own fill.sh prints them over the translation f87cfb6828164476… (all of the seat's roots in one cut). By AI agents, Wed Nov 11 2026. No macro, syntax, notation, axiom, sorry.
-/
import Derived.Test.YtkclfiliefadlaaChecked
import GoSem.Claim
import GoSem.ClaimJoined
import GoSem.ClaimMapViews
import Derived.JoinedTies
import Derived.KernelRfl
namespace Go.Proofs.Ytkclfiliefadlaa
/- THE CELL 'sum', in the pinned program and in every row, IS THE sha256 OF THE DUMP (.gsa) THAT YtkclfiliefadlaaProg.lean LOADS. Nothing in Lean hashes anything: it is a label: what it is worth is what the hold of that sum in a sandbox is worth. -/
noncomputable def Try.pinned : Pinned := { name := "ytkclfiliefadlaa", sum := "f87cfb682816447653f80b9cf9accd4e4486c36f7e530014c0fa260219990a1c", checked := Try.checked }
namespace Rows
def none {H : Type} : Left H := { results := [], args := [] }

/-- 'celluloidlaw10.MorphBetween': WHATEVER THE INPUT: true; the input reads as it did. -/
def morphBetweenSpec : ChangeSpec := { name := "morphBetween", fn := fun _ => fun
  | [d1, d2, d3] => { results := [.lit (.bool true)], args := [d1, d2, d3] }
  | _ => none }
def morphBetweenRow : OpenClaim := { program := "ytkclfiliefadlaa", sum := "f87cfb682816447653f80b9cf9accd4e4486c36f7e530014c0fa260219990a1c", func := "celluloid/celluloidlaw10.MorphBetween", spec := "morphBetween", inPlace := ["math/bits.Sub64"], unfollowed := true, recurses := true, named := ["math/bits.divideError", "math/bits.overflowError"], apart := false }
def MorphBetweenSaid : Prop := morphBetweenRow.holds Try.pinned (OpenSpec.ofChange morphBetweenSpec)

/-- ITS FALSE NEIGHBOUR: 'it returns false'. Refute it at one input. -/
def morphBetweenWrong : ChangeSpec := { name := "morphBetween", fn := fun _ => fun
  | [d1, d2, d3] => { results := [.lit (.bool false)], args := [d1, d2, d3] }
  | _ => none }
def MorphBetweenWrongFalsely : Prop := morphBetweenRow.holds Try.pinned (OpenSpec.ofChange morphBetweenWrong)

/-- 'celluloidlaw10.MorphAt': WHATEVER THE INPUT: true; the input reads as it did. -/
def morphAtSpec : ChangeSpec := { name := "morphAt", fn := fun _ => fun
  | [d1, d2] => { results := [.lit (.bool true)], args := [d1, d2] }
  | _ => none }
def morphAtRow : OpenClaim := { program := "ytkclfiliefadlaa", sum := "f87cfb682816447653f80b9cf9accd4e4486c36f7e530014c0fa260219990a1c", func := "celluloid/celluloidlaw10.MorphAt", spec := "morphAt", inPlace := ["math/bits.Sub64"], unfollowed := true, recurses := true, named := ["math/bits.divideError", "math/bits.overflowError"], apart := false }
def MorphAtSaid : Prop := morphAtRow.holds Try.pinned (OpenSpec.ofChange morphAtSpec)

/-- ITS FALSE NEIGHBOUR: 'it returns false'. Refute it at one input. -/
def morphAtWrong : ChangeSpec := { name := "morphAt", fn := fun _ => fun
  | [d1, d2] => { results := [.lit (.bool false)], args := [d1, d2] }
  | _ => none }
def MorphAtWrongFalsely : Prop := morphAtRow.holds Try.pinned (OpenSpec.ofChange morphAtWrong)

/-- 'celluloidlaw10.MorphSame': WHATEVER THE INPUT: true; the input reads as it did. -/
def morphSameSpec : ChangeSpec := { name := "morphSame", fn := fun _ => fun
  | [d1, d2] => { results := [.lit (.bool true)], args := [d1, d2] }
  | _ => none }
def morphSameRow : OpenClaim := { program := "ytkclfiliefadlaa", sum := "f87cfb682816447653f80b9cf9accd4e4486c36f7e530014c0fa260219990a1c", func := "celluloid/celluloidlaw10.MorphSame", spec := "morphSame", inPlace := ["math/bits.Sub64"], unfollowed := true, recurses := true, named := ["math/bits.divideError", "math/bits.overflowError"], apart := false }
def MorphSameSaid : Prop := morphSameRow.holds Try.pinned (OpenSpec.ofChange morphSameSpec)

/-- ITS FALSE NEIGHBOUR: 'it returns false'. Refute it at one input. -/
def morphSameWrong : ChangeSpec := { name := "morphSame", fn := fun _ => fun
  | [d1, d2] => { results := [.lit (.bool false)], args := [d1, d2] }
  | _ => none }
def MorphSameWrongFalsely : Prop := morphSameRow.holds Try.pinned (OpenSpec.ofChange morphSameWrong)

/-- 'celluloidlaw10.MorphRises': WHATEVER THE INPUT: true; the input reads as it did. -/
def morphRisesSpec : ChangeSpec := { name := "morphRises", fn := fun _ => fun
  | [d1, d2, d3, d4] => { results := [.lit (.bool true)], args := [d1, d2, d3, d4] }
  | _ => none }
def morphRisesRow : OpenClaim := { program := "ytkclfiliefadlaa", sum := "f87cfb682816447653f80b9cf9accd4e4486c36f7e530014c0fa260219990a1c", func := "celluloid/celluloidlaw10.MorphRises", spec := "morphRises", inPlace := ["math/bits.Sub64"], unfollowed := true, recurses := true, named := ["math/bits.divideError", "math/bits.overflowError"], apart := false }
def MorphRisesSaid : Prop := morphRisesRow.holds Try.pinned (OpenSpec.ofChange morphRisesSpec)

/-- ITS FALSE NEIGHBOUR: 'it returns false'. Refute it at one input. -/
def morphRisesWrong : ChangeSpec := { name := "morphRises", fn := fun _ => fun
  | [d1, d2, d3, d4] => { results := [.lit (.bool false)], args := [d1, d2, d3, d4] }
  | _ => none }
def MorphRisesWrongFalsely : Prop := morphRisesRow.holds Try.pinned (OpenSpec.ofChange morphRisesWrong)

/-- 'celluloidlaw10.MorphEnds': WHATEVER THE INPUT: true; the input reads as it did. -/
def morphEndsSpec : ChangeSpec := { name := "morphEnds", fn := fun _ => fun
  | [d1, d2] => { results := [.lit (.bool true)], args := [d1, d2] }
  | _ => none }
def morphEndsRow : OpenClaim := { program := "ytkclfiliefadlaa", sum := "f87cfb682816447653f80b9cf9accd4e4486c36f7e530014c0fa260219990a1c", func := "celluloid/celluloidlaw10.MorphEnds", spec := "morphEnds", inPlace := ["math/bits.Sub64"], unfollowed := true, recurses := true, named := ["math/bits.divideError", "math/bits.overflowError"], apart := false }
def MorphEndsSaid : Prop := morphEndsRow.holds Try.pinned (OpenSpec.ofChange morphEndsSpec)

/-- ITS FALSE NEIGHBOUR: 'it returns false'. Refute it at one input. -/
def morphEndsWrong : ChangeSpec := { name := "morphEnds", fn := fun _ => fun
  | [d1, d2] => { results := [.lit (.bool false)], args := [d1, d2] }
  | _ => none }
def MorphEndsWrongFalsely : Prop := morphEndsRow.holds Try.pinned (OpenSpec.ofChange morphEndsWrong)

/- THE SECOND FORM. 'bulk': how many values and letters a reading holds, each counted each time it is reached (what is shared counts as often as it is met; a slice's spare places count too). A statement '..UptoSaid' is the law's where the arguments, and the package variables that the reading takes, are together of bulk at most 1048576: NARROWER than '..Said'. Prove '..Said' where nothing that the law and all that it calls make is longer than what came in: it says more and counts as full. Else prove '..UptoSaid'. A law counts once. -/
mutual
def uptoBulk {H : Type} : DataW H → Nat
  | .lit (.string bytes) => bytes.length + 1
  | .lit _ => 1
  | .nil => 1
  | .ptr d => uptoBulk d + 1
  | .slice elems spare => uptoBulkAll elems + uptoBulkAll spare + 1
  | .agg parts => uptoBulkAll parts + 1
  | .iface _ d => uptoBulk d + 1
  | .map entries => uptoBulkEntries entries + 1
  | .held _ => 1
def uptoBulkAll {H : Type} : List (DataW H) → Nat
  | [] => 0
  | d :: r => uptoBulk d + uptoBulkAll r
def uptoBulkEntries {H : Type} : List (Lit × DataW H) → Nat
  | [] => 0
  | x :: r => uptoBulkEntry x + uptoBulkEntries r
def uptoBulkEntry {H : Type} : Lit × DataW H → Nat
  | (.string bytes, d) => bytes.length + uptoBulk d + 1
  | (_, d) => uptoBulk d + 1
 end
def uptoSmall : (H : Type) → List (DataW H) → Bool := fun _ ds => decide (uptoBulkAll ds ≤ 1048576)
def OpenSpec.upto (s : _root_.Go.ChangeSpec) : _root_.Go.OpenSpec := { _root_.Go.OpenSpec.ofChange s with cond := some uptoSmall }

/-- 'celluloidlaw10.MorphBetween', WHERE WHAT IT READS IS OF BULK AT MOST 1048576: true; the input reads as it did. -/
def morphBetweenUptoRow : OpenClaim := { program := "ytkclfiliefadlaa", sum := "f87cfb682816447653f80b9cf9accd4e4486c36f7e530014c0fa260219990a1c", func := "celluloid/celluloidlaw10.MorphBetween", spec := "morphBetween", inPlace := ["math/bits.Sub64"], unfollowed := true, recurses := true, named := ["math/bits.divideError", "math/bits.overflowError"], apart := false, narrowed := true }
def MorphBetweenUptoSaid : Prop := morphBetweenUptoRow.holds Try.pinned (OpenSpec.upto morphBetweenSpec)

/-- 'celluloidlaw10.MorphAt', WHERE WHAT IT READS IS OF BULK AT MOST 1048576: true; the input reads as it did. -/
def morphAtUptoRow : OpenClaim := { program := "ytkclfiliefadlaa", sum := "f87cfb682816447653f80b9cf9accd4e4486c36f7e530014c0fa260219990a1c", func := "celluloid/celluloidlaw10.MorphAt", spec := "morphAt", inPlace := ["math/bits.Sub64"], unfollowed := true, recurses := true, named := ["math/bits.divideError", "math/bits.overflowError"], apart := false, narrowed := true }
def MorphAtUptoSaid : Prop := morphAtUptoRow.holds Try.pinned (OpenSpec.upto morphAtSpec)

/-- 'celluloidlaw10.MorphSame', WHERE WHAT IT READS IS OF BULK AT MOST 1048576: true; the input reads as it did. -/
def morphSameUptoRow : OpenClaim := { program := "ytkclfiliefadlaa", sum := "f87cfb682816447653f80b9cf9accd4e4486c36f7e530014c0fa260219990a1c", func := "celluloid/celluloidlaw10.MorphSame", spec := "morphSame", inPlace := ["math/bits.Sub64"], unfollowed := true, recurses := true, named := ["math/bits.divideError", "math/bits.overflowError"], apart := false, narrowed := true }
def MorphSameUptoSaid : Prop := morphSameUptoRow.holds Try.pinned (OpenSpec.upto morphSameSpec)

/-- 'celluloidlaw10.MorphRises', WHERE WHAT IT READS IS OF BULK AT MOST 1048576: true; the input reads as it did. -/
def morphRisesUptoRow : OpenClaim := { program := "ytkclfiliefadlaa", sum := "f87cfb682816447653f80b9cf9accd4e4486c36f7e530014c0fa260219990a1c", func := "celluloid/celluloidlaw10.MorphRises", spec := "morphRises", inPlace := ["math/bits.Sub64"], unfollowed := true, recurses := true, named := ["math/bits.divideError", "math/bits.overflowError"], apart := false, narrowed := true }
def MorphRisesUptoSaid : Prop := morphRisesUptoRow.holds Try.pinned (OpenSpec.upto morphRisesSpec)

/-- 'celluloidlaw10.MorphEnds', WHERE WHAT IT READS IS OF BULK AT MOST 1048576: true; the input reads as it did. -/
def morphEndsUptoRow : OpenClaim := { program := "ytkclfiliefadlaa", sum := "f87cfb682816447653f80b9cf9accd4e4486c36f7e530014c0fa260219990a1c", func := "celluloid/celluloidlaw10.MorphEnds", spec := "morphEnds", inPlace := ["math/bits.Sub64"], unfollowed := true, recurses := true, named := ["math/bits.divideError", "math/bits.overflowError"], apart := false, narrowed := true }
def MorphEndsUptoSaid : Prop := morphEndsUptoRow.holds Try.pinned (OpenSpec.upto morphEndsSpec)

end Rows
end Go.Proofs.Ytkclfiliefadlaa
