/-
  No cell of these rows narrows 'for every input' (looked for: loops, veiled, ifaces, maps, wideKeys, modest, calm, conditions, laid).
  DERIVED. THE GIVEN ROWS OF THIS SEAT. 7 by the template 'for every input the law returns true; each argument reads behind the call as it read before'; 0 by the template 'total and deterministic' (their statements: YtnbmjpdiibandaaTotals.lean).
  GIVEN WITH THE SEED: the statements are not yours to turn. If you find one false, say at which input.
  Laid BY PROGRAM, IN A SANDBOX (cutbox-rows.mjs): the forced cells as the released guide's own fill.sh prints them over the translation a9ff4237fa1fe458… (all of the seat's roots in one cut). By AI agents, Wed Nov 11 2026. No macro, syntax, notation, axiom, sorry.
-/
import Derived.Test.YtnbmjpdiibandaaChecked
import GoSem.Claim
import GoSem.ClaimJoined
import GoSem.ClaimMapViews
import Derived.JoinedTies
import Derived.KernelRfl
namespace Go.Proofs.Ytnbmjpdiibandaa
/- THE CELL 'sum', in the pinned program and in every row, IS THE sha256 OF THE DUMP (.gsa) THAT YtnbmjpdiibandaaProg.lean LOADS. Nothing in Lean hashes anything: it is a label: what it is worth is what the hold of that sum in a sandbox is worth. -/
noncomputable def Try.pinned : Pinned := { name := "ytnbmjpdiibandaa", sum := "a9ff4237fa1fe458305803e6f498796a284f5cc8d501c1533714301084bd8756", checked := Try.checked }
namespace Rows
def none {H : Type} : Left H := { results := [], args := [] }

/-- 'celluloidlaw08.StyleRights': WHATEVER THE INPUT: true; the input reads as it did. -/
def styleRightsSpec : ChangeSpec := { name := "styleRights", fn := fun _ => fun
  | [d1, d2, d3] => { results := [.lit (.bool true)], args := [d1, d2, d3] }
  | _ => none }
def styleRightsRow : OpenClaim := { program := "ytnbmjpdiibandaa", sum := "a9ff4237fa1fe458305803e6f498796a284f5cc8d501c1533714301084bd8756", func := "celluloid/celluloidlaw08.StyleRights", spec := "styleRights", unfollowed := true, recurses := true, apart := false }
def StyleRightsSaid : Prop := styleRightsRow.holds Try.pinned (OpenSpec.ofChange styleRightsSpec)

/-- ITS FALSE NEIGHBOUR: 'it returns false'. Refute it at one input. -/
def styleRightsWrong : ChangeSpec := { name := "styleRights", fn := fun _ => fun
  | [d1, d2, d3] => { results := [.lit (.bool false)], args := [d1, d2, d3] }
  | _ => none }
def StyleRightsWrongFalsely : Prop := styleRightsRow.holds Try.pinned (OpenSpec.ofChange styleRightsWrong)

/-- 'celluloidlaw08.StylePuts': WHATEVER THE INPUT: true; the input reads as it did. -/
def stylePutsSpec : ChangeSpec := { name := "stylePuts", fn := fun _ => fun
  | [d1, d2, d3] => { results := [.lit (.bool true)], args := [d1, d2, d3] }
  | _ => none }
def stylePutsRow : OpenClaim := { program := "ytnbmjpdiibandaa", sum := "a9ff4237fa1fe458305803e6f498796a284f5cc8d501c1533714301084bd8756", func := "celluloid/celluloidlaw08.StylePuts", spec := "stylePuts", unfollowed := true, recurses := true, apart := false }
def StylePutsSaid : Prop := stylePutsRow.holds Try.pinned (OpenSpec.ofChange stylePutsSpec)

/-- ITS FALSE NEIGHBOUR: 'it returns false'. Refute it at one input. -/
def stylePutsWrong : ChangeSpec := { name := "stylePuts", fn := fun _ => fun
  | [d1, d2, d3] => { results := [.lit (.bool false)], args := [d1, d2, d3] }
  | _ => none }
def StylePutsWrongFalsely : Prop := stylePutsRow.holds Try.pinned (OpenSpec.ofChange stylePutsWrong)

/-- 'celluloidlaw08.StyleTakes': WHATEVER THE INPUT: true; the input reads as it did. -/
def styleTakesSpec : ChangeSpec := { name := "styleTakes", fn := fun _ => fun
  | [d] => { results := [.lit (.bool true)], args := [d] }
  | _ => none }
def styleTakesRow : OpenClaim := { program := "ytnbmjpdiibandaa", sum := "a9ff4237fa1fe458305803e6f498796a284f5cc8d501c1533714301084bd8756", func := "celluloid/celluloidlaw08.StyleTakes", spec := "styleTakes", unfollowed := true, recurses := true, apart := false }
def StyleTakesSaid : Prop := styleTakesRow.holds Try.pinned (OpenSpec.ofChange styleTakesSpec)

/-- ITS FALSE NEIGHBOUR: 'it returns false'. Refute it at one input. -/
def styleTakesWrong : ChangeSpec := { name := "styleTakes", fn := fun _ => fun
  | [d] => { results := [.lit (.bool false)], args := [d] }
  | _ => none }
def StyleTakesWrongFalsely : Prop := styleTakesRow.holds Try.pinned (OpenSpec.ofChange styleTakesWrong)

/-- 'celluloidlaw08.StyleAgain': WHATEVER THE INPUT: true; the input reads as it did. -/
def styleAgainSpec : ChangeSpec := { name := "styleAgain", fn := fun _ => fun
  | [d] => { results := [.lit (.bool true)], args := [d] }
  | _ => none }
def styleAgainRow : OpenClaim := { program := "ytnbmjpdiibandaa", sum := "a9ff4237fa1fe458305803e6f498796a284f5cc8d501c1533714301084bd8756", func := "celluloid/celluloidlaw08.StyleAgain", spec := "styleAgain", unfollowed := true, recurses := true, apart := false }
def StyleAgainSaid : Prop := styleAgainRow.holds Try.pinned (OpenSpec.ofChange styleAgainSpec)

/-- ITS FALSE NEIGHBOUR: 'it returns false'. Refute it at one input. -/
def styleAgainWrong : ChangeSpec := { name := "styleAgain", fn := fun _ => fun
  | [d] => { results := [.lit (.bool false)], args := [d] }
  | _ => none }
def StyleAgainWrongFalsely : Prop := styleAgainRow.holds Try.pinned (OpenSpec.ofChange styleAgainWrong)

/-- 'celluloidlaw08.StyleSizes': WHATEVER THE INPUT: true; the input reads as it did. -/
def styleSizesSpec : ChangeSpec := { name := "styleSizes", fn := fun _ => fun
  | [d1, d2, d3, d4] => { results := [.lit (.bool true)], args := [d1, d2, d3, d4] }
  | _ => none }
def styleSizesRow : OpenClaim := { program := "ytnbmjpdiibandaa", sum := "a9ff4237fa1fe458305803e6f498796a284f5cc8d501c1533714301084bd8756", func := "celluloid/celluloidlaw08.StyleSizes", spec := "styleSizes", unfollowed := true, recurses := true, apart := false }
def StyleSizesSaid : Prop := styleSizesRow.holds Try.pinned (OpenSpec.ofChange styleSizesSpec)

/-- ITS FALSE NEIGHBOUR: 'it returns false'. Refute it at one input. -/
def styleSizesWrong : ChangeSpec := { name := "styleSizes", fn := fun _ => fun
  | [d1, d2, d3, d4] => { results := [.lit (.bool false)], args := [d1, d2, d3, d4] }
  | _ => none }
def StyleSizesWrongFalsely : Prop := styleSizesRow.holds Try.pinned (OpenSpec.ofChange styleSizesWrong)

/-- 'celluloidlaw09.ShapeKinds': WHATEVER THE INPUT: true; the input reads as it did. -/
def shapeKindsSpec : ChangeSpec := { name := "shapeKinds", fn := fun _ => fun
  | [d1, d2, d3] => { results := [.lit (.bool true)], args := [d1, d2, d3] }
  | _ => none }
def shapeKindsRow : OpenClaim := { program := "ytnbmjpdiibandaa", sum := "a9ff4237fa1fe458305803e6f498796a284f5cc8d501c1533714301084bd8756", func := "celluloid/celluloidlaw09.ShapeKinds", spec := "shapeKinds", unfollowed := true, recurses := true, apart := false }
def ShapeKindsSaid : Prop := shapeKindsRow.holds Try.pinned (OpenSpec.ofChange shapeKindsSpec)

/-- ITS FALSE NEIGHBOUR: 'it returns false'. Refute it at one input. -/
def shapeKindsWrong : ChangeSpec := { name := "shapeKinds", fn := fun _ => fun
  | [d1, d2, d3] => { results := [.lit (.bool false)], args := [d1, d2, d3] }
  | _ => none }
def ShapeKindsWrongFalsely : Prop := shapeKindsRow.holds Try.pinned (OpenSpec.ofChange shapeKindsWrong)

/-- 'celluloidlaw09.ShapeAgain': WHATEVER THE INPUT: true; the input reads as it did. -/
def shapeAgainSpec : ChangeSpec := { name := "shapeAgain", fn := fun _ => fun
  | [d] => { results := [.lit (.bool true)], args := [d] }
  | _ => none }
def shapeAgainRow : OpenClaim := { program := "ytnbmjpdiibandaa", sum := "a9ff4237fa1fe458305803e6f498796a284f5cc8d501c1533714301084bd8756", func := "celluloid/celluloidlaw09.ShapeAgain", spec := "shapeAgain", unfollowed := true, recurses := true, apart := false }
def ShapeAgainSaid : Prop := shapeAgainRow.holds Try.pinned (OpenSpec.ofChange shapeAgainSpec)

/-- ITS FALSE NEIGHBOUR: 'it returns false'. Refute it at one input. -/
def shapeAgainWrong : ChangeSpec := { name := "shapeAgain", fn := fun _ => fun
  | [d] => { results := [.lit (.bool false)], args := [d] }
  | _ => none }
def ShapeAgainWrongFalsely : Prop := shapeAgainRow.holds Try.pinned (OpenSpec.ofChange shapeAgainWrong)

/- THE SECOND FORM. 'bulk': how many values and letters a reading holds, each counted each time it is reached (what is shared counts as often as it is met; a slice's spare places count too). A statement '..UptoSaid' is the law's where the arguments, and the package variables that the reading takes, are together of bulk at most 1048576: NARROWER than '..Said'. Prove '..Said' where nothing that the law and all that it calls make is longer than what came in: it says more and counts as full. Else prove '..UptoSaid'. A law counts once. -/
mutual
def uptoBulk {H : Type} : DataW H → Nat
  | .lit (.string bytes) => bytes.length + 1
  | .lit _ => 1
  | .nil => 1
  | .ptr d => uptoBulk d + 1
  | .slice elems spare => uptoBulkAll elems + uptoBulkAll spare + 1
  | .agg parts => uptoBulkAll parts + 1
  | .iface _ d => uptoBulk d + 1
  | .map entries => uptoBulkEntries entries + 1
  | .held _ => 1
def uptoBulkAll {H : Type} : List (DataW H) → Nat
  | [] => 0
  | d :: r => uptoBulk d + uptoBulkAll r
def uptoBulkEntries {H : Type} : List (Lit × DataW H) → Nat
  | [] => 0
  | x :: r => uptoBulkEntry x + uptoBulkEntries r
def uptoBulkEntry {H : Type} : Lit × DataW H → Nat
  | (.string bytes, d) => bytes.length + uptoBulk d + 1
  | (_, d) => uptoBulk d + 1
 end
def uptoSmall : (H : Type) → List (DataW H) → Bool := fun _ ds => decide (uptoBulkAll ds ≤ 1048576)
def OpenSpec.upto (s : _root_.Go.ChangeSpec) : _root_.Go.OpenSpec := { _root_.Go.OpenSpec.ofChange s with cond := some uptoSmall }

/-- 'celluloidlaw08.StyleRights', WHERE WHAT IT READS IS OF BULK AT MOST 1048576: true; the input reads as it did. -/
def styleRightsUptoRow : OpenClaim := { program := "ytnbmjpdiibandaa", sum := "a9ff4237fa1fe458305803e6f498796a284f5cc8d501c1533714301084bd8756", func := "celluloid/celluloidlaw08.StyleRights", spec := "styleRights", unfollowed := true, recurses := true, apart := false, narrowed := true }
def StyleRightsUptoSaid : Prop := styleRightsUptoRow.holds Try.pinned (OpenSpec.upto styleRightsSpec)

/-- 'celluloidlaw08.StylePuts', WHERE WHAT IT READS IS OF BULK AT MOST 1048576: true; the input reads as it did. -/
def stylePutsUptoRow : OpenClaim := { program := "ytnbmjpdiibandaa", sum := "a9ff4237fa1fe458305803e6f498796a284f5cc8d501c1533714301084bd8756", func := "celluloid/celluloidlaw08.StylePuts", spec := "stylePuts", unfollowed := true, recurses := true, apart := false, narrowed := true }
def StylePutsUptoSaid : Prop := stylePutsUptoRow.holds Try.pinned (OpenSpec.upto stylePutsSpec)

/-- 'celluloidlaw08.StyleTakes', WHERE WHAT IT READS IS OF BULK AT MOST 1048576: true; the input reads as it did. -/
def styleTakesUptoRow : OpenClaim := { program := "ytnbmjpdiibandaa", sum := "a9ff4237fa1fe458305803e6f498796a284f5cc8d501c1533714301084bd8756", func := "celluloid/celluloidlaw08.StyleTakes", spec := "styleTakes", unfollowed := true, recurses := true, apart := false, narrowed := true }
def StyleTakesUptoSaid : Prop := styleTakesUptoRow.holds Try.pinned (OpenSpec.upto styleTakesSpec)

/-- 'celluloidlaw08.StyleAgain', WHERE WHAT IT READS IS OF BULK AT MOST 1048576: true; the input reads as it did. -/
def styleAgainUptoRow : OpenClaim := { program := "ytnbmjpdiibandaa", sum := "a9ff4237fa1fe458305803e6f498796a284f5cc8d501c1533714301084bd8756", func := "celluloid/celluloidlaw08.StyleAgain", spec := "styleAgain", unfollowed := true, recurses := true, apart := false, narrowed := true }
def StyleAgainUptoSaid : Prop := styleAgainUptoRow.holds Try.pinned (OpenSpec.upto styleAgainSpec)

/-- 'celluloidlaw08.StyleSizes', WHERE WHAT IT READS IS OF BULK AT MOST 1048576: true; the input reads as it did. -/
def styleSizesUptoRow : OpenClaim := { program := "ytnbmjpdiibandaa", sum := "a9ff4237fa1fe458305803e6f498796a284f5cc8d501c1533714301084bd8756", func := "celluloid/celluloidlaw08.StyleSizes", spec := "styleSizes", unfollowed := true, recurses := true, apart := false, narrowed := true }
def StyleSizesUptoSaid : Prop := styleSizesUptoRow.holds Try.pinned (OpenSpec.upto styleSizesSpec)

/-- 'celluloidlaw09.ShapeKinds', WHERE WHAT IT READS IS OF BULK AT MOST 1048576: true; the input reads as it did. -/
def shapeKindsUptoRow : OpenClaim := { program := "ytnbmjpdiibandaa", sum := "a9ff4237fa1fe458305803e6f498796a284f5cc8d501c1533714301084bd8756", func := "celluloid/celluloidlaw09.ShapeKinds", spec := "shapeKinds", unfollowed := true, recurses := true, apart := false, narrowed := true }
def ShapeKindsUptoSaid : Prop := shapeKindsUptoRow.holds Try.pinned (OpenSpec.upto shapeKindsSpec)

/-- 'celluloidlaw09.ShapeAgain', WHERE WHAT IT READS IS OF BULK AT MOST 1048576: true; the input reads as it did. -/
def shapeAgainUptoRow : OpenClaim := { program := "ytnbmjpdiibandaa", sum := "a9ff4237fa1fe458305803e6f498796a284f5cc8d501c1533714301084bd8756", func := "celluloid/celluloidlaw09.ShapeAgain", spec := "shapeAgain", unfollowed := true, recurses := true, apart := false, narrowed := true }
def ShapeAgainUptoSaid : Prop := shapeAgainUptoRow.holds Try.pinned (OpenSpec.upto shapeAgainSpec)

end Rows
end Go.Proofs.Ytnbmjpdiibandaa
