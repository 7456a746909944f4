/-
  No cell of these rows narrows 'for every input' (looked for: loops, veiled, ifaces, maps, wideKeys, modest, calm, conditions, laid).
  DERIVED. THE GIVEN ROWS OF THIS SEAT. 5 by the template 'for every input the law returns true; each argument reads behind the call as it read before'; 0 by the template 'total and deterministic' (their statements: YtdfhhanbapkegaaTotals.lean).
  GIVEN WITH THE SEED: the statements are not yours to turn. If you find one false, say at which input.
  Laid BY PROGRAM, IN A SANDBOX (cutbox-rows.mjs): the forced cells as the released guide's own fill.sh prints them over the translation 934f75559867b804… (all of the seat's roots in one cut). By AI agents, Wed Nov 11 2026. No macro, syntax, notation, axiom, sorry.
-/
import Derived.Test.YtdfhhanbapkegaaChecked
import GoSem.Claim
import GoSem.ClaimJoined
import GoSem.ClaimMapViews
import Derived.JoinedTies
import Derived.KernelRfl
namespace Go.Proofs.Ytdfhhanbapkegaa
/- THE CELL 'sum', in the pinned program and in every row, IS THE sha256 OF THE DUMP (.gsa) THAT YtdfhhanbapkegaaProg.lean LOADS. Nothing in Lean hashes anything: it is a label: what it is worth is what the hold of that sum in a sandbox is worth. -/
noncomputable def Try.pinned : Pinned := { name := "ytdfhhanbapkegaa", sum := "934f75559867b804d433ddd978fd0f37392348e4aea9571e6afa1e83dc6a8952", checked := Try.checked }
namespace Rows
def none {H : Type} : Left H := { results := [], args := [] }

/-- 'celluloidlaw07.FieldSizes': WHATEVER THE INPUT: true; the input reads as it did. -/
def fieldSizesSpec : ChangeSpec := { name := "fieldSizes", fn := fun _ => fun
  | [d1, d2, d3] => { results := [.lit (.bool true)], args := [d1, d2, d3] }
  | _ => none }
def fieldSizesRow : OpenClaim := { program := "ytdfhhanbapkegaa", sum := "934f75559867b804d433ddd978fd0f37392348e4aea9571e6afa1e83dc6a8952", func := "celluloid/celluloidlaw07.FieldSizes", spec := "fieldSizes", apart := false }
def FieldSizesSaid : Prop := fieldSizesRow.holds Try.pinned (OpenSpec.ofChange fieldSizesSpec)

/-- ITS FALSE NEIGHBOUR: 'it returns false'. Refute it at one input. -/
def fieldSizesWrong : ChangeSpec := { name := "fieldSizes", fn := fun _ => fun
  | [d1, d2, d3] => { results := [.lit (.bool false)], args := [d1, d2, d3] }
  | _ => none }
def FieldSizesWrongFalsely : Prop := fieldSizesRow.holds Try.pinned (OpenSpec.ofChange fieldSizesWrong)

/-- 'celluloidlaw07.FieldPuts': WHATEVER THE INPUT: true; the input reads as it did. -/
def fieldPutsSpec : ChangeSpec := { name := "fieldPuts", fn := fun _ => fun
  | [d1, d2, d3, d4, d5] => { results := [.lit (.bool true)], args := [d1, d2, d3, d4, d5] }
  | _ => none }
def fieldPutsRow : OpenClaim := { program := "ytdfhhanbapkegaa", sum := "934f75559867b804d433ddd978fd0f37392348e4aea9571e6afa1e83dc6a8952", func := "celluloid/celluloidlaw07.FieldPuts", spec := "fieldPuts", apart := false }
def FieldPutsSaid : Prop := fieldPutsRow.holds Try.pinned (OpenSpec.ofChange fieldPutsSpec)

/-- ITS FALSE NEIGHBOUR: 'it returns false'. Refute it at one input. -/
def fieldPutsWrong : ChangeSpec := { name := "fieldPuts", fn := fun _ => fun
  | [d1, d2, d3, d4, d5] => { results := [.lit (.bool false)], args := [d1, d2, d3, d4, d5] }
  | _ => none }
def FieldPutsWrongFalsely : Prop := fieldPutsRow.holds Try.pinned (OpenSpec.ofChange fieldPutsWrong)

/-- 'celluloidlaw07.FieldTakes': WHATEVER THE INPUT: true; the input reads as it did. -/
def fieldTakesSpec : ChangeSpec := { name := "fieldTakes", fn := fun _ => fun
  | [d] => { results := [.lit (.bool true)], args := [d] }
  | _ => none }
def fieldTakesRow : OpenClaim := { program := "ytdfhhanbapkegaa", sum := "934f75559867b804d433ddd978fd0f37392348e4aea9571e6afa1e83dc6a8952", func := "celluloid/celluloidlaw07.FieldTakes", spec := "fieldTakes", apart := false }
def FieldTakesSaid : Prop := fieldTakesRow.holds Try.pinned (OpenSpec.ofChange fieldTakesSpec)

/-- ITS FALSE NEIGHBOUR: 'it returns false'. Refute it at one input. -/
def fieldTakesWrong : ChangeSpec := { name := "fieldTakes", fn := fun _ => fun
  | [d] => { results := [.lit (.bool false)], args := [d] }
  | _ => none }
def FieldTakesWrongFalsely : Prop := fieldTakesRow.holds Try.pinned (OpenSpec.ofChange fieldTakesWrong)

/-- 'celluloidlaw07.FieldAgain': WHATEVER THE INPUT: true; the input reads as it did. -/
def fieldAgainSpec : ChangeSpec := { name := "fieldAgain", fn := fun _ => fun
  | [d] => { results := [.lit (.bool true)], args := [d] }
  | _ => none }
def fieldAgainRow : OpenClaim := { program := "ytdfhhanbapkegaa", sum := "934f75559867b804d433ddd978fd0f37392348e4aea9571e6afa1e83dc6a8952", func := "celluloid/celluloidlaw07.FieldAgain", spec := "fieldAgain", apart := false }
def FieldAgainSaid : Prop := fieldAgainRow.holds Try.pinned (OpenSpec.ofChange fieldAgainSpec)

/-- ITS FALSE NEIGHBOUR: 'it returns false'. Refute it at one input. -/
def fieldAgainWrong : ChangeSpec := { name := "fieldAgain", fn := fun _ => fun
  | [d] => { results := [.lit (.bool false)], args := [d] }
  | _ => none }
def FieldAgainWrongFalsely : Prop := fieldAgainRow.holds Try.pinned (OpenSpec.ofChange fieldAgainWrong)

/-- 'celluloidlaw07.FieldBack': WHATEVER THE INPUT: true; the input reads as it did. -/
def fieldBackSpec : ChangeSpec := { name := "fieldBack", fn := fun _ => fun
  | [d1, d2, d3, d4] => { results := [.lit (.bool true)], args := [d1, d2, d3, d4] }
  | _ => none }
def fieldBackRow : OpenClaim := { program := "ytdfhhanbapkegaa", sum := "934f75559867b804d433ddd978fd0f37392348e4aea9571e6afa1e83dc6a8952", func := "celluloid/celluloidlaw07.FieldBack", spec := "fieldBack", apart := false }
def FieldBackSaid : Prop := fieldBackRow.holds Try.pinned (OpenSpec.ofChange fieldBackSpec)

/-- ITS FALSE NEIGHBOUR: 'it returns false'. Refute it at one input. -/
def fieldBackWrong : ChangeSpec := { name := "fieldBack", fn := fun _ => fun
  | [d1, d2, d3, d4] => { results := [.lit (.bool false)], args := [d1, d2, d3, d4] }
  | _ => none }
def FieldBackWrongFalsely : Prop := fieldBackRow.holds Try.pinned (OpenSpec.ofChange fieldBackWrong)

/- THE SECOND FORM. 'bulk': how many values and letters a reading holds, each counted each time it is reached (what is shared counts as often as it is met; a slice's spare places count too). A statement '..UptoSaid' is the law's where the arguments, and the package variables that the reading takes, are together of bulk at most 1048576: NARROWER than '..Said'. Prove '..Said' where nothing that the law and all that it calls make is longer than what came in: it says more and counts as full. Else prove '..UptoSaid'. A law counts once. -/
mutual
def uptoBulk {H : Type} : DataW H → Nat
  | .lit (.string bytes) => bytes.length + 1
  | .lit _ => 1
  | .nil => 1
  | .ptr d => uptoBulk d + 1
  | .slice elems spare => uptoBulkAll elems + uptoBulkAll spare + 1
  | .agg parts => uptoBulkAll parts + 1
  | .iface _ d => uptoBulk d + 1
  | .map entries => uptoBulkEntries entries + 1
  | .held _ => 1
def uptoBulkAll {H : Type} : List (DataW H) → Nat
  | [] => 0
  | d :: r => uptoBulk d + uptoBulkAll r
def uptoBulkEntries {H : Type} : List (Lit × DataW H) → Nat
  | [] => 0
  | x :: r => uptoBulkEntry x + uptoBulkEntries r
def uptoBulkEntry {H : Type} : Lit × DataW H → Nat
  | (.string bytes, d) => bytes.length + uptoBulk d + 1
  | (_, d) => uptoBulk d + 1
 end
def uptoSmall : (H : Type) → List (DataW H) → Bool := fun _ ds => decide (uptoBulkAll ds ≤ 1048576)
def OpenSpec.upto (s : _root_.Go.ChangeSpec) : _root_.Go.OpenSpec := { _root_.Go.OpenSpec.ofChange s with cond := some uptoSmall }

/-- 'celluloidlaw07.FieldSizes', WHERE WHAT IT READS IS OF BULK AT MOST 1048576: true; the input reads as it did. -/
def fieldSizesUptoRow : OpenClaim := { program := "ytdfhhanbapkegaa", sum := "934f75559867b804d433ddd978fd0f37392348e4aea9571e6afa1e83dc6a8952", func := "celluloid/celluloidlaw07.FieldSizes", spec := "fieldSizes", apart := false, narrowed := true }
def FieldSizesUptoSaid : Prop := fieldSizesUptoRow.holds Try.pinned (OpenSpec.upto fieldSizesSpec)

/-- 'celluloidlaw07.FieldPuts', WHERE WHAT IT READS IS OF BULK AT MOST 1048576: true; the input reads as it did. -/
def fieldPutsUptoRow : OpenClaim := { program := "ytdfhhanbapkegaa", sum := "934f75559867b804d433ddd978fd0f37392348e4aea9571e6afa1e83dc6a8952", func := "celluloid/celluloidlaw07.FieldPuts", spec := "fieldPuts", apart := false, narrowed := true }
def FieldPutsUptoSaid : Prop := fieldPutsUptoRow.holds Try.pinned (OpenSpec.upto fieldPutsSpec)

/-- 'celluloidlaw07.FieldTakes', WHERE WHAT IT READS IS OF BULK AT MOST 1048576: true; the input reads as it did. -/
def fieldTakesUptoRow : OpenClaim := { program := "ytdfhhanbapkegaa", sum := "934f75559867b804d433ddd978fd0f37392348e4aea9571e6afa1e83dc6a8952", func := "celluloid/celluloidlaw07.FieldTakes", spec := "fieldTakes", apart := false, narrowed := true }
def FieldTakesUptoSaid : Prop := fieldTakesUptoRow.holds Try.pinned (OpenSpec.upto fieldTakesSpec)

/-- 'celluloidlaw07.FieldAgain', WHERE WHAT IT READS IS OF BULK AT MOST 1048576: true; the input reads as it did. -/
def fieldAgainUptoRow : OpenClaim := { program := "ytdfhhanbapkegaa", sum := "934f75559867b804d433ddd978fd0f37392348e4aea9571e6afa1e83dc6a8952", func := "celluloid/celluloidlaw07.FieldAgain", spec := "fieldAgain", apart := false, narrowed := true }
def FieldAgainUptoSaid : Prop := fieldAgainUptoRow.holds Try.pinned (OpenSpec.upto fieldAgainSpec)

/-- 'celluloidlaw07.FieldBack', WHERE WHAT IT READS IS OF BULK AT MOST 1048576: true; the input reads as it did. -/
def fieldBackUptoRow : OpenClaim := { program := "ytdfhhanbapkegaa", sum := "934f75559867b804d433ddd978fd0f37392348e4aea9571e6afa1e83dc6a8952", func := "celluloid/celluloidlaw07.FieldBack", spec := "fieldBack", apart := false, narrowed := true }
def FieldBackUptoSaid : Prop := fieldBackUptoRow.holds Try.pinned (OpenSpec.upto fieldBackSpec)

end Rows
end Go.Proofs.Ytdfhhanbapkegaa
