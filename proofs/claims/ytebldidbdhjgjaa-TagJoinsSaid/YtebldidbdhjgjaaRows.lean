/-
  No cell of these rows narrows 'for every input' (looked for: loops, veiled, ifaces, maps, wideKeys, modest, calm, conditions, laid).
  DERIVED. THE GIVEN ROWS OF THIS SEAT. 4 by the template 'for every input the law returns true; each argument reads behind the call as it read before'; 0 by the template 'total and deterministic' (their statements: YtebldidbdhjgjaaTotals.lean).
  GIVEN WITH THE SEED: the statements are not yours to turn. If you find one false, say at which input.
  Laid BY PROGRAM, IN A SANDBOX (cutbox-rows.mjs): the forced cells as the released guide's own fill.sh prints them over the translation 04dfb9af05c3c539… (all of the seat's roots in one cut). By AI agents, Wed Nov 11 2026. No macro, syntax, notation, axiom, sorry.
-/
import Derived.Test.YtebldidbdhjgjaaChecked
import GoSem.Claim
import GoSem.ClaimJoined
import GoSem.ClaimMapViews
import Derived.JoinedTies
import Derived.KernelRfl
namespace Go.Proofs.Ytebldidbdhjgjaa
/- THE CELL 'sum', in the pinned program and in every row, IS THE sha256 OF THE DUMP (.gsa) THAT YtebldidbdhjgjaaProg.lean LOADS. Nothing in Lean hashes anything: it is a label: what it is worth is what the hold of that sum in a sandbox is worth. -/
noncomputable def Try.pinned : Pinned := { name := "ytebldidbdhjgjaa", sum := "04dfb9af05c3c5392061cc3ffa7673069bc34c4afdb3a33cdb29bce8de2a3c16", checked := Try.checked }
namespace Rows
def none {H : Type} : Left H := { results := [], args := [] }

/-- 'celluloidlaw12.TagPuts': WHATEVER THE INPUT: true; the input reads as it did. -/
def tagPutsSpec : ChangeSpec := { name := "tagPuts", fn := fun _ => fun
  | [d1, d2] => { results := [.lit (.bool true)], args := [d1, d2] }
  | _ => none }
def tagPutsRow : OpenClaim := { program := "ytebldidbdhjgjaa", sum := "04dfb9af05c3c5392061cc3ffa7673069bc34c4afdb3a33cdb29bce8de2a3c16", func := "celluloid/celluloidlaw12.TagPuts", spec := "tagPuts", inPlace := ["internal/abi.NoEscape"], apart := false }
def TagPutsSaid : Prop := tagPutsRow.holds Try.pinned (OpenSpec.ofChange tagPutsSpec)

/-- ITS FALSE NEIGHBOUR: 'it returns false'. Refute it at one input. -/
def tagPutsWrong : ChangeSpec := { name := "tagPuts", fn := fun _ => fun
  | [d1, d2] => { results := [.lit (.bool false)], args := [d1, d2] }
  | _ => none }
def TagPutsWrongFalsely : Prop := tagPutsRow.holds Try.pinned (OpenSpec.ofChange tagPutsWrong)

/-- 'celluloidlaw12.TagJoins': WHATEVER THE INPUT: true; the input reads as it did. -/
def tagJoinsSpec : ChangeSpec := { name := "tagJoins", fn := fun _ => fun
  | [d1, d2] => { results := [.lit (.bool true)], args := [d1, d2] }
  | _ => none }
def tagJoinsRow : OpenClaim := { program := "ytebldidbdhjgjaa", sum := "04dfb9af05c3c5392061cc3ffa7673069bc34c4afdb3a33cdb29bce8de2a3c16", func := "celluloid/celluloidlaw12.TagJoins", spec := "tagJoins", inPlace := ["internal/abi.NoEscape"], apart := false }
def TagJoinsSaid : Prop := tagJoinsRow.holds Try.pinned (OpenSpec.ofChange tagJoinsSpec)

/-- ITS FALSE NEIGHBOUR: 'it returns false'. Refute it at one input. -/
def tagJoinsWrong : ChangeSpec := { name := "tagJoins", fn := fun _ => fun
  | [d1, d2] => { results := [.lit (.bool false)], args := [d1, d2] }
  | _ => none }
def TagJoinsWrongFalsely : Prop := tagJoinsRow.holds Try.pinned (OpenSpec.ofChange tagJoinsWrong)

/-- 'celluloidlaw12.TagAgain': WHATEVER THE INPUT: true; the input reads as it did. -/
def tagAgainSpec : ChangeSpec := { name := "tagAgain", fn := fun _ => fun
  | [d] => { results := [.lit (.bool true)], args := [d] }
  | _ => none }
def tagAgainRow : OpenClaim := { program := "ytebldidbdhjgjaa", sum := "04dfb9af05c3c5392061cc3ffa7673069bc34c4afdb3a33cdb29bce8de2a3c16", func := "celluloid/celluloidlaw12.TagAgain", spec := "tagAgain", inPlace := ["internal/abi.NoEscape"], apart := false }
def TagAgainSaid : Prop := tagAgainRow.holds Try.pinned (OpenSpec.ofChange tagAgainSpec)

/-- ITS FALSE NEIGHBOUR: 'it returns false'. Refute it at one input. -/
def tagAgainWrong : ChangeSpec := { name := "tagAgain", fn := fun _ => fun
  | [d] => { results := [.lit (.bool false)], args := [d] }
  | _ => none }
def TagAgainWrongFalsely : Prop := tagAgainRow.holds Try.pinned (OpenSpec.ofChange tagAgainWrong)

/-- 'celluloidlaw12.TagSizes': WHATEVER THE INPUT: true; the input reads as it did. -/
def tagSizesSpec : ChangeSpec := { name := "tagSizes", fn := fun _ => fun
  | [d] => { results := [.lit (.bool true)], args := [d] }
  | _ => none }
def tagSizesRow : OpenClaim := { program := "ytebldidbdhjgjaa", sum := "04dfb9af05c3c5392061cc3ffa7673069bc34c4afdb3a33cdb29bce8de2a3c16", func := "celluloid/celluloidlaw12.TagSizes", spec := "tagSizes", inPlace := ["internal/abi.NoEscape"], apart := false }
def TagSizesSaid : Prop := tagSizesRow.holds Try.pinned (OpenSpec.ofChange tagSizesSpec)

/-- ITS FALSE NEIGHBOUR: 'it returns false'. Refute it at one input. -/
def tagSizesWrong : ChangeSpec := { name := "tagSizes", fn := fun _ => fun
  | [d] => { results := [.lit (.bool false)], args := [d] }
  | _ => none }
def TagSizesWrongFalsely : Prop := tagSizesRow.holds Try.pinned (OpenSpec.ofChange tagSizesWrong)

/- THE SECOND FORM. 'bulk': how many values and letters a reading holds, each counted each time it is reached (what is shared counts as often as it is met; a slice's spare places count too). A statement '..UptoSaid' is the law's where the arguments, and the package variables that the reading takes, are together of bulk at most 1048576: NARROWER than '..Said'. Prove '..Said' where nothing that the law and all that it calls make is longer than what came in: it says more and counts as full. Else prove '..UptoSaid'. A law counts once. -/
mutual
def uptoBulk {H : Type} : DataW H → Nat
  | .lit (.string bytes) => bytes.length + 1
  | .lit _ => 1
  | .nil => 1
  | .ptr d => uptoBulk d + 1
  | .slice elems spare => uptoBulkAll elems + uptoBulkAll spare + 1
  | .agg parts => uptoBulkAll parts + 1
  | .iface _ d => uptoBulk d + 1
  | .map entries => uptoBulkEntries entries + 1
  | .held _ => 1
def uptoBulkAll {H : Type} : List (DataW H) → Nat
  | [] => 0
  | d :: r => uptoBulk d + uptoBulkAll r
def uptoBulkEntries {H : Type} : List (Lit × DataW H) → Nat
  | [] => 0
  | x :: r => uptoBulkEntry x + uptoBulkEntries r
def uptoBulkEntry {H : Type} : Lit × DataW H → Nat
  | (.string bytes, d) => bytes.length + uptoBulk d + 1
  | (_, d) => uptoBulk d + 1
 end
def uptoSmall : (H : Type) → List (DataW H) → Bool := fun _ ds => decide (uptoBulkAll ds ≤ 1048576)
def OpenSpec.upto (s : _root_.Go.ChangeSpec) : _root_.Go.OpenSpec := { _root_.Go.OpenSpec.ofChange s with cond := some uptoSmall }

/-- 'celluloidlaw12.TagPuts', WHERE WHAT IT READS IS OF BULK AT MOST 1048576: true; the input reads as it did. -/
def tagPutsUptoRow : OpenClaim := { program := "ytebldidbdhjgjaa", sum := "04dfb9af05c3c5392061cc3ffa7673069bc34c4afdb3a33cdb29bce8de2a3c16", func := "celluloid/celluloidlaw12.TagPuts", spec := "tagPuts", inPlace := ["internal/abi.NoEscape"], apart := false, narrowed := true }
def TagPutsUptoSaid : Prop := tagPutsUptoRow.holds Try.pinned (OpenSpec.upto tagPutsSpec)

/-- 'celluloidlaw12.TagJoins', WHERE WHAT IT READS IS OF BULK AT MOST 1048576: true; the input reads as it did. -/
def tagJoinsUptoRow : OpenClaim := { program := "ytebldidbdhjgjaa", sum := "04dfb9af05c3c5392061cc3ffa7673069bc34c4afdb3a33cdb29bce8de2a3c16", func := "celluloid/celluloidlaw12.TagJoins", spec := "tagJoins", inPlace := ["internal/abi.NoEscape"], apart := false, narrowed := true }
def TagJoinsUptoSaid : Prop := tagJoinsUptoRow.holds Try.pinned (OpenSpec.upto tagJoinsSpec)

/-- 'celluloidlaw12.TagAgain', WHERE WHAT IT READS IS OF BULK AT MOST 1048576: true; the input reads as it did. -/
def tagAgainUptoRow : OpenClaim := { program := "ytebldidbdhjgjaa", sum := "04dfb9af05c3c5392061cc3ffa7673069bc34c4afdb3a33cdb29bce8de2a3c16", func := "celluloid/celluloidlaw12.TagAgain", spec := "tagAgain", inPlace := ["internal/abi.NoEscape"], apart := false, narrowed := true }
def TagAgainUptoSaid : Prop := tagAgainUptoRow.holds Try.pinned (OpenSpec.upto tagAgainSpec)

/-- 'celluloidlaw12.TagSizes', WHERE WHAT IT READS IS OF BULK AT MOST 1048576: true; the input reads as it did. -/
def tagSizesUptoRow : OpenClaim := { program := "ytebldidbdhjgjaa", sum := "04dfb9af05c3c5392061cc3ffa7673069bc34c4afdb3a33cdb29bce8de2a3c16", func := "celluloid/celluloidlaw12.TagSizes", spec := "tagSizes", inPlace := ["internal/abi.NoEscape"], apart := false, narrowed := true }
def TagSizesUptoSaid : Prop := tagSizesUptoRow.holds Try.pinned (OpenSpec.upto tagSizesSpec)

end Rows
end Go.Proofs.Ytebldidbdhjgjaa
