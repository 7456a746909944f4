/-
  No cell of these rows narrows 'for every input' (looked for: loops, veiled, ifaces, maps, wideKeys, modest, calm, conditions, laid).
  DERIVED. THE GIVEN ROWS OF THIS SEAT. 4 by the template 'for every input the law returns true; each argument reads behind the call as it read before'; 0 by the template 'total and deterministic' (their statements: YtnbmjpdiibandaaGreatTotals.lean).
  GIVEN WITH THE SEED: the statements are not yours to turn. If you find one false, say at which input.
  Laid BY PROGRAM, IN A SANDBOX (cutbox-rows.mjs): the forced cells as the released guide's own fill.sh prints them over the translation 57f2843f3fd3ab31… (all of the seat's roots in one cut). By AI agents, Wed Nov 11 2026. No macro, syntax, notation, axiom, sorry.
-/
import Derived.Test.YtnbmjpdiibandaaGreatChecked
import GoSem.Claim
import GoSem.ClaimJoined
import GoSem.ClaimMapViews
import Derived.JoinedTies
import Derived.KernelRfl
namespace Go.Proofs.YtnbmjpdiibandaaGreat
/- THE CELL 'sum', in the pinned program and in every row, IS THE sha256 OF THE DUMP (.gsa) THAT YtnbmjpdiibandaaGreatProg.lean LOADS. Nothing in Lean hashes anything: it is a label: what it is worth is what the hold of that sum in a sandbox is worth. -/
noncomputable def Tryz.pinned : Pinned := { name := "ytnbmjpdiibandaagreat", sum := "57f2843f3fd3ab31530deff963cc85701bb7065b230d5878d291b1256b97e59e", checked := Tryz.checked }
namespace Rows
def none {H : Type} : Left H := { results := [], args := [] }

/-- 'celluloidlaw09.ShapeTakes': WHATEVER THE INPUT: true; the input reads as it did. -/
def shapeTakesSpec : ChangeSpec := { name := "shapeTakes", fn := fun _ => fun
  | [d1, d2, d3, d4] => { results := [.lit (.bool true)], args := [d1, d2, d3, d4] }
  | _ => none }
def shapeTakesRow : OpenClaim := { program := "ytnbmjpdiibandaagreat", sum := "57f2843f3fd3ab31530deff963cc85701bb7065b230d5878d291b1256b97e59e", func := "celluloid/celluloidlaw09.ShapeTakes", spec := "shapeTakes", unfollowed := true, recurses := true, apart := false }
def ShapeTakesSaid : Prop := shapeTakesRow.holds Tryz.pinned (OpenSpec.ofChange shapeTakesSpec)

/-- ITS FALSE NEIGHBOUR: 'it returns false'. Refute it at one input. -/
def shapeTakesWrong : ChangeSpec := { name := "shapeTakes", fn := fun _ => fun
  | [d1, d2, d3, d4] => { results := [.lit (.bool false)], args := [d1, d2, d3, d4] }
  | _ => none }
def ShapeTakesWrongFalsely : Prop := shapeTakesRow.holds Tryz.pinned (OpenSpec.ofChange shapeTakesWrong)

/-- 'celluloidlaw09.ShapeRecords': WHATEVER THE INPUT: true; the input reads as it did. -/
def shapeRecordsSpec : ChangeSpec := { name := "shapeRecords", fn := fun _ => fun
  | [d1, d2, d3, d4, d5] => { results := [.lit (.bool true)], args := [d1, d2, d3, d4, d5] }
  | _ => none }
def shapeRecordsRow : OpenClaim := { program := "ytnbmjpdiibandaagreat", sum := "57f2843f3fd3ab31530deff963cc85701bb7065b230d5878d291b1256b97e59e", func := "celluloid/celluloidlaw09.ShapeRecords", spec := "shapeRecords", unfollowed := true, recurses := true, apart := false }
def ShapeRecordsSaid : Prop := shapeRecordsRow.holds Tryz.pinned (OpenSpec.ofChange shapeRecordsSpec)

/-- ITS FALSE NEIGHBOUR: 'it returns false'. Refute it at one input. -/
def shapeRecordsWrong : ChangeSpec := { name := "shapeRecords", fn := fun _ => fun
  | [d1, d2, d3, d4, d5] => { results := [.lit (.bool false)], args := [d1, d2, d3, d4, d5] }
  | _ => none }
def ShapeRecordsWrongFalsely : Prop := shapeRecordsRow.holds Tryz.pinned (OpenSpec.ofChange shapeRecordsWrong)

/-- 'celluloidlaw09.ShapeReads': WHATEVER THE INPUT: true; the input reads as it did. -/
def shapeReadsSpec : ChangeSpec := { name := "shapeReads", fn := fun _ => fun
  | [d] => { results := [.lit (.bool true)], args := [d] }
  | _ => none }
def shapeReadsRow : OpenClaim := { program := "ytnbmjpdiibandaagreat", sum := "57f2843f3fd3ab31530deff963cc85701bb7065b230d5878d291b1256b97e59e", func := "celluloid/celluloidlaw09.ShapeReads", spec := "shapeReads", unfollowed := true, recurses := true, apart := false }
def ShapeReadsSaid : Prop := shapeReadsRow.holds Tryz.pinned (OpenSpec.ofChange shapeReadsSpec)

/-- ITS FALSE NEIGHBOUR: 'it returns false'. Refute it at one input. -/
def shapeReadsWrong : ChangeSpec := { name := "shapeReads", fn := fun _ => fun
  | [d] => { results := [.lit (.bool false)], args := [d] }
  | _ => none }
def ShapeReadsWrongFalsely : Prop := shapeReadsRow.holds Tryz.pinned (OpenSpec.ofChange shapeReadsWrong)

/-- 'celluloidlaw09.ShapePuts': WHATEVER THE INPUT: true; the input reads as it did. -/
def shapePutsSpec : ChangeSpec := { name := "shapePuts", fn := fun _ => fun
  | [d] => { results := [.lit (.bool true)], args := [d] }
  | _ => none }
def shapePutsRow : OpenClaim := { program := "ytnbmjpdiibandaagreat", sum := "57f2843f3fd3ab31530deff963cc85701bb7065b230d5878d291b1256b97e59e", func := "celluloid/celluloidlaw09.ShapePuts", spec := "shapePuts", unfollowed := true, recurses := true, apart := false }
def ShapePutsSaid : Prop := shapePutsRow.holds Tryz.pinned (OpenSpec.ofChange shapePutsSpec)

/-- ITS FALSE NEIGHBOUR: 'it returns false'. Refute it at one input. -/
def shapePutsWrong : ChangeSpec := { name := "shapePuts", fn := fun _ => fun
  | [d] => { results := [.lit (.bool false)], args := [d] }
  | _ => none }
def ShapePutsWrongFalsely : Prop := shapePutsRow.holds Tryz.pinned (OpenSpec.ofChange shapePutsWrong)

/- THE SECOND FORM. 'bulk': how many values and letters a reading holds, each counted each time it is reached (what is shared counts as often as it is met; a slice's spare places count too). A statement '..UptoSaid' is the law's where the arguments, and the package variables that the reading takes, are together of bulk at most 1048576: NARROWER than '..Said'. Prove '..Said' where nothing that the law and all that it calls make is longer than what came in: it says more and counts as full. Else prove '..UptoSaid'. A law counts once. -/
mutual
def uptoBulk {H : Type} : DataW H → Nat
  | .lit (.string bytes) => bytes.length + 1
  | .lit _ => 1
  | .nil => 1
  | .ptr d => uptoBulk d + 1
  | .slice elems spare => uptoBulkAll elems + uptoBulkAll spare + 1
  | .agg parts => uptoBulkAll parts + 1
  | .iface _ d => uptoBulk d + 1
  | .map entries => uptoBulkEntries entries + 1
  | .held _ => 1
def uptoBulkAll {H : Type} : List (DataW H) → Nat
  | [] => 0
  | d :: r => uptoBulk d + uptoBulkAll r
def uptoBulkEntries {H : Type} : List (Lit × DataW H) → Nat
  | [] => 0
  | x :: r => uptoBulkEntry x + uptoBulkEntries r
def uptoBulkEntry {H : Type} : Lit × DataW H → Nat
  | (.string bytes, d) => bytes.length + uptoBulk d + 1
  | (_, d) => uptoBulk d + 1
 end
def uptoSmall : (H : Type) → List (DataW H) → Bool := fun _ ds => decide (uptoBulkAll ds ≤ 1048576)
def OpenSpec.upto (s : _root_.Go.ChangeSpec) : _root_.Go.OpenSpec := { _root_.Go.OpenSpec.ofChange s with cond := some uptoSmall }

/-- 'celluloidlaw09.ShapeTakes', WHERE WHAT IT READS IS OF BULK AT MOST 1048576: true; the input reads as it did. -/
def shapeTakesUptoRow : OpenClaim := { program := "ytnbmjpdiibandaagreat", sum := "57f2843f3fd3ab31530deff963cc85701bb7065b230d5878d291b1256b97e59e", func := "celluloid/celluloidlaw09.ShapeTakes", spec := "shapeTakes", unfollowed := true, recurses := true, apart := false, narrowed := true }
def ShapeTakesUptoSaid : Prop := shapeTakesUptoRow.holds Tryz.pinned (OpenSpec.upto shapeTakesSpec)

/-- 'celluloidlaw09.ShapeRecords', WHERE WHAT IT READS IS OF BULK AT MOST 1048576: true; the input reads as it did. -/
def shapeRecordsUptoRow : OpenClaim := { program := "ytnbmjpdiibandaagreat", sum := "57f2843f3fd3ab31530deff963cc85701bb7065b230d5878d291b1256b97e59e", func := "celluloid/celluloidlaw09.ShapeRecords", spec := "shapeRecords", unfollowed := true, recurses := true, apart := false, narrowed := true }
def ShapeRecordsUptoSaid : Prop := shapeRecordsUptoRow.holds Tryz.pinned (OpenSpec.upto shapeRecordsSpec)

/-- 'celluloidlaw09.ShapeReads', WHERE WHAT IT READS IS OF BULK AT MOST 1048576: true; the input reads as it did. -/
def shapeReadsUptoRow : OpenClaim := { program := "ytnbmjpdiibandaagreat", sum := "57f2843f3fd3ab31530deff963cc85701bb7065b230d5878d291b1256b97e59e", func := "celluloid/celluloidlaw09.ShapeReads", spec := "shapeReads", unfollowed := true, recurses := true, apart := false, narrowed := true }
def ShapeReadsUptoSaid : Prop := shapeReadsUptoRow.holds Tryz.pinned (OpenSpec.upto shapeReadsSpec)

/-- 'celluloidlaw09.ShapePuts', WHERE WHAT IT READS IS OF BULK AT MOST 1048576: true; the input reads as it did. -/
def shapePutsUptoRow : OpenClaim := { program := "ytnbmjpdiibandaagreat", sum := "57f2843f3fd3ab31530deff963cc85701bb7065b230d5878d291b1256b97e59e", func := "celluloid/celluloidlaw09.ShapePuts", spec := "shapePuts", unfollowed := true, recurses := true, apart := false, narrowed := true }
def ShapePutsUptoSaid : Prop := shapePutsUptoRow.holds Tryz.pinned (OpenSpec.upto shapePutsSpec)

end Rows
end Go.Proofs.YtnbmjpdiibandaaGreat
