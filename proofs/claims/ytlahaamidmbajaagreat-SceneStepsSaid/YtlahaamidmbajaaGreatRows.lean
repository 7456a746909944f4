/-
  NARROWER THAN 'FOR EVERY INPUT', by the rows' own cells (each row's printed sentence says how): SceneItems: loops · SceneOf: loops · SceneSteps: loops · SceneMasks: loops · SceneAgain: loops.
  DERIVED. THE GIVEN ROWS OF THIS SEAT. 5 by the template 'for every input the law returns true; each argument reads behind the call as it read before'; 0 by the template 'total and deterministic' (their statements: YtlahaamidmbajaaGreatTotals.lean).
  GIVEN WITH THE SEED: the statements are not yours to turn. If you find one false, say at which input.
  Laid BY PROGRAM, IN A SANDBOX (cutbox-rows.mjs): the forced cells as the released guide's own fill.sh prints them over the translation 6c7b90d9400b95b7… (all of the seat's roots in one cut). By AI agents, Wed Nov 11 2026. No macro, syntax, notation, axiom, sorry.
-/
import Derived.Test.YtlahaamidmbajaaGreatChecked
import GoSem.Claim
import GoSem.ClaimJoined
import GoSem.ClaimMapViews
import Derived.JoinedTies
import Derived.KernelRfl
namespace Go.Proofs.YtlahaamidmbajaaGreat
/- THE CELL 'sum', in the pinned program and in every row, IS THE sha256 OF THE DUMP (.gsa) THAT YtlahaamidmbajaaGreatProg.lean LOADS. Nothing in Lean hashes anything: it is a label: what it is worth is what the hold of that sum in a sandbox is worth. -/
noncomputable def Tryz.pinned : Pinned := { name := "ytlahaamidmbajaagreat", sum := "6c7b90d9400b95b7f76587dd6c0261ad8cf7607b8daf35242e866204860db22c", checked := Tryz.checked }
namespace Rows
def none {H : Type} : Left H := { results := [], args := [] }

/-- 'celluloidlaw22.SceneItems': WHATEVER THE INPUT: true; the input reads as it did. -/
def sceneItemsSpec : ChangeSpec := { name := "sceneItems", fn := fun _ => fun
  | [d1, d2] => { results := [.lit (.bool true)], args := [d1, d2] }
  | _ => none }
def sceneItemsRow : OpenClaim := { program := "ytlahaamidmbajaagreat", sum := "6c7b90d9400b95b7f76587dd6c0261ad8cf7607b8daf35242e866204860db22c", func := "celluloid/celluloidlaw22.SceneItems", spec := "sceneItems", inPlace := ["internal/abi.NoEscape", "math/bits.Sub64"], unfollowed := true, recurses := true, named := ["math/bits.divideError", "math/bits.overflowError"], loops := true, plainKeys := false, apart := false }
def SceneItemsSaid : Prop := sceneItemsRow.holds Tryz.pinned (OpenSpec.ofChange sceneItemsSpec)

/-- ITS FALSE NEIGHBOUR: 'it returns false'. Refute it at one input. -/
def sceneItemsWrong : ChangeSpec := { name := "sceneItems", fn := fun _ => fun
  | [d1, d2] => { results := [.lit (.bool false)], args := [d1, d2] }
  | _ => none }
def SceneItemsWrongFalsely : Prop := sceneItemsRow.holds Tryz.pinned (OpenSpec.ofChange sceneItemsWrong)

/-- 'celluloidlaw22.SceneOf': WHATEVER THE INPUT: true; the input reads as it did. -/
def sceneOfSpec : ChangeSpec := { name := "sceneOf", fn := fun _ => fun
  | [d1, d2] => { results := [.lit (.bool true)], args := [d1, d2] }
  | _ => none }
def sceneOfRow : OpenClaim := { program := "ytlahaamidmbajaagreat", sum := "6c7b90d9400b95b7f76587dd6c0261ad8cf7607b8daf35242e866204860db22c", func := "celluloid/celluloidlaw22.SceneOf", spec := "sceneOf", inPlace := ["internal/abi.NoEscape", "math/bits.Sub64"], unfollowed := true, recurses := true, named := ["math/bits.divideError", "math/bits.overflowError"], loops := true, plainKeys := false, apart := false }
def SceneOfSaid : Prop := sceneOfRow.holds Tryz.pinned (OpenSpec.ofChange sceneOfSpec)

/-- ITS FALSE NEIGHBOUR: 'it returns false'. Refute it at one input. -/
def sceneOfWrong : ChangeSpec := { name := "sceneOf", fn := fun _ => fun
  | [d1, d2] => { results := [.lit (.bool false)], args := [d1, d2] }
  | _ => none }
def SceneOfWrongFalsely : Prop := sceneOfRow.holds Tryz.pinned (OpenSpec.ofChange sceneOfWrong)

/-- 'celluloidlaw22.SceneSteps': WHATEVER THE INPUT: true; the input reads as it did. -/
def sceneStepsSpec : ChangeSpec := { name := "sceneSteps", fn := fun _ => fun
  | [d1, d2] => { results := [.lit (.bool true)], args := [d1, d2] }
  | _ => none }
def sceneStepsRow : OpenClaim := { program := "ytlahaamidmbajaagreat", sum := "6c7b90d9400b95b7f76587dd6c0261ad8cf7607b8daf35242e866204860db22c", func := "celluloid/celluloidlaw22.SceneSteps", spec := "sceneSteps", inPlace := ["internal/abi.NoEscape", "math/bits.Sub64"], unfollowed := true, recurses := true, named := ["math/bits.divideError", "math/bits.overflowError"], loops := true, plainKeys := false, apart := false }
def SceneStepsSaid : Prop := sceneStepsRow.holds Tryz.pinned (OpenSpec.ofChange sceneStepsSpec)

/-- ITS FALSE NEIGHBOUR: 'it returns false'. Refute it at one input. -/
def sceneStepsWrong : ChangeSpec := { name := "sceneSteps", fn := fun _ => fun
  | [d1, d2] => { results := [.lit (.bool false)], args := [d1, d2] }
  | _ => none }
def SceneStepsWrongFalsely : Prop := sceneStepsRow.holds Tryz.pinned (OpenSpec.ofChange sceneStepsWrong)

/-- 'celluloidlaw22.SceneMasks': WHATEVER THE INPUT: true; the input reads as it did. -/
def sceneMasksSpec : ChangeSpec := { name := "sceneMasks", fn := fun _ => fun
  | [d1, d2] => { results := [.lit (.bool true)], args := [d1, d2] }
  | _ => none }
def sceneMasksRow : OpenClaim := { program := "ytlahaamidmbajaagreat", sum := "6c7b90d9400b95b7f76587dd6c0261ad8cf7607b8daf35242e866204860db22c", func := "celluloid/celluloidlaw22.SceneMasks", spec := "sceneMasks", inPlace := ["internal/abi.NoEscape", "math/bits.Sub64"], unfollowed := true, recurses := true, named := ["math/bits.divideError", "math/bits.overflowError"], loops := true, plainKeys := false, apart := false }
def SceneMasksSaid : Prop := sceneMasksRow.holds Tryz.pinned (OpenSpec.ofChange sceneMasksSpec)

/-- ITS FALSE NEIGHBOUR: 'it returns false'. Refute it at one input. -/
def sceneMasksWrong : ChangeSpec := { name := "sceneMasks", fn := fun _ => fun
  | [d1, d2] => { results := [.lit (.bool false)], args := [d1, d2] }
  | _ => none }
def SceneMasksWrongFalsely : Prop := sceneMasksRow.holds Tryz.pinned (OpenSpec.ofChange sceneMasksWrong)

/-- 'celluloidlaw22.SceneAgain': WHATEVER THE INPUT: true; the input reads as it did. -/
def sceneAgainSpec : ChangeSpec := { name := "sceneAgain", fn := fun _ => fun
  | [d1, d2] => { results := [.lit (.bool true)], args := [d1, d2] }
  | _ => none }
def sceneAgainRow : OpenClaim := { program := "ytlahaamidmbajaagreat", sum := "6c7b90d9400b95b7f76587dd6c0261ad8cf7607b8daf35242e866204860db22c", func := "celluloid/celluloidlaw22.SceneAgain", spec := "sceneAgain", inPlace := ["internal/abi.NoEscape", "math/bits.Sub64"], unfollowed := true, recurses := true, named := ["math/bits.divideError", "math/bits.overflowError"], loops := true, plainKeys := false, apart := false }
def SceneAgainSaid : Prop := sceneAgainRow.holds Tryz.pinned (OpenSpec.ofChange sceneAgainSpec)

/-- ITS FALSE NEIGHBOUR: 'it returns false'. Refute it at one input. -/
def sceneAgainWrong : ChangeSpec := { name := "sceneAgain", fn := fun _ => fun
  | [d1, d2] => { results := [.lit (.bool false)], args := [d1, d2] }
  | _ => none }
def SceneAgainWrongFalsely : Prop := sceneAgainRow.holds Tryz.pinned (OpenSpec.ofChange sceneAgainWrong)

/- THE SECOND FORM. 'bulk': how many values and letters a reading holds, each counted each time it is reached (what is shared counts as often as it is met; a slice's spare places count too). A statement '..UptoSaid' is the law's where the arguments, and the package variables that the reading takes, are together of bulk at most 1048576: NARROWER than '..Said'. Prove '..Said' where nothing that the law and all that it calls make is longer than what came in: it says more and counts as full. Else prove '..UptoSaid'. A law counts once. -/
mutual
def uptoBulk {H : Type} : DataW H → Nat
  | .lit (.string bytes) => bytes.length + 1
  | .lit _ => 1
  | .nil => 1
  | .ptr d => uptoBulk d + 1
  | .slice elems spare => uptoBulkAll elems + uptoBulkAll spare + 1
  | .agg parts => uptoBulkAll parts + 1
  | .iface _ d => uptoBulk d + 1
  | .map entries => uptoBulkEntries entries + 1
  | .held _ => 1
def uptoBulkAll {H : Type} : List (DataW H) → Nat
  | [] => 0
  | d :: r => uptoBulk d + uptoBulkAll r
def uptoBulkEntries {H : Type} : List (Lit × DataW H) → Nat
  | [] => 0
  | x :: r => uptoBulkEntry x + uptoBulkEntries r
def uptoBulkEntry {H : Type} : Lit × DataW H → Nat
  | (.string bytes, d) => bytes.length + uptoBulk d + 1
  | (_, d) => uptoBulk d + 1
 end
def uptoSmall : (H : Type) → List (DataW H) → Bool := fun _ ds => decide (uptoBulkAll ds ≤ 1048576)
def OpenSpec.upto (s : _root_.Go.ChangeSpec) : _root_.Go.OpenSpec := { _root_.Go.OpenSpec.ofChange s with cond := some uptoSmall }

/-- 'celluloidlaw22.SceneItems', WHERE WHAT IT READS IS OF BULK AT MOST 1048576: true; the input reads as it did. -/
def sceneItemsUptoRow : OpenClaim := { program := "ytlahaamidmbajaagreat", sum := "6c7b90d9400b95b7f76587dd6c0261ad8cf7607b8daf35242e866204860db22c", func := "celluloid/celluloidlaw22.SceneItems", spec := "sceneItems", inPlace := ["internal/abi.NoEscape", "math/bits.Sub64"], unfollowed := true, recurses := true, named := ["math/bits.divideError", "math/bits.overflowError"], loops := true, plainKeys := false, apart := false, narrowed := true }
def SceneItemsUptoSaid : Prop := sceneItemsUptoRow.holds Tryz.pinned (OpenSpec.upto sceneItemsSpec)

/-- 'celluloidlaw22.SceneOf', WHERE WHAT IT READS IS OF BULK AT MOST 1048576: true; the input reads as it did. -/
def sceneOfUptoRow : OpenClaim := { program := "ytlahaamidmbajaagreat", sum := "6c7b90d9400b95b7f76587dd6c0261ad8cf7607b8daf35242e866204860db22c", func := "celluloid/celluloidlaw22.SceneOf", spec := "sceneOf", inPlace := ["internal/abi.NoEscape", "math/bits.Sub64"], unfollowed := true, recurses := true, named := ["math/bits.divideError", "math/bits.overflowError"], loops := true, plainKeys := false, apart := false, narrowed := true }
def SceneOfUptoSaid : Prop := sceneOfUptoRow.holds Tryz.pinned (OpenSpec.upto sceneOfSpec)

/-- 'celluloidlaw22.SceneSteps', WHERE WHAT IT READS IS OF BULK AT MOST 1048576: true; the input reads as it did. -/
def sceneStepsUptoRow : OpenClaim := { program := "ytlahaamidmbajaagreat", sum := "6c7b90d9400b95b7f76587dd6c0261ad8cf7607b8daf35242e866204860db22c", func := "celluloid/celluloidlaw22.SceneSteps", spec := "sceneSteps", inPlace := ["internal/abi.NoEscape", "math/bits.Sub64"], unfollowed := true, recurses := true, named := ["math/bits.divideError", "math/bits.overflowError"], loops := true, plainKeys := false, apart := false, narrowed := true }
def SceneStepsUptoSaid : Prop := sceneStepsUptoRow.holds Tryz.pinned (OpenSpec.upto sceneStepsSpec)

/-- 'celluloidlaw22.SceneMasks', WHERE WHAT IT READS IS OF BULK AT MOST 1048576: true; the input reads as it did. -/
def sceneMasksUptoRow : OpenClaim := { program := "ytlahaamidmbajaagreat", sum := "6c7b90d9400b95b7f76587dd6c0261ad8cf7607b8daf35242e866204860db22c", func := "celluloid/celluloidlaw22.SceneMasks", spec := "sceneMasks", inPlace := ["internal/abi.NoEscape", "math/bits.Sub64"], unfollowed := true, recurses := true, named := ["math/bits.divideError", "math/bits.overflowError"], loops := true, plainKeys := false, apart := false, narrowed := true }
def SceneMasksUptoSaid : Prop := sceneMasksUptoRow.holds Tryz.pinned (OpenSpec.upto sceneMasksSpec)

/-- 'celluloidlaw22.SceneAgain', WHERE WHAT IT READS IS OF BULK AT MOST 1048576: true; the input reads as it did. -/
def sceneAgainUptoRow : OpenClaim := { program := "ytlahaamidmbajaagreat", sum := "6c7b90d9400b95b7f76587dd6c0261ad8cf7607b8daf35242e866204860db22c", func := "celluloid/celluloidlaw22.SceneAgain", spec := "sceneAgain", inPlace := ["internal/abi.NoEscape", "math/bits.Sub64"], unfollowed := true, recurses := true, named := ["math/bits.divideError", "math/bits.overflowError"], loops := true, plainKeys := false, apart := false, narrowed := true }
def SceneAgainUptoSaid : Prop := sceneAgainUptoRow.holds Tryz.pinned (OpenSpec.upto sceneAgainSpec)

end Rows
end Go.Proofs.YtlahaamidmbajaaGreat
