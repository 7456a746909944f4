/- Words for answers without depth: conditions, lists of encoded elements. -/
import Derived.Test.YtebldidbdhjgjaaU
import Derived.Test.YtebldidbdhjgjaaP02
set_option linter.unusedVariables false
set_option linter.unusedSimpArgs false
set_option maxRecDepth 100000
namespace Go.AI
open Go Go.Proofs

theorem toI_i (n : Int) : (PV.i n).toI = n := rfl
theorem toB_b (n : Bool) : (PV.b n).toB = n := rfl
theorem toS_s (n : List UInt8) : (PV.s n).toS = n := rfl
theorem toL_l (n : List (List PV)) : (PV.l n).toL = n := rfl
theorem andB (p x : Bool) : (bif p then some [PV.b x] else some [PV.b false]) = some [PV.b (p && x)] := by cases p <;> rfl
theorem orB (p x : Bool) : (bif p then some [PV.b true] else some [PV.b x]) = some [PV.b (p || x)] := by cases p <;> rfl
theorem orB2 (p x : Bool) : (bif p then some ([PV.b true], ([] : List BX)) else some ([PV.b x], [])) = some ([PV.b (p || x)], []) := by cases p <;> rfl

end Go.AI
