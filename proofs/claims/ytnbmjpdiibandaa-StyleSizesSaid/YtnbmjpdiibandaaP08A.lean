/- The fixed answer of stage 8. -/
import Derived.Test.YtnbmjpdiibandaaU08
set_option linter.unusedVariables false
set_option linter.unusedSimpArgs false
set_option maxRecDepth 100000
namespace Go.AI
open Go Go.Proofs

theorem awake08 : cW f_celluloidlaw08_awake [] [] = some ([.b true], []) := c_at 60 (by kernel_rfl)
end Go.AI
