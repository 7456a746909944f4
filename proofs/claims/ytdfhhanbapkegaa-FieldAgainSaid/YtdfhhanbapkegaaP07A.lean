/- The fixed answer of stage 7. -/
import Derived.Test.YtdfhhanbapkegaaP02
set_option linter.unusedVariables false
set_option linter.unusedSimpArgs false
set_option maxRecDepth 100000
namespace Go.AI
open Go Go.Proofs

theorem awake07 : Ans (fun k => call k f_celluloidlaw07_awake [] []) ([.b true], []) := .at_ 16 (by kernel_rfl)
end Go.AI
