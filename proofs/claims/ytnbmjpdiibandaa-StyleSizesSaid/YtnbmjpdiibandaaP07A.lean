/- The fixed answer of stage 7. -/
import Derived.Test.YtnbmjpdiibandaaP02
set_option linter.unusedVariables false
set_option linter.unusedSimpArgs false
set_option maxRecDepth 100000
namespace Go.AI
open Go Go.Proofs

end Go.AI
