/- A place's parts. -/
import Derived.Test.YtbaajplajjfgcaaGreatU10
set_option linter.unusedVariables false
namespace Go.AI
open Go Go.Proofs
def itE (y : Nat → Int) : List PV := [.i (y 0), .i (y 1), .i (y 2), .i (y 3), .i (y 4), .i (y 5), .i (y 6), .i (y 7), .i (y 8), .i (y 9), .i (y 10), .i (y 11), .i (y 12), .i (y 13), .i (y 14), .i (y 15), .i (y 16), .i (y 17), .i (y 18)]
end Go.AI
