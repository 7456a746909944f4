/- Equations of the program's functions, on. -/
import Derived.Test.YtkclfiliefadlaaU08
import Derived.KernelRfl
set_option linter.unusedVariables false
set_option maxRecDepth 100000
namespace Go.AI
open Go Go.Proofs
/- celluloid/celluloidref09.Equal -/
/- celluloid/celluloidref09.Same -/
/- celluloid/shape.same -/
/- celluloid/celluloidref09.in -/
/- slices.ContainsFunc[[]int,int] -/
/- celluloid/celluloidref09.one -/
/- celluloid/shape.within$1 -/
/- celluloid/shape.sound -/
/- celluloid/shape.Right -/
/- celluloid/celluloidref09.Records -/
/- celluloid/shape.RightRecords -/
/- celluloid/shape.SameRecords -/
/- celluloid/celluloidref09.Small -/
/- celluloid/shape.within -/
/- slices.EqualFunc[[]celluloid/api.Record,[]celluloid/api.Record,celluloid/api.Record,celluloid/api.Record] -/
/- slices.IndexFunc[[]int,int] -/
end Go.AI
