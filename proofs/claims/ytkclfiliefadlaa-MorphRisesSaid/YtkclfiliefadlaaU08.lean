/- Equations of the program's functions, on. -/
import Derived.Test.YtkclfiliefadlaaU
import Derived.KernelRfl
set_option linter.unusedVariables false
set_option maxRecDepth 100000
namespace Go.AI
open Go Go.Proofs
/- celluloid/style.Right$1 -/
/- celluloid/style.RightStroke -/
/- slices.IndexFunc[[]celluloid/api.Fill,celluloid/api.Fill] -/
/- celluloid/style.gradient -/
/- celluloid/celluloidref08.Right -/
/- celluloid/style.Right -/
/- celluloid/style.RightFill -/
/- celluloid/style.stop -/
/- celluloid/celluloidref08.Small -/
/- slices.EqualFunc[[]celluloid/api.Fill,[]celluloid/api.Fill,celluloid/api.Fill,celluloid/api.Fill] -/
/- celluloid/celluloidref08.Fill -/
/- celluloid/celluloidref08.Same -/
/- slices.ContainsFunc[[]celluloid/api.Stroke,celluloid/api.Stroke] -/
/- slices.Equal[[]celluloid/api.Stroke,celluloid/api.Stroke] -/
/- celluloid/style.picture -/
/- slices.IndexFunc[[]celluloid/api.Stroke,celluloid/api.Stroke] -/
/- celluloid/celluloidref08.SameLists -/
/- celluloid/celluloidref08.Stroke -/
/- slices.ContainsFunc[[]celluloid/api.Fill,celluloid/api.Fill] -/
/- celluloid/style.Right$2 -/
/- celluloid/style.SameFill -/
/- slices.Equal[[]celluloid/api.Stop,celluloid/api.Stop] -/
end Go.AI
