/- Fills and lines: what is the same, what is right. -/
import Derived.Test.YtkclfiliefadlaaU08
import Derived.Test.YtkclfiliefadlaaW
import Derived.Test.YtkclfiliefadlaaP07
import Derived.Test.YtkclfiliefadlaaAiL
set_option linter.unusedVariables false
set_option linter.unusedSimpArgs false
set_option maxRecDepth 100000
namespace Go.AI
open Go Go.Proofs

structure Stop where
  ratio : Int
  color : I4
  deriving DecidableEq
structure Fill where
  kind : Int
  color : I4
  mat : Mat
  spread : Int
  stops : List Stop
  id : Int
  deriving DecidableEq
structure Strk where
  width : Int
  color : I4
  deriving DecidableEq
def Stop.e (s : Stop) : List PV := [.i s.ratio, .i s.color.1, .i s.color.2.1, .i s.color.2.2.1, .i s.color.2.2.2]
def Strk.e (s : Strk) : List PV := [.i s.width, .i s.color.1, .i s.color.2.1, .i s.color.2.2.1, .i s.color.2.2.2]
def Fill.e (f : Fill) : List PV := [.i f.kind, .i f.color.1, .i f.color.2.1, .i f.color.2.2.1, .i f.color.2.2.2, .i f.mat.1, .i f.mat.2.1, .i f.mat.2.2.1, .i f.mat.2.2.2.1, .i f.mat.2.2.2.2.1, .i f.mat.2.2.2.2.2, .i f.spread, .l (f.stops.map Stop.e), .i f.id]

end Go.AI
set_option linter.unusedVariables false
set_option linter.unusedSimpArgs false
set_option maxRecDepth 100000
namespace Go.AI
open Go Go.Proofs

theorem PWL.split {P : Program} {us : List LTy} : ∀ {ts : List LTy} {ps : List PV}, PWL P (ts ++ us) ps → ∃ a b, ps = a ++ b ∧ PWL P ts a ∧ PWL P us b
  | [], ps, h => ⟨[], ps, rfl, ⟨rfl, fun j hj => by simp at hj⟩, h⟩
  | t :: ts, ps, h => by
    obtain ⟨p, q, rfl, hp, hq⟩ := h.cons
    obtain ⟨a, b, rfl, ha, hb⟩ := PWL.split (ts := ts) hq
    refine ⟨p :: a, b, rfl, ?_, hb⟩
    refine ⟨by simp [ha.1], fun j hj => ?_⟩
    cases j with
    | zero => exact hp
    | succ j => simpa using ha.2 j (by simpa using hj)
end Go.AI
