/- No two maps' counts are looked at. -/
import Derived.Test.YtbaajplajjfgcaaGreatAiW
import Derived.Test.YtbaajplajjfgcaaGreatT22g
import Derived.KernelRfl
namespace Go.AI
open Go Go.Proofs Go.RowKit
theorem noCountT : NoCount Tryz.prog := noCount_of (by kernel_rfl)
theorem ownsRow_bel {w w' : World} {base : Nat} {e : TypeId} {size : Nat} {v : Value} {n : Nat} {xs : List Value} (h : w.ownsRow base e size v n xs) (hk : Bel w.heap.size w w') : w'.ownsRow base e size v n xs := by
  refine ⟨h.1, ?_⟩
  rcases h.2 with h2 | ⟨g, cap, cur, rfl, h3, h4, h5⟩
  · exact .inl h2
  · refine .inr ⟨g, cap, cur, rfl, h3, ?_, h5⟩
    rw [hk.block g (Array.getElem?_eq_some_iff.1 h4).1]
    exact h4
end Go.AI
