/- A scene's steps: the number of a tag, a clone of nothing. -/
import Derived.Test.YtlahaamidmbajaaGreatT22h
import Derived.OrdersHeld
import Derived.WalkSpells
set_option linter.unusedVariables false
set_option linter.unusedSimpArgs false
namespace Go.AI
open Go Go.RowKit Go.Proofs Go.Maps
/-- a tag's number, if it has one -/
def idF (kd s m p : Int) : Int × Bool := if kd = 32 then (s, true) else if kd = 46 then (m, true) else if kd = 39 then (p, true) else (0, false)
set_option maxHeartbeats 4000000 in
set_option maxRecDepth 1000000 in
theorem id_walk (C : List Value) (kd s m p : Int) (hC : C.length = 55) (h1 : ∀ v, v ∈ C → v.oneCell' = true) (c0 : C[0]? = some (.int .i64 kd)) (c1 : C[25]? = some (.int .i64 s)) (c2 : C[33]? = some (.int .i64 m)) (c3 : C[52]? = some (.int .i64 p)) (w : World) :
    Calls Tryz.prog 31 #[.agg C.toArray] w fun e w' => e = .returned (.tuple #[.int .i64 (idF kd s m p).1, .bool (idF kd s m p).2]) ∧ Bel w.heap.size w w' := by
  have hb := heap_alloc_new w (.cells C.toArray 80)
  have d0 : (w.alloc (.cells C.toArray 80)).cell? ⟨w.heap.size, 0, none⟩ = some (.int .i64 kd) := (cell_block hb 0).trans c0
  have d1 : (w.alloc (.cells C.toArray 80)).cell? ⟨w.heap.size, 25, none⟩ = some (.int .i64 s) := (cell_block hb 25).trans c1
  have d2 : (w.alloc (.cells C.toArray 80)).cell? ⟨w.heap.size, 33, none⟩ = some (.int .i64 m) := (cell_block hb 33).trans c2
  have d3 : (w.alloc (.cells C.toArray 80)).cell? ⟨w.heap.size, 52, none⟩ = some (.int .i64 p) := (cell_block hb 52).trans c3
  clear hb
  generalize hI : idF kd s m p = I
  replace hI : Hid _ := hI
  go_enter Tryz.func31, Tryz.ntmps31
  go_wp2
  all_goals (go_ret2; refine ⟨?_, Bel.ofBelow ((Below.refl _ w).alloc (Nat.le_refl _) _)⟩; have hI := hI.out; unfold idF at hI)
  · rename_i g1
    have g1 : kd = 32 := by simpa using g1
    rw [if_pos g1] at hI; subst hI; rfl
  · rename_i g1 g2
    have g1 : ¬ kd = 32 := by simpa using g1
    have g2 : kd = 46 := by simpa using g2
    rw [if_neg g1, if_pos g2] at hI; subst hI; rfl
  · rename_i g1 g2 g3
    have g1 : ¬ kd = 32 := by simpa using g1
    have g2 : ¬ kd = 46 := by simpa using g2
    have g3 : kd = 39 := by simpa using g3
    rw [if_neg g1, if_neg g2, if_pos g3] at hI; subst hI; rfl
  · rename_i g1 g2 g3
    have g1 : ¬ kd = 32 := by simpa using g1
    have g2 : ¬ kd = 46 := by simpa using g2
    have g3 : ¬ kd = 39 := by simpa using g3
    rw [if_neg g1, if_neg g2, if_neg g3] at hI; subst hI; rfl
set_option maxHeartbeats 4000000 in
set_option maxRecDepth 1000000 in
theorem clone_none (w : World) : Calls Tryz.prog 58 #[.slice none 0 0] w fun e w' => e = .returned (.slice none 0 0) ∧ w' = w := by
  have hnil := Go.run_eql_nil_slice (P := Tryz.prog) w 84 3 none 0 0 0 0 Tryz.underlying84
  go_enter Tryz.func58, Tryz.ntmps58
  go_wp2
  go_ret
  exact ⟨rfl, rfl⟩
end Go.AI
