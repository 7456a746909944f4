/- Answers given by hand, for functions of plain data: what is asked of the walk. -/
import Derived.Test.YtbaajplajjfgcaaGreatAiL
import Derived.WalkKit
import Derived.BigCall
import Derived.Maps.RangeWalk
import Derived.Maps.OwnSet
import Derived.Maps.Own
set_option linter.unusedVariables false
set_option linter.unusedSimpArgs false
namespace Go.AI
open Go

/-- what the walk of a function of plain data says: for the given arguments it returns the given results -/
def PlainOk (P : Program) (A : Ann) (f : FuncId) (ps rs : List PV) : Prop :=
  ∃ fn c avs bvs, P.funcs[f]? = some fn ∧ fn.body = some c ∧ fn.nfree = 0 ∧ handV P (A.ownA f) fn.params.toList ps 0 0 = some (avs, [], 0) ∧ rowsV P (A.ownR f) fn.resultTypes.toList rs 0 = [] ∧ newTs P fn.resultTypes.toList = [] ∧
    handV P (A.ownR f) fn.resultTypes.toList rs 0 0 = some (bvs, [], 0) ∧
    ∀ (N : Nat → Prop) (w : World) (vs : List Value), (∀ b, N b → b < w.heap.size) → vs.length = avs.length → (∀ i, i < avs.length → VR P N w.heap (fun _ => none) (avs.getD i .any) (vs.getD i undef)) →
      Calls P f vs.toArray w fun e w' => ∃ us : List Value, e = .returned (oneR us) ∧ Bel w.heap.size w w' ∧ bvs.length = us.length ∧
        ∀ i, i < us.length → VR P (fun b => N b ∨ (w.heap.size ≤ b ∧ b < w'.heap.size)) w'.heap (fun _ => none) (bvs.getD i .any) (us.getD i undef)
theorem hand_free {D : Nat → Prop} {P : Program} {hp hp' : Array Obj} {β : GM} (H : Hand P D β (fun _ => none) hp) (hs : hp.size ≤ hp'.size) : Hand P D β (fun _ => none) hp' :=
  ⟨⟨fun _ _ h => (by cases h), fun _ _ _ _ _ _ _ h => (by cases h), fun _ _ _ _ h => (by cases h), fun k hk => Nat.lt_of_lt_of_le (H.mem.lt k hk) hs⟩, H.nm, H.kd, H.nf⟩
theorem prim_plain {P : Program} {A : Ann} (hP : NoCount P) {call : CallF} (hc : ∀ f ps bs res, call f ps bs = some res → bs = [] ∧ res.2 = [] ∧ PlainOk P A f ps res.1) : CallOk P A call := by
  intro f ps bs res h
  obtain ⟨rfl, hr2, fn, c, avs, bvs, h1, h2, h3, h4, h5, h6, h7, h8⟩ := hc f ps bs res h
  refine ⟨fn, avs, [], 0, [], h1, h4, rfl, by rw [h3]; rfl, fun D β0 w vs fvs H hl hv hfl hfv o a next Q hn => ?_⟩
  have e4 : fvs = [] := List.length_eq_zero_iff.1 (hfl.trans h3)
  subst e4
  have H : Hand P D β0 (fun _ => none) w.heap := H
  have hβ : ∀ id, β0 id = none := fun id => by
    cases hb : β0 id with
    | none => rfl
    | some h => exact absurd rfl (H.nm id (by rw [hb]; exact fun h => by cases h))
  have hcall := h8 (NN D β0 (fun _ => none) w.heap) w vs (fun b hb => hb.1) hl (fun i hi => VR.mono ⟨fun b hb => ⟨hb, rfl⟩, fun id k hk => by rw [hβ id] at hk; cases hk⟩ (hv i hi))
  rw [List.append_nil, run_callFunc hP h1 h2]
  refine upon_of (R := fun v w' => ∃ us : List Value, v = oneR us ∧ Bel w.heap.size w w' ∧ bvs.length = us.length ∧
        ∀ i, i < us.length → VR P (fun b => NN D β0 (fun _ => none) w.heap b ∨ (w.heap.size ≤ b ∧ b < w'.heap.size)) w'.heap (fun _ => none) (bvs.getD i .any) (us.getD i undef)) (hcall.mono fun e w' h => ?_) o a next Q ?_
  · obtain ⟨us, h1, h2⟩ := h
    exact ⟨_, h1, us, rfl, h2⟩
  · rintro v w' ⟨us, rfl, hb, hlu, hus⟩
    refine hn _ w' ⟨β0, [], by rw [hr2]; rfl, by rw [hr2, h6]; rfl, ?_, hb.size, fun b hb' _ => hb.block b hb', fun x y h k hx => ?_, fun i hi => (by cases hi), us, rfl, fun avs ms n hh => ?_⟩ hb.env
    · rw [h5]
      exact hand_free H hb.size
    · rw [h5] at hx; cases hx
    · rw [h5]
      have hq : some (avs, ms, n) = some (bvs, [], 0) := hh.symm.trans h7
      cases hq
      refine ⟨hlu, fun i hi => VR.mono ⟨fun b hb2 => ⟨?_, rfl⟩, fun id k hk => by cases hk⟩ (hus i hi)⟩
      rcases hb2 with hb2 | hb2
      · exact ⟨Nat.lt_of_lt_of_le hb2.1 hb.size, hb2.2.1, fun ⟨_, _, _, h, _⟩ => by cases h⟩
      · exact ⟨hb2.2, fun hd => by have := H.mem.lt _ hd; omega, fun ⟨_, _, _, h, _⟩ => by cases h⟩
end Go.AI
set_option linter.unusedVariables false
set_option linter.unusedSimpArgs false
namespace Go.AI
open Go Go.RowKit Go.Maps

theorem Bel.ofBelow {B : Nat} {w w' : World} (h : Below B w w') : Bel B w w' := ⟨⟨h.os, h.output⟩, h.size, h.block⟩
theorem ownsMap_bel {H : Type} {P : Program} {k : TypeId} {R : Value → Option (DataW H × List MemPlace)} {b n : Nat} {D : DataW H} {w w' : World} (h : w.ownsMap P k R b n D) (hk : Bel w.heap.size w w') : w'.ownsMap P k R b n D := by
  have hlt := h.lt
  obtain ⟨es, clock, hb, F, hs, hD⟩ := h
  exact ⟨es, clock, (hk.block b hlt).trans hb, F, hs, hD⟩
theorem cell_bel {B : Nat} {w w' : World} (h : Bel B w w') {b : Nat} (hb : b < B) (o : Nat) : w'.cell? ⟨b, o, none⟩ = w.cell? ⟨b, o, none⟩ := World.cell?_of_block (w := w) (h.block b hb)
theorem Bel.grown {B : Nat} {a w w' : World} {row : Option Nat} (h : Bel B a w) (hg : w.grownBy w' row) (hB : B ≤ w.heap.size) (hr : ∀ k, row = some k → B ≤ k) : Bel B a w' :=
  h.trans ⟨⟨hg.os, hg.output⟩, hg.size, fun k hk => hg.block k (by omega) (fun e => by have := hr k e.symm; omega)⟩
theorem cell_block {w : World} {b : Nat} {c : List Value} {t : TypeId} {fr : Nat × Nat} (h : w.heap[b]? = some (.cells c.toArray t fr)) (o : Nat) : w.cell? ⟨b, o, none⟩ = c[o]? := by
  rw [cell_cellH, cellH_of h]; simp

theorem getD_some {α : Type} {l : List α} {i : Nat} {d : α} (h : i < l.length) : l[i]? = some (l.getD i d) := by simp [List.getD, h]

section
variable {P : Program} (w : World) {ops : Array Oper} {rest : List Oper} {o : Oper} {a : Act} {Q : Exit → Act → World → Prop}
/-- a struct is loaded -/
theorem wpList_load (hg : o.guard = none) (x : Operand) (t : TypeId) (hop : o.op = Op.load t x) {ts : List LTy} (hl : leaves P t = some ts) (ha : isAggB P t = true) (b off : Nat) (hx : a.eval x = .pointer (some ⟨b, off, none⟩))
    (vs : List Value) (hn : vs.length = ts.length) (hc : ∀ i, i < vs.length → w.cell? ⟨b, off + i, none⟩ = some (vs.getD i undef))
    (hK : wpList P ops Q rest (a.put o.dst (.agg vs.toArray)) w) : wpList P ops Q (o :: rest) a w := by
  refine wpList_plain hg fun K' hK' => ?_
  have h := run_loadVar hl w b off vs hn (fun i hi => by rw [← cell_cellH]; exact hc i hi) (fun h => by rw [ha] at h; cases h)
  unfold valOf at h
  rw [if_pos ha] at h
  unfold Oper.wp
  simp [execOp, hop, hx, Instr.loadAt, Instr.sureAddr, h, Result.andThen]
  exact hK' _ _ hK
/-- a struct is laid into a new variable -/
theorem wpList_allocStore {o2 : Oper} (hg : o.guard = none) (hg2 : o2.guard = none) (d : Tmp) (t : TypeId) (hop : o.op = Op.alloc t) (hd : o.dst = some d) (y : Operand) (hop2 : o2.op = Op.store t (.tmp d) y) (hd2 : o2.dst = none)
    {ts : List LTy} (hl : leaves P t = some ts) {z : Value} (hz : ∀ w, (zeroValue t).run P w = .ok z w) (hzn : z.cells.size = ts.length) (hdl : d < a.tmps.size) (vs : List Value) (B : Nat) (hB : w.heap.size = B)
    (hy : (a.put (some d) (.pointer (some ⟨B, 0, none⟩))).eval y = .agg vs.toArray) (hn : vs.length = ts.length) (h1 : ∀ v, v ∈ vs → v.oneCell' = true)
    (hK : ∀ w', Bel B w w' → w'.heap.size = B + 1 → w'.heap[B]? = some (.cells vs.toArray t (0, 0)) →
      wpList P ops Q rest (a.put (some d) (.pointer (some ⟨B, 0, none⟩))) w') : wpList P ops Q (o :: o2 :: rest) a w := by
  subst hB
  have hzc : ∀ (w : World), w.heap.size = w.heap.size := fun _ => rfl
  have hb : (w.alloc (.cells z.cells t)).heap[w.heap.size]? = some (.cells z.cells t (0, 0)) := heap_alloc_new w _
  obtain ⟨w', s1, s2, s3, s4, s5⟩ := run_storeVar (P := P) (o := 0) hl hb (fun k _ h => by omega) (v := .agg vs.toArray) (vs := vs) rfl hn (by rw [hzn, hn]; omega) h1
  have e1 : putArr z.cells 0 vs = vs.toArray := by
    unfold putArr putAt
    rw [List.take_zero, List.nil_append, Nat.zero_add, List.drop_of_length_le (by rw [Array.length_toList, hzn, hn]; omega), List.append_nil]
  rw [e1] at s4
  refine wpList_plain hg fun K' hK' => ?_
  have hr : (execOp a.eval o).run P w = .ok (.value (.pointer (some ⟨w.heap.size, 0, none⟩))) (w.alloc (.cells z.cells t)) := by
    simp [execOp, hop, Instr.alloc, hz, newVar, newRow, Result.andThen]
  unfold Oper.wp
  rw [hr, Oper.upon_value, hd]
  refine hK' _ _ (wpList_plain hg2 fun K2 hK2 => ?_)
  have he : (a.put (some d) (.pointer (some ⟨w.heap.size, 0, none⟩))).eval (.tmp d) = .pointer (some ⟨w.heap.size, 0, none⟩) := by
    simp [Act.eval, Act.put, hdl]
  have hr2 : (execOp (a.put (some d) (.pointer (some ⟨w.heap.size, 0, none⟩))).eval o2).run P (w.alloc (.cells z.cells t)) = .ok .skip w' := by
    simp [execOp, hop2, he, hy, Instr.storeAt, Instr.sureAddr, s1, Result.andThen]
  unfold Oper.wp
  rw [hr2, Oper.upon_skip, hd2]
  refine hK2 _ _ (hK w' ⟨s5, by rw [s2]; simp, fun k hk => ?_⟩ (by rw [s2]; simp) s4)
  rw [s3 k (by omega)]
  exact Below.heap_alloc w _ k hk
/-- a new variable -/
theorem wpList_allocBig (hg : o.guard = none) (t : TypeId) (hop : o.op = Op.alloc t) {z : Value} (hz : ∀ w, (zeroValue t).run P w = .ok z w) (B : Nat) (hB : w.heap.size = B)
    (hK : ∀ w', Bel B w w' → w'.heap.size = B + 1 → w'.heap[B]? = some (.cells z.cells t (0, 0)) → wpList P ops Q rest (a.put o.dst (.pointer (some ⟨B, 0, none⟩))) w') : wpList P ops Q (o :: rest) a w := by
  subst hB
  refine wpList_plain hg fun K' hK' => ?_
  have hr : (execOp a.eval o).run P w = .ok (.value (.pointer (some ⟨w.heap.size, 0, none⟩))) (w.alloc (.cells z.cells t)) := by
    simp [execOp, hop, Instr.alloc, hz, newVar, newRow, Result.andThen]
  unfold Oper.wp
  rw [hr, Oper.upon_value]
  exact hK' _ _ (hK _ (Bel.ofBelow ((Below.refl _ w).alloc (Nat.le_refl _) _)) (by simp) (heap_alloc_new w _))
/-- a struct is laid into a variable -/
theorem wpList_storeBig (hg : o.guard = none) (x y : Operand) (t : TypeId) (hop : o.op = Op.store t x y) (hd : o.dst = none) {ts : List LTy} (hl : leaves P t = some ts) (b : Nat) (cs : Array Value) (hb : w.heap[b]? = some (.cells cs t (0, 0)))
    (hcs : cs.size = ts.length) (vs : List Value) (hx : a.eval x = .pointer (some ⟨b, 0, none⟩)) (hy : a.eval y = .agg vs.toArray) (hn : vs.length = ts.length) (h1 : ∀ v, v ∈ vs → v.oneCell' = true)
    (hK : ∀ w', Bel b w w' → w'.heap.size = w.heap.size → w'.heap[b]? = some (.cells vs.toArray t (0, 0)) → (∀ k, k ≠ b → w'.heap[k]? = w.heap[k]?) → wpList P ops Q rest a w') : wpList P ops Q (o :: rest) a w := by
  obtain ⟨w', s1, s2, s3, s4, s5⟩ := run_storeVar (P := P) (o := 0) hl hb (fun k _ h => by omega) (v := .agg vs.toArray) (vs := vs) rfl hn (by rw [hcs, hn]; omega) h1
  have e1 : putArr cs 0 vs = vs.toArray := by
    unfold putArr putAt
    rw [List.take_zero, List.nil_append, Nat.zero_add, List.drop_of_length_le (by rw [Array.length_toList, hcs, hn]; omega), List.append_nil]
  rw [e1] at s4
  refine wpList_plain hg fun K2 hK2 => ?_
  have hr2 : (execOp a.eval o).run P w = .ok .skip w' := by
    simp [execOp, hop, hx, hy, Instr.storeAt, Instr.sureAddr, s1, Result.andThen]
  unfold Oper.wp
  rw [hr2, Oper.upon_skip, hd]
  exact hK2 _ _ (hK w' ⟨s5, by rw [s2]; exact Nat.le_refl _, fun k hk => s3 k (by omega)⟩ s2 s4 (fun k hk => s3 k hk))
/-- a slice of one struct -/
theorem wpList_buildOne (hg : o.guard = none) (t : TypeId) (x : Operand) (hop : o.op = Op.buildSlice t 1 #[(0, x)]) {e : TypeId} (hu : P.underlying t = some (.slice e)) {ts : List LTy} (hl : leaves P e = some ts) {z : Value} (hz : ∀ w, (zeroValue e).run P w = .ok z w)
    (hzn : z.cells.size = ts.length) (h0 : ts.length ≠ 0) (hb : ts.length ≤ 100000) (vs : List Value) (hx : a.eval x = .agg vs.toArray) (hn : vs.length = ts.length) (B : Nat) (hB : w.heap.size = B)
    (hK : ∀ w', Bel B w w' → w'.heap.size = B + 1 → w'.heap[B]? = some (.cells vs.toArray e (0, 0)) → wpList P ops Q rest (a.put o.dst (.slice (some ⟨B, 0, none⟩) 1 1)) w') : wpList P ops Q (o :: rest) a w := by
  subst hB
  refine wpList_plain hg fun K' hK' => ?_
  have hrow : (newRow e vs.toArray).run P w = .ok ⟨w.heap.size, 0, none⟩ (w.alloc (.cells vs.toArray e)) := rfl
  have hexec : (execOp a.eval o).run P w = .ok (.value (.slice (some ⟨w.heap.size, 0, none⟩) 1 1)) (w.alloc (.cells vs.toArray e)) := by
    simp only [execOp, hop, Instr.buildSlice, Sem.run_bind, run_underlying hu, Result.andThen_ok, run_sizeOf hl]
    rw [Sem.run_ite, if_neg (by omega), if_neg (by omega)]
    simp only [Sem.run_bind, hz, Sem.run_pure, Result.andThen_ok]
    have hf : ∀ c : Array Value, c.size = ts.length → Instr.fill (fun i => some (i * ts.length, ts.length)) c [(0, a.eval x)] = some vs.toArray := fun c hc => by
      rw [hx]
      unfold Instr.fill
      have hcond : ¬ (decide ((Value.agg vs.toArray).cells.size ≠ ts.length) || decide (0 * ts.length + (Value.agg vs.toArray).cells.size > c.size)) = true := by
        have : (Value.agg vs.toArray).cells.size = vs.length := by show vs.toArray.size = _; simp
        simp only [Bool.or_eq_true, decide_eq_true_eq]; omega
      have hfold : ((Value.agg vs.toArray).cells.zipIdx.foldl (fun cs (x : Value × Nat) => cs.setIfInBounds (0 * ts.length + x.2) x.1) c) = vs.toArray := by
        have e := fold_put vs c (0 * ts.length) 0 (by omega)
        have e2 : putArr c (0 * ts.length + 0) vs = vs.toArray := by
          unfold putArr putAt
          rw [Nat.zero_mul, Nat.add_zero, List.take_zero, List.nil_append, Nat.zero_add, List.drop_of_length_le (by rw [Array.length_toList]; omega), List.append_nil]
        refine Eq.trans ?_ (e.trans e2)
        show (vs.toArray.zipIdx.foldl (fun cs (x : Value × Nat) => cs.setIfInBounds (0 * ts.length + x.2) x.1) c) = _
        simp
      simp only at hcond ⊢
      rw [if_neg (by simpa using hcond), hfold]
      rfl
    have := hf ((Array.range (1 * ts.length)).map fun x => z.cells[x % z.cells.size]!) (by simp)
    rw [show (Array.map (fun (y : Nat × Operand) => (y.1, a.eval y.2)) #[(0, x)]).toList = [(0, a.eval x)] by simp, this]
    rfl
  unfold Oper.wp
  rw [hexec, Oper.upon_value]
  exact hK' _ _ (hK _ ⟨⟨rfl, rfl⟩, by simp, fun k hk => Below.heap_alloc w _ k hk⟩ (by simp) (heap_alloc_new w _))
end
end Go.AI
