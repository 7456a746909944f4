/- Answers given by hand, for functions of plain data: what is asked of the walk. -/
import Derived.Test.YtlahaamidmbajaaGreatAiL
import Derived.WalkKit
import Derived.BigCall
import Derived.Maps.RangeWalk
import Derived.Maps.OwnSet
import Derived.Maps.Own
import Derived.OrdersHeld
import Derived.Deep.RegionHeld
set_option linter.unusedVariables false
set_option linter.unusedSimpArgs false
namespace Go.AI
open Go

/-- what the walk of a function of plain data says: for the given arguments it returns the given results -/
def PlainOk (P : Program) (A : Ann) (f : FuncId) (ps rs : List PV) : Prop :=
  ∃ fn c avs bvs, P.funcs[f]? = some fn ∧ fn.body = some c ∧ fn.nfree = 0 ∧ handV P (A.ownA f) fn.params.toList ps 0 0 = some (avs, [], 0) ∧ rowsV P (A.ownR f) fn.resultTypes.toList rs 0 = [] ∧ newTs P fn.resultTypes.toList = [] ∧
    handV P (A.ownR f) fn.resultTypes.toList rs 0 0 = some (bvs, [], 0) ∧
    ∀ (N : Nat → Prop) (w : World) (vs : List Value), (∀ b, N b → b < w.heap.size) → vs.length = avs.length → (∀ i, i < avs.length → VR P N w.heap (fun _ => none) (avs.getD i .any) (vs.getD i undef)) →
      Calls P f vs.toArray w fun e w' => ∃ us : List Value, e = .returned (oneR us) ∧ Bel w.heap.size w w' ∧ bvs.length = us.length ∧
        ∀ i, i < us.length → VR P (fun b => N b ∨ (w.heap.size ≤ b ∧ b < w'.heap.size)) w'.heap (fun _ => none) (bvs.getD i .any) (us.getD i undef)
theorem hand_free {D : Nat → Prop} {P : Program} {hp hp' : Array Obj} {β : GM} (H : Hand P D β (fun _ => none) hp) (hs : hp.size ≤ hp'.size) : Hand P D β (fun _ => none) hp' :=
  ⟨⟨fun _ _ h => (by cases h), fun _ _ _ _ _ _ _ h => (by cases h), fun _ _ _ _ h => (by cases h), fun k hk => Nat.lt_of_lt_of_le (H.mem.lt k hk) hs⟩, H.nm, H.kd, H.nf⟩
theorem prim_plain {P : Program} {A : Ann} (hP : NoCount P) {call : CallF} (hc : ∀ f ps bs res, call f ps bs = some res → bs = [] ∧ res.2 = [] ∧ PlainOk P A f ps res.1) : CallOk P A call := by
  intro f ps bs res h
  obtain ⟨rfl, hr2, fn, c, avs, bvs, h1, h2, h3, h4, h5, h6, h7, h8⟩ := hc f ps bs res h
  refine ⟨fn, avs, [], 0, [], h1, h4, rfl, by rw [h3]; rfl, fun D β0 w vs fvs H hl hv hfl hfv o a next Q hn => ?_⟩
  have e4 : fvs = [] := List.length_eq_zero_iff.1 (hfl.trans h3)
  subst e4
  have H : Hand P D β0 (fun _ => none) w.heap := H
  have hβ : ∀ id, β0 id = none := fun id => by
    cases hb : β0 id with
    | none => rfl
    | some h => exact absurd rfl (H.nm id (by rw [hb]; exact fun h => by cases h))
  have hcall := h8 (NN D β0 (fun _ => none) w.heap) w vs (fun b hb => hb.1) hl (fun i hi => VR.mono ⟨fun b hb => ⟨hb, rfl⟩, fun id k hk => by rw [hβ id] at hk; cases hk⟩ (hv i hi))
  rw [List.append_nil, run_callFunc hP h1 h2]
  refine upon_of (R := fun v w' => ∃ us : List Value, v = oneR us ∧ Bel w.heap.size w w' ∧ bvs.length = us.length ∧
        ∀ i, i < us.length → VR P (fun b => NN D β0 (fun _ => none) w.heap b ∨ (w.heap.size ≤ b ∧ b < w'.heap.size)) w'.heap (fun _ => none) (bvs.getD i .any) (us.getD i undef)) (hcall.mono fun e w' h => ?_) o a next Q ?_
  · obtain ⟨us, h1, h2⟩ := h
    exact ⟨_, h1, us, rfl, h2⟩
  · rintro v w' ⟨us, rfl, hb, hlu, hus⟩
    refine hn _ w' ⟨β0, [], by rw [hr2]; rfl, by rw [hr2, h6]; rfl, ?_, hb.size, fun b hb' _ => hb.block b hb', fun x y h k hx => ?_, fun i hi => (by cases hi), us, rfl, fun avs ms n hh => ?_⟩ hb.env
    · rw [h5]
      exact hand_free H hb.size
    · rw [h5] at hx; cases hx
    · rw [h5]
      have hq : some (avs, ms, n) = some (bvs, [], 0) := hh.symm.trans h7
      cases hq
      refine ⟨hlu, fun i hi => VR.mono ⟨fun b hb2 => ⟨?_, rfl⟩, fun id k hk => by cases hk⟩ (hus i hi)⟩
      rcases hb2 with hb2 | hb2
      · exact ⟨Nat.lt_of_lt_of_le hb2.1 hb.size, hb2.2.1, fun ⟨_, _, _, h, _⟩ => by cases h⟩
      · exact ⟨hb2.2, fun hd => by have := H.mem.lt _ hd; omega, fun ⟨_, _, _, h, _⟩ => by cases h⟩
end Go.AI
set_option linter.unusedVariables false
set_option linter.unusedSimpArgs false
namespace Go.AI
open Go Go.RowKit Go.Maps

theorem Bel.ofBelow {B : Nat} {w w' : World} (h : Below B w w') : Bel B w w' := ⟨⟨h.os, h.output⟩, h.size, h.block⟩
theorem ownsMap_bel {H : Type} {P : Program} {k : TypeId} {R : Value → Option (DataW H × List MemPlace)} {b n : Nat} {D : DataW H} {w w' : World} (h : w.ownsMap P k R b n D) (hk : Bel w.heap.size w w') : w'.ownsMap P k R b n D := by
  have hlt := h.lt
  obtain ⟨es, clock, hb, F, hs, hD⟩ := h
  exact ⟨es, clock, (hk.block b hlt).trans hb, F, hs, hD⟩
theorem cell_bel {B : Nat} {w w' : World} (h : Bel B w w') {b : Nat} (hb : b < B) (o : Nat) : w'.cell? ⟨b, o, none⟩ = w.cell? ⟨b, o, none⟩ := World.cell?_of_block (w := w) (h.block b hb)
theorem Bel.grown {B : Nat} {a w w' : World} {row : Option Nat} (h : Bel B a w) (hg : w.grownBy w' row) (hB : B ≤ w.heap.size) (hr : ∀ k, row = some k → B ≤ k) : Bel B a w' :=
  h.trans ⟨⟨hg.os, hg.output⟩, hg.size, fun k hk => hg.block k (by omega) (fun e => by have := hr k e.symm; omega)⟩
theorem cell_block {w : World} {b : Nat} {c : List Value} {t : TypeId} {fr : Nat × Nat} (h : w.heap[b]? = some (.cells c.toArray t fr)) (o : Nat) : w.cell? ⟨b, o, none⟩ = c[o]? := by
  rw [cell_cellH, cellH_of h]; simp

theorem getD_some {α : Type} {l : List α} {i : Nat} {d : α} (h : i < l.length) : l[i]? = some (l.getD i d) := by simp [List.getD, h]

section
variable {P : Program} (w : World) {ops : Array Oper} {rest : List Oper} {o : Oper} {a : Act} {Q : Exit → Act → World → Prop}
/-- a struct is loaded -/
theorem wpList_load (hg : o.guard = none) (x : Operand) (t : TypeId) (hop : o.op = Op.load t x) {ts : List LTy} (hl : leaves P t = some ts) (ha : isAggB P t = true) (b off : Nat) (hx : a.eval x = .pointer (some ⟨b, off, none⟩))
    (vs : List Value) (hn : vs.length = ts.length) (hc : ∀ i, i < vs.length → w.cell? ⟨b, off + i, none⟩ = some (vs.getD i undef))
    (hK : wpList P ops Q rest (a.put o.dst (.agg vs.toArray)) w) : wpList P ops Q (o :: rest) a w := by
  refine wpList_plain hg fun K' hK' => ?_
  have h := run_loadVar hl w b off vs hn (fun i hi => by rw [← cell_cellH]; exact hc i hi) (fun h => by rw [ha] at h; cases h)
  unfold valOf at h
  rw [if_pos ha] at h
  unfold Oper.wp
  simp [execOp, hop, hx, Instr.loadAt, Instr.sureAddr, h, Result.andThen]
  exact hK' _ _ hK
/-- a struct is laid into a new variable -/
theorem wpList_allocStore {o2 : Oper} (hg : o.guard = none) (hg2 : o2.guard = none) (d : Tmp) (t : TypeId) (hop : o.op = Op.alloc t) (hd : o.dst = some d) (y : Operand) (hop2 : o2.op = Op.store t (.tmp d) y) (hd2 : o2.dst = none)
    {ts : List LTy} (hl : leaves P t = some ts) {z : Value} (hz : ∀ w, (zeroValue t).run P w = .ok z w) (hzn : z.cells.size = ts.length) (hdl : d < a.tmps.size) (vs : List Value) (B : Nat) (hB : w.heap.size = B)
    (hy : (a.put (some d) (.pointer (some ⟨B, 0, none⟩))).eval y = .agg vs.toArray) (hn : vs.length = ts.length) (h1 : ∀ v, v ∈ vs → v.oneCell' = true)
    (hK : ∀ w', Bel B w w' → w'.heap.size = B + 1 → w'.heap[B]? = some (.cells vs.toArray t (0, 0)) →
      wpList P ops Q rest (a.put (some d) (.pointer (some ⟨B, 0, none⟩))) w') : wpList P ops Q (o :: o2 :: rest) a w := by
  subst hB
  have hzc : ∀ (w : World), w.heap.size = w.heap.size := fun _ => rfl
  have hb : (w.alloc (.cells z.cells t)).heap[w.heap.size]? = some (.cells z.cells t (0, 0)) := heap_alloc_new w _
  obtain ⟨w', s1, s2, s3, s4, s5⟩ := run_storeVar (P := P) (o := 0) hl hb (fun k _ h => by omega) (v := .agg vs.toArray) (vs := vs) rfl hn (by rw [hzn, hn]; omega) h1
  have e1 : putArr z.cells 0 vs = vs.toArray := by
    unfold putArr putAt
    rw [List.take_zero, List.nil_append, Nat.zero_add, List.drop_of_length_le (by rw [Array.length_toList, hzn, hn]; omega), List.append_nil]
  rw [e1] at s4
  refine wpList_plain hg fun K' hK' => ?_
  have hr : (execOp a.eval o).run P w = .ok (.value (.pointer (some ⟨w.heap.size, 0, none⟩))) (w.alloc (.cells z.cells t)) := by
    simp [execOp, hop, Instr.alloc, hz, newVar, newRow, Result.andThen]
  unfold Oper.wp
  rw [hr, Oper.upon_value, hd]
  refine hK' _ _ (wpList_plain hg2 fun K2 hK2 => ?_)
  have he : (a.put (some d) (.pointer (some ⟨w.heap.size, 0, none⟩))).eval (.tmp d) = .pointer (some ⟨w.heap.size, 0, none⟩) := by
    simp [Act.eval, Act.put, hdl]
  have hr2 : (execOp (a.put (some d) (.pointer (some ⟨w.heap.size, 0, none⟩))).eval o2).run P (w.alloc (.cells z.cells t)) = .ok .skip w' := by
    simp [execOp, hop2, he, hy, Instr.storeAt, Instr.sureAddr, s1, Result.andThen]
  unfold Oper.wp
  rw [hr2, Oper.upon_skip, hd2]
  refine hK2 _ _ (hK w' ⟨s5, by rw [s2]; simp, fun k hk => ?_⟩ (by rw [s2]; simp) s4)
  rw [s3 k (by omega)]
  exact Below.heap_alloc w _ k hk
/-- a new variable -/
theorem wpList_allocBig (hg : o.guard = none) (t : TypeId) (hop : o.op = Op.alloc t) {z : Value} (hz : ∀ w, (zeroValue t).run P w = .ok z w) (B : Nat) (hB : w.heap.size = B)
    (hK : ∀ w', Bel B w w' → w'.heap.size = B + 1 → w'.heap[B]? = some (.cells z.cells t (0, 0)) → wpList P ops Q rest (a.put o.dst (.pointer (some ⟨B, 0, none⟩))) w') : wpList P ops Q (o :: rest) a w := by
  subst hB
  refine wpList_plain hg fun K' hK' => ?_
  have hr : (execOp a.eval o).run P w = .ok (.value (.pointer (some ⟨w.heap.size, 0, none⟩))) (w.alloc (.cells z.cells t)) := by
    simp [execOp, hop, Instr.alloc, hz, newVar, newRow, Result.andThen]
  unfold Oper.wp
  rw [hr, Oper.upon_value]
  exact hK' _ _ (hK _ (Bel.ofBelow ((Below.refl _ w).alloc (Nat.le_refl _) _)) (by simp) (heap_alloc_new w _))
/-- a struct is laid into a variable -/
theorem wpList_storeBig (hg : o.guard = none) (x y : Operand) (t : TypeId) (hop : o.op = Op.store t x y) (hd : o.dst = none) {ts : List LTy} (hl : leaves P t = some ts) (b : Nat) (cs : Array Value) (hb : w.heap[b]? = some (.cells cs t (0, 0)))
    (hcs : cs.size = ts.length) (vs : List Value) (hx : a.eval x = .pointer (some ⟨b, 0, none⟩)) (hy : a.eval y = .agg vs.toArray) (hn : vs.length = ts.length) (h1 : ∀ v, v ∈ vs → v.oneCell' = true)
    (hK : ∀ w', Bel b w w' → w'.heap.size = w.heap.size → w'.heap[b]? = some (.cells vs.toArray t (0, 0)) → (∀ k, k ≠ b → w'.heap[k]? = w.heap[k]?) → wpList P ops Q rest a w') : wpList P ops Q (o :: rest) a w := by
  obtain ⟨w', s1, s2, s3, s4, s5⟩ := run_storeVar (P := P) (o := 0) hl hb (fun k _ h => by omega) (v := .agg vs.toArray) (vs := vs) rfl hn (by rw [hcs, hn]; omega) h1
  have e1 : putArr cs 0 vs = vs.toArray := by
    unfold putArr putAt
    rw [List.take_zero, List.nil_append, Nat.zero_add, List.drop_of_length_le (by rw [Array.length_toList, hcs, hn]; omega), List.append_nil]
  rw [e1] at s4
  refine wpList_plain hg fun K2 hK2 => ?_
  have hr2 : (execOp a.eval o).run P w = .ok .skip w' := by
    simp [execOp, hop, hx, hy, Instr.storeAt, Instr.sureAddr, s1, Result.andThen]
  unfold Oper.wp
  rw [hr2, Oper.upon_skip, hd]
  exact hK2 _ _ (hK w' ⟨s5, by rw [s2]; exact Nat.le_refl _, fun k hk => s3 k (by omega)⟩ s2 s4 (fun k hk => s3 k hk))
/-- a slice of one struct -/
theorem wpList_buildOne (hg : o.guard = none) (t : TypeId) (x : Operand) (hop : o.op = Op.buildSlice t 1 #[(0, x)]) {e : TypeId} (hu : P.underlying t = some (.slice e)) {ts : List LTy} (hl : leaves P e = some ts) {z : Value} (hz : ∀ w, (zeroValue e).run P w = .ok z w)
    (hzn : z.cells.size = ts.length) (h0 : ts.length ≠ 0) (hb : ts.length ≤ 100000) (vs : List Value) (hx : a.eval x = .agg vs.toArray) (hn : vs.length = ts.length) (B : Nat) (hB : w.heap.size = B)
    (hK : ∀ w', Bel B w w' → w'.heap.size = B + 1 → w'.heap[B]? = some (.cells vs.toArray e (0, 0)) → wpList P ops Q rest (a.put o.dst (.slice (some ⟨B, 0, none⟩) 1 1)) w') : wpList P ops Q (o :: rest) a w := by
  subst hB
  refine wpList_plain hg fun K' hK' => ?_
  have hrow : (newRow e vs.toArray).run P w = .ok ⟨w.heap.size, 0, none⟩ (w.alloc (.cells vs.toArray e)) := rfl
  have hexec : (execOp a.eval o).run P w = .ok (.value (.slice (some ⟨w.heap.size, 0, none⟩) 1 1)) (w.alloc (.cells vs.toArray e)) := by
    simp only [execOp, hop, Instr.buildSlice, Sem.run_bind, run_underlying hu, Result.andThen_ok, run_sizeOf hl]
    rw [Sem.run_ite, if_neg (by omega), if_neg (by omega)]
    simp only [Sem.run_bind, hz, Sem.run_pure, Result.andThen_ok]
    have hf : ∀ c : Array Value, c.size = ts.length → Instr.fill (fun i => some (i * ts.length, ts.length)) c [(0, a.eval x)] = some vs.toArray := fun c hc => by
      rw [hx]
      unfold Instr.fill
      have hcond : ¬ (decide ((Value.agg vs.toArray).cells.size ≠ ts.length) || decide (0 * ts.length + (Value.agg vs.toArray).cells.size > c.size)) = true := by
        have : (Value.agg vs.toArray).cells.size = vs.length := by show vs.toArray.size = _; simp
        simp only [Bool.or_eq_true, decide_eq_true_eq]; omega
      have hfold : ((Value.agg vs.toArray).cells.zipIdx.foldl (fun cs (x : Value × Nat) => cs.setIfInBounds (0 * ts.length + x.2) x.1) c) = vs.toArray := by
        have e := fold_put vs c (0 * ts.length) 0 (by omega)
        have e2 : putArr c (0 * ts.length + 0) vs = vs.toArray := by
          unfold putArr putAt
          rw [Nat.zero_mul, Nat.add_zero, List.take_zero, List.nil_append, Nat.zero_add, List.drop_of_length_le (by rw [Array.length_toList]; omega), List.append_nil]
        refine Eq.trans ?_ (e.trans e2)
        show (vs.toArray.zipIdx.foldl (fun cs (x : Value × Nat) => cs.setIfInBounds (0 * ts.length + x.2) x.1) c) = _
        simp
      simp only at hcond ⊢
      rw [if_neg (by simpa using hcond), hfold]
      rfl
    have := hf ((Array.range (1 * ts.length)).map fun x => z.cells[x % z.cells.size]!) (by simp)
    rw [show (Array.map (fun (y : Nat × Operand) => (y.1, a.eval y.2)) #[(0, x)]).toList = [(0, a.eval x)] by simp, this]
    rfl
  unfold Oper.wp
  rw [hexec, Oper.upon_value]
  exact hK' _ _ (hK _ ⟨⟨rfl, rfl⟩, by simp, fun k hk => Below.heap_alloc w _ k hk⟩ (by simp) (heap_alloc_new w _))
end
end Go.AI
set_option linter.unusedVariables false
set_option linter.unusedSimpArgs false
namespace Go.AI
open Go Go.RowKit Go.Maps

theorem setCell_at {w : World} {b o : Nat} {cs : Array Value} {T : TypeId} {fr : Nat × Nat} (h : w.heap[b]? = some (.cells cs T fr)) (v : Value) : (w.setCell ⟨b, o, none⟩ v).heap[b]? = some (.cells (cs.setIfInBounds o v) T fr) := by
  simp [World.setCell, Array.getElem?_modify, h]
theorem setCell_size (w : World) (a : Addr) (v : Value) : (w.setCell a v).heap.size = w.heap.size := by simp [World.setCell]
section
variable {P : Program} {ops : Array Oper} {Q : Exit → Act → World → Prop} {md : Region.Mode} {S : World → Prop} {fuel : Nat} {listed : Array Bool} {a : Act} {w : World}
theorem H_take (i : Nat) (d : Option Tmp) {oi : Oper} {v : Value} (hi : ops[i]? = some oi) (hd : oi.dst = d) (hs : Region.noSelect ops = true) (hf : Region.free md ops listed i = true) (hr : (Region.ready md ops listed).contains i = true)
    (hQ : ∀ c a w, Q (.panic c) (a.put d v) w → Q (.panic c) a w) (hS : S w) (hw : Region.wanted oi (yielded ops a.tmps) = true) (hrun : ∀ w', S w' → (execOp a.eval oi).run P w' = .ok (.value v) w')
    (h : wpAnyH P md ops Q S fuel (listed.setIfInBounds i true) (a.put d v) w) : wpAnyH P md ops Q S (fuel + 1) listed a w := by
  subst hd
  exact wpAnyH_take hi hs hf hr hQ (.inl ⟨hw, hrun⟩) hS h
theorem H_eff (i : Nat) (d : Option Tmp) {o : Oper} {v : Value} {w2 : World} (ho : ops[i]? = some o) (hd : o.dst = d) (hr : Region.ready md ops listed = [i]) (hw : Region.wanted o (yielded ops a.tmps) = true) (hrun : (execOp a.eval o).run P w = .ok (.value v) w2)
    (hS : S w2) (h : wpAnyH P md ops Q S fuel (listed.setIfInBounds i true) (a.put d v) w2) : wpAnyH P md ops Q S (fuel + 1) listed a w := by
  subst hd
  refine wpAnyH_ready hr (by simp) (AllReadyH.cons ho (fun K hK => ?_) AllReadyH.nil)
  rw [if_pos hw]
  unfold Oper.wp
  rw [hrun, Oper.upon_value]
  exact hK.out _ _ hS (fun _ => h)
theorem H_skip (i : Nat) {o : Oper} {w2 : World} (ho : ops[i]? = some o) (hr : Region.ready md ops listed = [i]) (hw : Region.wanted o (yielded ops a.tmps) = true) (hd : o.dst = none) (hrun : (execOp a.eval o).run P w = .ok .skip w2)
    (hS : S w2) (h : wpAnyH P md ops Q S fuel (listed.setIfInBounds i true) a w2) : wpAnyH P md ops Q S (fuel + 1) listed a w := by
  refine wpAnyH_ready hr (by simp) (AllReadyH.cons ho (fun K hK => ?_) AllReadyH.nil)
  rw [if_pos hw]
  unfold Oper.wp
  rw [hrun, Oper.upon_skip, hd]
  exact hK.out _ _ hS (fun _ => h)
theorem H_call (i : Nat) (d : Option Tmp) {o : Oper} {f : FuncId} {args : Array Value} {R : Ending → World → Prop} (ho : ops[i]? = some o) (hd : o.dst = d) (hr : Region.ready md ops listed = [i]) (hw : Region.wanted o (yielded ops a.tmps) = true) (hrun : (execOp a.eval o).run P w = .ok (.enter f args) w)
    (hc : Calls P f args w R) (h : ∀ e w2, R e w2 → ∃ v, e = .returned v ∧ S w2 ∧ wpAnyH P md ops Q S fuel (listed.setIfInBounds i true) (a.put d v) w2) : wpAnyH P md ops Q S (fuel + 1) listed a w := by
  subst hd
  refine wpAnyH_ready hr (by simp) (AllReadyH.cons ho (fun K hK => ?_) AllReadyH.nil)
  rw [if_pos hw]
  unfold Oper.wp
  rw [hrun, Oper.upon_enter]
  refine hc.mono fun e w2 he => ?_
  obtain ⟨v, rfl, hS, hh⟩ := h e w2 he
  exact hK.out _ _ hS (fun _ => hh)
/-- a load -/
theorem run_opLoad {o : Oper} (w : World) (t : TypeId) (x : Operand) (hop : o.op = Op.load t x) {ts : List LTy} (hl : leaves P t = some ts) (b off : Nat) (hx : a.eval x = .pointer (some ⟨b, off, none⟩))
    (vs : List Value) (v : Value) (hv : valOf P t vs = v) (hn : vs.length = ts.length) (hc : ∀ i, i < vs.length → w.cell? ⟨b, off + i, none⟩ = some (vs.getD i undef)) (h1 : isAggB P t = false → ts.length = 1) :
    (execOp a.eval o).run P w = .ok (.value v) w := by
  have h := run_loadVar hl w b off vs hn (fun i hi => by rw [← cell_cellH]; exact hc i hi) h1
  rw [hv] at h
  simp [execOp, hop, hx, Instr.loadAt, Instr.sureAddr, h, Result.andThen]
/-- a new variable -/
theorem run_opAlloc {o : Oper} (w : World) (t : TypeId) (hop : o.op = Op.alloc t) {z : Value} (hz : ∀ w, (zeroValue t).run P w = .ok z w) : (execOp a.eval o).run P w = .ok (.value (.pointer (some ⟨w.heap.size, 0, none⟩))) (w.alloc (.cells z.cells t)) := by
  simp [execOp, hop, Instr.alloc, hz, newVar, newRow, Result.andThen]
/-- a struct, or a part of one, is laid into a variable -/
theorem run_opStore {o : Oper} (w : World) (x y : Operand) (t : TypeId) (hop : o.op = Op.store t x y) {ts : List LTy} (hl : leaves P t = some ts) (b off : Nat) (cs : Array Value) (T : TypeId) (hb : w.heap[b]? = some (.cells cs T (0, 0)))
    (v : Value) (vs : List Value) (hx : a.eval x = .pointer (some ⟨b, off, none⟩)) (hy : a.eval y = v) (hv : v.cells = vs.toArray) (hn : vs.length = ts.length) (hcs : off + vs.length ≤ cs.size) (h1 : ∀ v, v ∈ vs → v.oneCell' = true) :
    ∃ w', (execOp a.eval o).run P w = .ok .skip w' ∧ w'.heap.size = w.heap.size ∧ (∀ k, k ≠ b → w'.heap[k]? = w.heap[k]?) ∧ w'.heap[b]? = some (.cells (putArr cs off vs) T (0, 0)) ∧ Env w w' := by
  obtain ⟨w', s1, s2, s3, s4, s5⟩ := run_storeVar (P := P) (o := off) hl hb (fun k _ h => by omega) (v := v) (vs := vs) hv hn hcs h1
  refine ⟨w', ?_, s2, s3, s4, s5⟩
  simp [execOp, hop, hx, hy, Instr.storeAt, Instr.sureAddr, s1, Result.andThen]
theorem H_store (i : Nat) {o : Oper} (ho : ops[i]? = some o) (hr : Region.ready md ops listed = [i]) (hw : Region.wanted o (yielded ops a.tmps) = true) (hd : o.dst = none)
    (x y : Operand) (t : TypeId) (hop : o.op = Op.store t x y) {ts : List LTy} (hl : leaves P t = some ts) (b off : Nat) (cs : Array Value) (T : TypeId) (hb : w.heap[b]? = some (.cells cs T (0, 0)))
    (v : Value) (vs : List Value) (hx : a.eval x = .pointer (some ⟨b, off, none⟩)) (hy : a.eval y = v) (hv : v.cells = vs.toArray) (hn : vs.length = ts.length) (hcs : off + vs.length ≤ cs.size) (h1 : ∀ v, v ∈ vs → v.oneCell' = true)
    (h : ∀ w2, w2.heap.size = w.heap.size → (∀ k, k ≠ b → w2.heap[k]? = w.heap[k]?) → w2.heap[b]? = some (.cells (putArr cs off vs) T (0, 0)) → Env w w2 → S w2 ∧ wpAnyH P md ops Q S fuel (listed.setIfInBounds i true) a w2) :
    wpAnyH P md ops Q S (fuel + 1) listed a w := by
  obtain ⟨w2, e1, e2, e3, e4, e5⟩ := run_opStore (a := a) w x y t hop hl b off cs T hb v vs hx hy hv hn hcs h1
  obtain ⟨hS, hh⟩ := h w2 e2 e3 e4 e5
  exact H_skip i ho hr hw hd e1 hS hh
theorem H_alloc (i : Nat) (d : Option Tmp) {o : Oper} (ho : ops[i]? = some o) (hd : o.dst = d) (hr : Region.ready md ops listed = [i]) (hw : Region.wanted o (yielded ops a.tmps) = true)
    (t : TypeId) (hop : o.op = Op.alloc t) {z : Value} (hz : ∀ w, (zeroValue t).run P w = .ok z w) (m : Nat) (hzn : z.cells.size = m) (B : Nat) (hB : w.heap.size = B)
    (h : ∀ w2 cs, w2.heap.size = B + 1 → (∀ k, k < B → w2.heap[k]? = w.heap[k]?) → cs.size = m → w2.heap[B]? = some (.cells cs t (0, 0)) → Env w w2 → S w2 ∧ wpAnyH P md ops Q S fuel (listed.setIfInBounds i true) (a.put d (.pointer (some ⟨B, 0, none⟩))) w2) :
    wpAnyH P md ops Q S (fuel + 1) listed a w := by
  subst hB
  obtain ⟨hS, hh⟩ := h (w.alloc (.cells z.cells t)) z.cells (by simp) (fun k hk => Below.heap_alloc w _ k hk) hzn (heap_alloc_new w _) ⟨rfl, rfl⟩
  exact H_eff i d ho hd hr hw (run_opAlloc w t hop hz) hS hh
theorem H_wp (i : Nat) {o : Oper} (ho : ops[i]? = some o) (hr : Region.ready md ops listed = [i]) (hw : Region.wanted o (yielded ops a.tmps) = true)
    (h : ∀ K : Act → World → Prop, (∀ a' w', S w' → wpAnyH P md ops Q S fuel (listed.setIfInBounds i true) a' w' → K a' w') → Oper.wp P o a w K Q) : wpAnyH P md ops Q S (fuel + 1) listed a w := by
  refine wpAnyH_ready hr (by simp) (AllReadyH.cons ho (fun K hK => ?_) AllReadyH.nil)
  rw [if_pos hw]
  exact h K (fun a' w' hS hh => hK.out _ _ hS (fun _ => hh))
/-- two may come up -/
theorem H_two (i j : Nat) (d d2 : Option Tmp) {o o2 : Oper} {v v2 : Value} {w2 : World} (ho : ops[i]? = some o) (hd : o.dst = d) (ho2 : ops[j]? = some o2) (hd2 : o2.dst = d2) (hr : Region.ready md ops listed = [i, j]) (hw : Region.wanted o (yielded ops a.tmps) = true)
    (hw2 : Region.wanted o2 (yielded ops a.tmps) = true) (hrun : (execOp a.eval o).run P w = .ok (.value v) w) (hrun2 : (execOp a.eval o2).run P w = .ok (.value v2) w2) (hS : S w) (hS2 : S w2)
    (h : wpAnyH P md ops Q S fuel (listed.setIfInBounds i true) (a.put d v) w) (h2 : wpAnyH P md ops Q S fuel (listed.setIfInBounds j true) (a.put d2 v2) w2) : wpAnyH P md ops Q S (fuel + 1) listed a w := by
  subst hd hd2
  refine wpAnyH_ready hr (by simp) (AllReadyH.cons ho (fun K hK => ?_) (AllReadyH.cons ho2 (fun K hK => ?_) AllReadyH.nil))
  · rw [if_pos hw]
    unfold Oper.wp
    rw [hrun, Oper.upon_value]
    exact hK.out _ _ hS (fun _ => h)
  · rw [if_pos hw2]
    unfold Oper.wp
    rw [hrun2, Oper.upon_value]
    exact hK.out _ _ hS2 (fun _ => h2)
/-- a slice of one struct -/
theorem run_opBuild1 {o : Oper} (w : World) (t : TypeId) (x : Operand) (hop : o.op = Op.buildSlice t 1 #[(0, x)]) {e : TypeId} (hu : P.underlying t = some (.slice e)) {ts : List LTy} (hl : leaves P e = some ts) {z : Value} (hz : ∀ w, (zeroValue e).run P w = .ok z w)
    (hzn : z.cells.size = ts.length) (h0 : ts.length ≠ 0) (hb : ts.length ≤ 100000) (vs : List Value) (hx : a.eval x = .agg vs.toArray) (hn : vs.length = ts.length) :
    (execOp a.eval o).run P w = .ok (.value (.slice (some ⟨w.heap.size, 0, none⟩) 1 1)) (w.alloc (.cells vs.toArray e)) := by
  have hrow : (newRow e vs.toArray).run P w = .ok ⟨w.heap.size, 0, none⟩ (w.alloc (.cells vs.toArray e)) := rfl
  simp only [execOp, hop, Instr.buildSlice, Sem.run_bind, run_underlying hu, Result.andThen_ok, run_sizeOf hl]
  rw [Sem.run_ite, if_neg (by omega), if_neg (by omega)]
  simp only [Sem.run_bind, hz, Sem.run_pure, Result.andThen_ok]
  have hf : ∀ c : Array Value, c.size = ts.length → Instr.fill (fun i => some (i * ts.length, ts.length)) c [(0, a.eval x)] = some vs.toArray := fun c hc => by
    rw [hx]
    unfold Instr.fill
    have hcond : ¬ (decide ((Value.agg vs.toArray).cells.size ≠ ts.length) || decide (0 * ts.length + (Value.agg vs.toArray).cells.size > c.size)) = true := by
      have : (Value.agg vs.toArray).cells.size = vs.length := by show vs.toArray.size = _; simp
      simp only [Bool.or_eq_true, decide_eq_true_eq]; omega
    have hfold : ((Value.agg vs.toArray).cells.zipIdx.foldl (fun cs (x : Value × Nat) => cs.setIfInBounds (0 * ts.length + x.2) x.1) c) = vs.toArray := by
      have e := fold_put vs c (0 * ts.length) 0 (by omega)
      have e2 : putArr c (0 * ts.length + 0) vs = vs.toArray := by
        unfold putArr putAt
        rw [Nat.zero_mul, Nat.add_zero, List.take_zero, List.nil_append, Nat.zero_add, List.drop_of_length_le (by rw [Array.length_toList]; omega), List.append_nil]
      refine Eq.trans ?_ (e.trans e2)
      show (vs.toArray.zipIdx.foldl (fun cs (x : Value × Nat) => cs.setIfInBounds (0 * ts.length + x.2) x.1) c) = _
      simp
    simp only at hcond ⊢
    rw [if_neg (by simpa using hcond), hfold]
    rfl
  have := hf ((Array.range (1 * ts.length)).map fun x => z.cells[x % z.cells.size]!) (by simp)
  rw [show (Array.map (fun (y : Nat × Operand) => (y.1, a.eval y.2)) #[(0, x)]).toList = [(0, a.eval x)] by simp, this]
  rfl
theorem putArr_all {cs : Array Value} {vs : List Value} (h : cs.size = vs.length) : putArr cs 0 vs = vs.toArray := by
  unfold putArr putAt
  rw [List.take_zero, List.nil_append, Nat.zero_add, List.drop_of_length_le (by rw [Array.length_toList]; omega), List.append_nil]
theorem run_opCall (hP : NoCount P) {o : Oper} (w : World) (f : FuncId) (args : Array Operand) (ats : Array TypeId) (hop : o.op = Op.call { callee := Callee.value (.func f), args := args, argTypes := ats }) {fn : Func} (hf : P.funcs[f]? = some fn) {c : Code} (hb : fn.body = some c) (avs : List Value) (hav : args.toList.map a.eval = avs) :
    (execOp a.eval o).run P w = .ok (.enter f avs.toArray) w := by
  have hav : args.map a.eval = avs.toArray := by
    rw [← hav]
    apply Array.ext'
    simp
  rw [← hav]
  have hr := run_callFunc hP hf hb (args.map a.eval) w
  simp [execOp, hop, resolve, invoke, Act.eval, Deferred.ofValue, hr]
theorem fill_next {place : Nat → Option (Nat × Nat)} {c : Array Value} {i off n : Nat} {u : Value} {vs : List Value} {rest : List (Nat × Value)} (hp : place i = some (off, n)) (hu : u.cells = vs.toArray) (hn : vs.length = n) (hc : off + n ≤ c.size) :
    Instr.fill place c ((i, u) :: rest) = Instr.fill place (putArr c off vs) rest := by
  have hus : u.cells.size = n := by rw [hu]; simpa using hn
  conv => lhs; unfold Instr.fill
  rw [hp]
  have hcond : ¬ (decide (u.cells.size ≠ n) || decide (off + u.cells.size > c.size)) = true := by
    simp only [Bool.or_eq_true, decide_eq_true_eq]; omega
  have hfold : (u.cells.zipIdx.foldl (fun cs (x : Value × Nat) => cs.setIfInBounds (off + x.2) x.1) c) = putArr c off vs := by
    rw [hu]
    have := fold_put vs c off 0 (by omega)
    rw [Nat.add_zero] at this
    rw [← this]
    simp
  simp only at hcond ⊢
  rw [if_neg (by simpa using hcond), hfold]
theorem fill_nil {place : Nat → Option (Nat × Nat)} {c : Array Value} : Instr.fill place c [] = some c := by unfold Instr.fill; rfl
theorem putAt_next {α : Type} (A B r : List α) : putAt (A ++ r) A.length B = (A ++ B) ++ r.drop B.length := by
  unfold putAt
  rw [List.take_left, ← List.drop_drop, List.drop_left]
theorem run_opBuildS {o : Oper} (w : World) (t : TypeId) (parts : Array (Nat × Operand)) (hop : o.op = Op.build t parts) {fs : Array Field} (hu : P.underlying t = some (.struct fs)) {z : Array Value} (hz : ∀ w, (zeroValue t).run P w = .ok (.agg z) w)
    (hall : fs.toList.all (fun f => (P.info? f.type).isSome) = true) (pl : Array (Nat × Nat)) (hpl : fs.map (fun f => (f.offset, P.cellsOf f.type)) = pl) (c : Array Value)
    (hf : Instr.fill (fun i => pl[i]?) z (parts.map fun x => (x.1, a.eval x.2)).toList = some c) : (execOp a.eval o).run P w = .ok (.value (.agg c)) w := by
  have hplaces : (fs.mapM fun (f : Field) => (do pure (f.offset, ← sizeOf f.type) : Sem (Nat × Nat))).run P w = .ok (fs.map fun (f : Field) => (f.offset, P.cellsOf f.type)) w := by
    refine run_mapM fs fun f hf => ?_
    have := List.all_eq_true.1 hall f hf
    cases hi : P.info? f.type with
    | none => simp [hi] at this
    | some inf => simp [sizeOf, typeInfo, hi, Program.cellsOf]
  subst hpl
  simp only [execOp, hop, Instr.build, Sem.run_bind, hz, Result.andThen_ok, run_underlying hu, hplaces]
  rw [show (Value.agg z).cells = z from rfl, hf]
  simp only [Sem.run_pure, Result.andThen_ok]
theorem wpList_storeAt {rest : List Oper} {o : Oper} (hg : o.guard = none) (x y : Operand) (t : TypeId) (hop : o.op = Op.store t x y) (hd : o.dst = none) {ts : List LTy} (hl : leaves P t = some ts) (b off : Nat) (cs : Array Value) (T : TypeId) (hb : w.heap[b]? = some (.cells cs T (0, 0)))
    (v : Value) (vs : List Value) (hx : a.eval x = .pointer (some ⟨b, off, none⟩)) (hy : a.eval y = v) (hv : v.cells = vs.toArray) (hn : vs.length = ts.length) (hcs : off + vs.length ≤ cs.size) (h1 : ∀ v, v ∈ vs → v.oneCell' = true)
    (h : ∀ w2, w2.heap.size = w.heap.size → (∀ k, k ≠ b → w2.heap[k]? = w.heap[k]?) → w2.heap[b]? = some (.cells (putArr cs off vs) T (0, 0)) → Env w w2 → wpList P ops Q rest a w2) : wpList P ops Q (o :: rest) a w := by
  obtain ⟨w2, e1, e2, e3, e4, e5⟩ := run_opStore (a := a) w x y t hop hl b off cs T hb v vs hx hy hv hn hcs h1
  refine wpList_plain hg fun K2 hK2 => ?_
  unfold Oper.wp
  rw [e1, Oper.upon_skip, hd]
  exact hK2 _ _ (h w2 e2 e3 e4 e5)
theorem H_mapUpdate {H : Type} (i : Nat) (d : Option Tmp) {o : Oper} (ho : ops[i]? = some o) (hdst : o.dst = d) (hr : Region.ready md ops listed = [i]) (hw : Region.wanted o (yielded ops a.tmps) = true) (m x v : Operand) (t : TypeId) (hop : o.op = Op.mapUpdate t m x v)
    (k e : TypeId) (K : Keyed P k) (ht : P.underlying t = some (.map k e)) (R : Value → Option (DataW H × List MemPlace)) (b n : Nat) (D : DataW H)
    (hm : a.eval m = .map (some b)) (hown : w.ownsMap P k R b n D) (hn : n < maxLen) (key val : Value) (kl : Lit) (hx : a.eval x = key) (hv : a.eval v = val) (hkey : keyOf P k key = some kl)
    (dd : DataW H) (ps : List MemPlace) (hval : R val = some (dd, ps))
    (hK : ∀ w', w'.ownsMap P k R b (n + 1) (D.put kl dd) → w.grownBy w' (some b) → S w' ∧ wpAnyH P md ops Q S fuel (listed.setIfInBounds i true) (a.put d undef) w') : wpAnyH P md ops Q S (fuel + 1) listed a w := by
  subst hdst
  obtain ⟨w', hrun, r1, r2⟩ := hown.update K ht hn hkey hval
  obtain ⟨hS, hh⟩ := hK w' r1 r2
  refine H_wp i ho hr hw (fun K' hK' => ?_)
  unfold Oper.wp
  simp [execOp, hop, hm, hx, hv, hrun, Result.andThen]
  exact hK' _ _ hS hh
end
end Go.AI
