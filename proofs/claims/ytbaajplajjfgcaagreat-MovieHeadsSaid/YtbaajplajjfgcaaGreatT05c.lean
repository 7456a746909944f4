/- deflate.Raw walked: what is asked of its callees, and the map of places. -/
import Derived.Test.YtbaajplajjfgcaaGreatT05a
import Derived.Test.YtbaajplajjfgcaaGreatT05b
import Derived.Test.YtbaajplajjfgcaaGreatAiW
import Derived.Test.YtbaajplajjfgcaaGreatP05
import Derived.WideKeyArr
import Derived.WalkKit
import Derived.KernelRfl
set_option linter.unusedVariables false
set_option linter.unusedSimpArgs false
namespace Go.AI
open Go Go.RowKit Go.Proofs Go.Maps
open Go.WideMaps (ArrKey)
open Go.ChangeShapes (lits)

theorem noCountD : NoCount Tryz.prog := noCount_of (by kernel_rfl)
theorem leaves301 : leaves Tryz.prog 174 = some [.sl 5, .int .i64] := by kernel_rfl
theorem leaves5 : leaves Tryz.prog 5 = some [.int .u8] := by kernel_rfl
theorem leaves3i : leaves Tryz.prog 3 = some [.int .i64] := by kernel_rfl
theorem own301 : ann.ownT 174 5 = true := by kernel_rfl
/-! ### keys of three bytes -/
theorem arr304 : ArrKey Tryz.prog 178 5 3 := ⟨Tryz.underlying178, by kernel_rfl, by kernel_rfl, by kernel_rfl⟩
theorem keyed304 : Keyed Tryz.prog 178 := Keyed.of_law arr304.law
abbrev U8 (a : Int) : Prop := 0 ≤ a ∧ a ≤ 255
theorem wf8 {a : Int} (h : U8 a) : (Lit.int .u8 a).wf = true := by
  have h : 0 ≤ a ∧ a ≤ 255 := h
  simp only [Lit.wf, Bool.and_eq_true, decide_eq_true_eq]
  exact h
abbrev triV (a b c : Int) : Value := .agg #[.int .u8 a, .int .u8 b, .int .u8 c]
def triK (a b c : Int) : Lit := .string (keyBytes [.int .u8 a, .int .u8 b, .int .u8 c])
theorem keyTri {a b c : Int} (ha : U8 a) (hb : U8 b) (hc : U8 c) : keyOf Tryz.prog 178 (triV a b c) = some (triK a b c) := by
  have hkt : Tryz.prog.keyType 178 = true := by kernel_rfl
  obtain ⟨m, hm⟩ : ∃ m, Tryz.prog.types.size = m + 1 := ⟨Tryz.prog.types.size - 1, by kernel_rfl⟩
  have c3 : Tryz.prog.cellsOf 178 = 3 := by kernel_rfl
  have c1 : Tryz.prog.cellsOf 5 = 1 := by kernel_rfl
  unfold keyOf
  simp only [Tryz.underlying178]
  rw [if_pos (by simp [hkt, Value.formed, Tryz.underlying178, c3]), hm]
  unfold Program.keyLits
  simp only [Tryz.underlying178, Value.cells]
  rw [if_pos (by rw [c3]; rfl), c1]
  have key : ∀ x : Int, U8 x → Program.keyLits Tryz.prog (m + 1) 5 [Value.int .u8 x] = some [.int .u8 x] := fun x hx => by
    simp [Program.keyLits, Tryz.underlying5, wf8 hx]
  show Option.map _ (Option.map _ (List.mapM _ (List.range 3))) = _
  simp only [show List.range 3 = [0, 1, 2] from rfl, List.mapM_cons, List.mapM_nil]
  simp [key a ha, key b hb, key c hc, triK]
theorem triK_inj {a b c a' b' c' : Int} (ha : U8 a) (hb : U8 b) (hc : U8 c) (ha' : U8 a') (hb' : U8 b') (hc' : U8 c') (h : triK a b c = triK a' b' c') : a = a' ∧ b = b' ∧ c = c' := by
  have h1 := keyTri ha hb hc
  have h2 := keyTri ha' hb' hc'
  rw [h] at h1
  have := keyed304.inj h1 h2
  simp only [triV, Value.agg.injEq, Array.mk.injEq, List.cons.injEq, Value.int.injEq, true_and, and_true] at this
  exact this
/-! ### operations on entries -/
section
variable {P : Program} {w w1 : World} {ops : Array Oper} {rest : List Oper} {o : Oper} {a : Act} {Q : Exit → Act → World → Prop}
theorem wpList_entryStore (hg : o.guard = none) (m x v : Operand) (t : TypeId) (hop : o.op = Op.entryStore t m x v) {mv st val : Value} (hm : a.eval m = mv) (hx : a.eval x = st) (hv : a.eval v = val) (hrun : (Instr.entryStore t mv st val).run P w = .ok () w1) (hK : wpList P ops Q rest (a.put o.dst undef) w1) : wpList P ops Q (o :: rest) a w := by
  refine wpList_plain hg fun K' hK' => ?_
  unfold Oper.wp
  simp [execOp, hop, hm, hx, hv, hrun, Result.andThen]
  exact hK' _ _ hK
end
/-! ### what is reckoned -/
def bAt (s : List UInt8) (k : Nat) : Int := bt s (k : Nat)
theorem bAt_u8 (s : List UInt8) (k : Nat) : U8 (bAt s k) := by
  unfold bAt bt
  have : (s.getD (Int.toNat ((k : Nat) : Int)) 0).toNat < 256 := UInt8.toNat_lt _
  exact ⟨by omega, by omega⟩
/-- the places ahead of one where the same three bytes begin -/
def posL (s : List UInt8) (i : Nat) (a b c : Int) : List Int := ((List.range i).filter fun k => decide (k + 3 ≤ s.length) && (bAt s k == a && (bAt s (k + 1) == b && bAt s (k + 2) == c))).map fun k => ((k : Nat) : Int)
theorem posL_mem {s : List UInt8} {i : Nat} {a b c z : Int} (h : z ∈ posL s i a b c) : 0 ≤ z ∧ z < i := by
  unfold posL at h
  rw [List.mem_map] at h
  obtain ⟨k, hk, rfl⟩ := h
  have := List.mem_range.1 (List.mem_filter.1 hk).1
  omega
theorem posL_len (s : List UInt8) (i : Nat) (a b c : Int) : (posL s i a b c).length ≤ i := by
  unfold posL
  rw [List.length_map]
  have := List.length_filter_le (fun k => decide (k + 3 ≤ s.length) && (bAt s k == a && (bAt s (k + 1) == b && bAt s (k + 2) == c))) (List.range i)
  rwa [List.length_range] at this
theorem posL_next (s : List UInt8) (i : Nat) (a b c : Int) : posL s (i + 1) a b c = posL s i a b c ++ (if i + 3 ≤ s.length ∧ bAt s i = a ∧ bAt s (i + 1) = b ∧ bAt s (i + 2) = c then [((i : Nat) : Int)] else []) := by
  unfold posL
  rw [List.range_succ, List.filter_append, List.map_append]
  congr 1
  rw [List.filter_cons]
  by_cases h : i + 3 ≤ s.length ∧ bAt s i = a ∧ bAt s (i + 1) = b ∧ bAt s (i + 2) = c
  · rw [if_pos h, if_pos (by simp only [Bool.and_eq_true, decide_eq_true_eq, beq_iff_eq]; exact h)]
    rfl
  · rw [if_neg h, if_neg (by simp only [Bool.and_eq_true, decide_eq_true_eq, beq_iff_eq]; exact h)]
    rfl
/-- what the map holds at a key -/
def datM (zs : List Int) : DataW Value := if zs = [] then .nil else .slice (lits .i64 zs) []
theorem datM_row {v : Value} {zs ys : List Int} {w : World} {base : Nat} {e : TypeId} (ho : w.ownsInts base e .i64 v zs) (h : datM ys = rowDatum .i64 v zs) : zs = ys := by
  unfold datM at h
  rcases ho.datum (H := Value) with ⟨h1, h2⟩ | h1
  · rw [h1] at h
    by_cases hy : ys = []
    · rw [h2, hy]
    · rw [if_neg hy] at h; cases h
  · rw [h1] at h
    by_cases hy : ys = []
    · rw [if_pos hy] at h; cases h
    · rw [if_neg hy] at h
      have h : (lits .i64 ys : List (DataW Value)) = lits .i64 zs := by injection h
      unfold lits at h
      exact ((List.map_inj_right (fun a b hab => by cases hab; rfl)).1 h).symm
/-- the map of places -/
def MapAt (s : List UInt8) (w : World) (mb base i : Nat) : Prop := ∃ D : DataW Value, w.ownsGroups Tryz.prog 178 base 3 .i64 mb i D ∧ ∀ a b c, U8 a → U8 b → U8 c → D.atKey (triK a b c) .nil = datM (posL s i a b c)
theorem groups_mono {H : Type} {P : Program} {k e : TypeId} {q : IntKind} {w : World} {base b n m : Nat} {D : DataW H} (h : w.ownsGroups P k base e q b n D) (hm : n ≤ m) : w.ownsGroups P k base e q b m D := by
  obtain ⟨es, clock, h1, h2, h3, h4, h5, h6, h7⟩ := h
  exact ⟨es, clock, h1, h2, Nat.le_trans h3 hm, h4, h5, fun x hx zs ho => Nat.le_trans (h6 x hx zs ho) hm, h7⟩
theorem MapAt.skip {s : List UInt8} {w : World} {mb base i : Nat} (h : MapAt s w mb base i) (hi : s.length < i + 3) : MapAt s w mb base (i + 1) := by
  obtain ⟨D, h1, h2⟩ := h
  refine ⟨D, groups_mono h1 (Nat.le_succ i), fun a b c ha hb hc => ?_⟩
  rw [h2 a b c ha hb hc, posL_next, if_neg (fun h => by omega), List.append_nil]
theorem MapAt.kept {s : List UInt8} {w w' : World} {mb base i : Nat} {No : Nat → Prop} (h : MapAt s w mb base i) (hN : w.Shuns mb No) (hs : w.heap.size ≤ w'.heap.size) (hm : mb < w.heap.size) (hno : ¬ No mb) (hk : ∀ k, k < w.heap.size → ¬ No k → w'.heap[k]? = w.heap[k]?) : MapAt s w' mb base i := by
  obtain ⟨D, ⟨es, clock, hb, F, hsz, rfl, hbb, hlen, hap⟩, h2⟩ := h
  have own : ∀ x ∈ es.toList, ∀ zs, w.ownsInts base 3 .i64 x.val zs → w'.ownsInts base 3 .i64 x.val zs := fun x hx zs ho => by
    refine ⟨⟨ho.1.1, ?_⟩, ho.2⟩
    rcases ho.1.2 with h | ⟨g, cap, cur, h1, h2, h3, h4⟩
    · exact .inl h
    · refine .inr ⟨g, cap, cur, h1, h2, (hk g (Array.getElem?_eq_some_iff.1 h3).1 (hN es clock hb x hx g (by rw [h1]; rfl))).trans h3, h4⟩
  obtain ⟨F1, hmap, _⟩ := F.stay (R' := rowElem w' base 3 .i64) (fun x hx z hz => by
    obtain ⟨zs, ho, rfl⟩ := rowElem_inv hz
    exact rowElem_mk (own x hx zs ho))
  refine ⟨_, ⟨es, clock, (hk mb hm hno).trans hb, F1, hsz, by rw [hmap], hbb, fun x hx zs ho => ?_, hap⟩, h2⟩
  obtain ⟨y, hy⟩ := F.reads x hx
  obtain ⟨z, hz, _⟩ := WideElems.rd_val hy
  obtain ⟨zs0, ho0, _⟩ := rowElem_inv hz
  rw [ho.unique (own x hx zs0 ho0)]
  exact hlen x hx zs0 ho0
/-! ### callees -/
theorem ann_prim : CallOk Tryz.prog ann ann.prim := noPrim rfl
/-- the three bytes -/
def triA (s : List UInt8) (i : Nat) : Int × Int × Int × Bool := if i + 3 ≤ s.length then (bAt s i, bAt s (i + 1), bAt s (i + 2), true) else (0, 0, 0, false)
theorem at_calls (s : ByteArray) (i : Nat) (hs : s.data.toList.length ≤ 262144) (hi : i ≤ s.data.toList.length) (w : World) : Calls Tryz.prog 74 #[.string s, .int .i64 i] w fun e w' =>
    e = .returned (.tuple #[triV (triA s.data.toList i).1 (triA s.data.toList i).2.1 (triA s.data.toList i).2.2.1, .bool (triA s.data.toList i).2.2.2]) ∧ Bel w.heap.size w w' := by
  generalize hl : s.data.toList = l at hs hi ⊢
  have h : cW f_deflate_at [.s l, .i i] [] = some ([.i (triA l i).1, .i (triA l i).2.1, .i (triA l i).2.2.1, .b (triA l i).2.2.2], []) := by
    unfold triA
    by_cases h3 : i + 3 ≤ l.length
    · rw [if_pos h3, at3_yes l hs (by omega) (by omega)]
      rfl
    · rw [if_neg h3, at3_no l hs (by omega) (by omega)]
  generalize triA l i = T at h ⊢
  obtain ⟨n, hn⟩ := (callW_iff _ _).1 h
  have := plain_calls noCountD ann_prim hn Tryz.func74 (c := Tryz.f74.body.getD .skip) (by kernel_rfl) (by kernel_rfl) (avs := [.v (.str l), .v (.int .i64 i)]) (by kernel_rfl) (by kernel_rfl) (args := [.string s, .int .i64 i]) (w := w) rfl (fun j hj => by
    match j, hj with
    | 0, _ => exact .v _ _ ⟨s, rfl, hl⟩
    | 1, _ => exact .v _ _ rfl)
  refine this.mono ?_
  rintro e w' ⟨v, rfl, hb, vs, rfl, hvs⟩
  obtain ⟨g1, g2⟩ := hvs [.agg [.int .u8 T.1, .int .u8 T.2.1, .int .u8 T.2.2.1], .v (.bool T.2.2.2)] [] 0 (by kernel_rfl)
  match vs, g1 with
  | [v1, v2], _ =>
    have q1 : VR Tryz.prog _ _ _ (.agg [.int .u8 T.1, .int .u8 T.2.1, .int .u8 T.2.2.1]) v1 := g2 0 (by simp)
    have q2 : v2 = .bool T.2.2.2 := (g2 1 (by simp)).leaf
    subst q2
    refine ⟨?_, hb⟩
    cases q1 with
    | agg _ us hl hu =>
      match us, hl with
      | [u1, u2, u3], _ =>
        have a1 : u1 = .int .u8 T.1 := hu 0 (by simp)
        have a2 : u2 = .int .u8 T.2.1 := hu 1 (by simp)
        have a3 : u3 = .int .u8 T.2.2.1 := hu 2 (by simp)
        rw [a1, a2, a3]
        rfl
def rowsI (zs : List Int) : List (List PV) := zs.map fun z => [PV.i z]
/-- the best run -/
noncomputable def bestF (s : List UInt8) (i : Nat) (zs : List Int) : Int × Int :=
  match cW f_deflate_best [.s s, .i i, .l (rowsI zs)] [] with
  | some ([.i n, .i d], _) => (n, d)
  | _ => (0, 0)
theorem bestF_c (s : List UInt8) {i : Nat} {zs : List Int} (hs : s.length ≤ 262144) (hi : i ≤ s.length) (hz : ∀ z, z ∈ zs → 0 ≤ z ∧ z < i) (hl : zs.length ≤ 262144) : cW f_deflate_best [.s s, .i i, .l (rowsI zs)] [] = some ([.i (bestF s i zs).1, .i (bestF s i zs).2], []) ∧ RunOk s i (bestF s i zs).1 := by
  obtain ⟨n, d, h, hr⟩ := best_c s (rowsI zs) hs (show (0 : Int) ≤ (i : Nat) by omega) (by omega) (fun e he => by
    obtain ⟨z, hz', rfl⟩ := List.mem_map.1 he
    exact ⟨z, rfl, hz z hz'⟩) (by unfold rowsI; rw [List.length_map]; exact hl)
  unfold bestF
  rw [h]
  exact ⟨rfl, hr⟩
theorem best_calls (s : ByteArray) {i : Nat} {zs : List Int} {v : Value} {base : Nat} {w : World} (hs : s.data.toList.length ≤ 262144) (hi : i ≤ s.data.toList.length) (hz : ∀ z, z ∈ zs → 0 ≤ z ∧ z < i) (hl : zs.length ≤ 262144) (ho : w.ownsInts base 3 .i64 v zs) :
    Calls Tryz.prog 75 #[.string s, .int .i64 i, v] w fun e w' => e = .returned (.tuple #[.int .i64 (bestF s.data.toList i zs).1, .int .i64 (bestF s.data.toList i zs).2]) ∧ Bel w.heap.size w w' := by
  have h := (bestF_c s.data.toList hs hi hz hl).1
  generalize hls : s.data.toList = l at *
  generalize bestF l i zs = T at h ⊢
  obtain ⟨n, hn⟩ := (callW_iff _ _).1 h
  have := plain_calls noCountD ann_prim hn Tryz.func75 (c := Tryz.f75.body.getD .skip) (by kernel_rfl) (by kernel_rfl) (avs := [.v (.str l), .v (.int .i64 i), .v (.sl 3 (rowsI zs))]) (by kernel_rfl) (by kernel_rfl) (args := [.string s, .int .i64 i, v]) (w := w) rfl (fun j hj => by
    match j, hj with
    | 0, _ => exact .v _ _ ⟨s, rfl, hls⟩
    | 1, _ => exact .v _ _ rfl
    | 2, _ =>
      refine .v _ _ ?_
      show RP Tryz.prog _ _ (.sl 3) (.l (rowsI zs)) v
      rcases ho.1.2 with ⟨rfl, h0⟩ | ⟨g, cap, cur, rfl, _, h2, h3, _, _, h6⟩
      · rw [List.length_eq_zero_iff.1 h0]
        exact .nil _ _
      · have hlen : (rowsI zs).length = zs.length := List.length_map ..
        have hcur : ∀ j, j < zs.length → cur[j]? = some (.int .i64 (zs.getD j 0)) := fun j hj => by
          have e1 : (cur.toList.take (zs.length * 1))[j]? = (zs.map (Value.int .i64))[j]? := by rw [h6]
          rw [List.getElem?_take_of_lt (by omega), List.getElem?_map, Array.getElem?_toList] at e1
          rw [e1]
          simp [List.getD, List.getElem?_eq_getElem hj]
        rw [← hlen]
        refine RP.sl 3 [.int .i64] (rowsI zs) g 0 cap (fun j => .int .i64 (zs.getD j 0)) (by rw [hlen]; exact h3) leaves3i (Array.getElem?_eq_some_iff.1 h2).1 (fun i hi => ?_) (fun j hj => ?_) (fun i j hi hj => ?_)
        · rw [hlen] at hi
          unfold rowsI
          simp [List.getD, List.getElem?_map, List.getElem?_eq_getElem hi]
        · rw [hlen, List.length_singleton, Nat.mul_one] at hj
          rw [Nat.zero_add, cellH_of h2]
          exact hcur j hj
        · rw [hlen] at hi
          rw [List.length_singleton] at hj ⊢
          obtain rfl : j = 0 := by omega
          have e1 : ((rowsI zs).getD i []).getD 0 PV.u = .i (zs.getD i 0) := by
            unfold rowsI
            simp [List.getD, List.getElem?_map, List.getElem?_eq_getElem hi]
          rw [Nat.mul_one, Nat.add_zero, e1]
          exact .int _ _)
  refine this.mono ?_
  rintro e w' ⟨v, rfl, hb, vs, rfl, hvs⟩
  obtain ⟨g1, g2⟩ := hvs [.v (.int .i64 T.1), .v (.int .i64 T.2)] [] 0 (by kernel_rfl)
  match vs, g1 with
  | [v1, v2], _ =>
    have q1 : v1 = .int .i64 T.1 := (g2 0 (by simp)).leaf
    have q2 : v2 = .int .i64 T.2 := (g2 1 (by simp)).leaf
    rw [q1, q2]
    exact ⟨rfl, hb⟩
/-- what a call of the writer leaves -/
noncomputable def g5 (f : FuncId) (ps : List PV) (st : List (List PV) × Int) : List (List PV) × Int :=
  match cW f (.u :: ps) (W5 st.1 st.2) with
  | some (_, [(_, [.l es, .i fr])]) => (es, fr)
  | _ => st
theorem g5_c {f : FuncId} {ps : List PV} {st : List (List PV) × Int} {n : Nat} (h : Grown (cW f (.u :: ps) (W5 st.1 st.2)) n) : cW f (.u :: ps) (W5 st.1 st.2) = some ([], W5 (g5 f ps st).1 (g5 f ps st).2) ∧ (Wk (g5 f ps st).1 (g5 f ps st).2 ∧ (g5 f ps st).1.length ≤ n) := by
  obtain ⟨es, fr, h1, h2⟩ := h
  unfold g5
  rw [h1]
  exact ⟨rfl, h2⟩
/-- what lies in memory behind a call of the writer -/
def WOut (w w' : World) (wb : Nat) (rb : Option Nat) (st : List (List PV) × Int) : Prop := Env w w' ∧ w.heap.size ≤ w'.heap.size ∧ (∀ b, b < w.heap.size → b ≠ wb → some b ≠ rb → w'.heap[b]? = w.heap[b]?) ∧
  ∃ rb', WBx w' wb rb' st.1 st.2 ∧ (rb' = none ∨ rb' = rb ∨ ∃ g, rb' = some g ∧ w.heap.size ≤ g)
theorem writer_calls {f : FuncId} {ps : List PV} {st : List (List PV) × Int} {N : Nat} (h : Grown (cW f (.u :: ps) (W5 st.1 st.2)) N) {fn : Func} {c : Code} (hf : Tryz.prog.funcs[f]? = some fn) (hbody : fn.body = some c) (hfree : fn.nfree = 0) (hres : fn.resultTypes.toList = [])
    {avs : List AV} {m : Nat} (ha : handV Tryz.prog (ann.ownA f) fn.params.toList (.u :: ps) 0 0 = some (.v (.ptr (.p 0) 0) :: avs, [], m)) {args : List Value} {w : World} {wb : Nat} {rb : Option Nat} (hw : WBx w wb rb st.1 st.2) (hl : args.length = avs.length)
    (hv : ∀ i, i < avs.length → VR Tryz.prog (fun _ => False) w.heap (fun _ => none) (avs.getD i .any) (args.getD i undef)) :
    Calls Tryz.prog f (Value.pointer (some ⟨wb, 0, none⟩) :: args).toArray w fun e' w' => e' = .returned (.tuple #[]) ∧ WOut w w' wb rb (g5 f ps st) := by
  obtain ⟨n, hn⟩ := (callW_iff _ _).1 (g5_c h).1
  exact WBx.calls (P := Tryz.prog) (t := 174) (e := 5) leaves5 (A := ann) leaves301 own301 noCountD ann_prim hn hf hbody hfree hres ha hw hl hv
theorem run_calls {v n : Int} {st : List (List PV) × Int} (hk : Wk st.1 st.2) (hl : st.1.length + 32 ≤ 1099511627776) {w : World} {wb : Nat} {rb : Option Nat} (hw : WBx w wb rb st.1 st.2) :
    Calls Tryz.prog 77 #[.pointer (some ⟨wb, 0, none⟩), .int .i64 v, .int .i64 n] w fun e' w' => e' = .returned (.tuple #[]) ∧ WOut w w' wb rb (g5 f___celluloid_deflate_writer__run [.i v, .i n] st) :=
  writer_calls (args := [.int .i64 v, .int .i64 n]) (avs := [.v (.int .i64 v), .v (.int .i64 n)]) (run5_c v n hk hl) Tryz.func77 (c := Tryz.f77.body.getD .skip) (by kernel_rfl) (by kernel_rfl) (by kernel_rfl) (m := 1) (by kernel_rfl) hw rfl (fun j hj => by
    match j, hj with
    | 0, _ => exact .v _ _ rfl
    | 1, _ => exact .v _ _ rfl)
theorem symbol_calls {v : Int} {st : List (List PV) × Int} (hk : Wk st.1 st.2) (hl : st.1.length + 9 ≤ 1099511627776) {w : World} {wb : Nat} {rb : Option Nat} (hw : WBx w wb rb st.1 st.2) :
    Calls Tryz.prog 76 #[.pointer (some ⟨wb, 0, none⟩), .int .i64 v] w fun e' w' => e' = .returned (.tuple #[]) ∧ WOut w w' wb rb (g5 f___celluloid_deflate_writer__symbol [.i v] st) :=
  writer_calls (args := [.int .i64 v]) (avs := [.v (.int .i64 v)]) (symbol5_c v hk hl) Tryz.func76 (c := Tryz.f76.body.getD .skip) (by kernel_rfl) (by kernel_rfl) (by kernel_rfl) (m := 1) (by kernel_rfl) hw rfl (fun j hj => by
    match j, hj with
    | 0, _ => exact .v _ _ rfl)
end Go.AI
