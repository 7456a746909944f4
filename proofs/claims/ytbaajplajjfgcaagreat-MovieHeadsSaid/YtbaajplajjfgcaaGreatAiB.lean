/- The interpreter's soundness, eighth part: conversions, new rows, slices. -/
import Derived.Test.YtbaajplajjfgcaaGreatAiA
import Derived.Laws.BytesString
import Derived.Laws.StructEq
set_option linter.unusedVariables false
set_option linter.unusedSimpArgs false
namespace Go.AI
open Go

section
variable {α : Type} {P : Program} {A : Ann} {F : FuncId} {h0 : Array Obj} {W : Wr} {D : Nat → Prop} {β : GM} {S : Nat → Prop} {st : St} {a : Act} {w : World} {call : CallF} {K : St → Option α} {res : α}
  {o : Oper} {j : Nat} {Q : Exit → Act → World → Prop}

/-- a new row, in a new block -/
theorem Rel.newRow (R : Rel P h0 W D β S st a w) {id : Id} (hid : β id = none) (hS : IdOk st.r S id) {e : TypeId} {ts : List LTy} (hts : leaves P e = some ts) (es : List (List PV)) (cap : Nat)
    (c : Array Value) (ty : TypeId) (fr : Nat × Nat) (hu : unfro c fr) (h1 : ∀ i, i < es.length → (es.getD i []).length = ts.length) (h2 : es.length ≤ cap) (h3 : cap * ts.length ≤ c.size)
    (h4 : ∀ i j, i < es.length → j < ts.length → RP P (NN D β st.boxes w.heap) w.heap (ts.getD j .no) ((es.getD i []).getD j .u) (c.getD (i * ts.length + j) undef))
    {w' : World} (hw : w'.heap = w.heap.push (.cells c ty fr)) (en : Env w w') :
    Rel P h0 W D (updB β id (some ⟨some w.heap.size, es.length, cap, ts.length⟩)) S (st.setB id (some (.row e es))) a w' ∧
      RowV (updB β id (some ⟨some w.heap.size, es.length, cap, ts.length⟩)) id (.slice (some ⟨w.heap.size, 0, none⟩) es.length cap) := by
  have hs : w.heap.size ≤ w'.heap.size := by rw [hw]; simp
  have hh : ∀ b, b < w.heap.size → w'.heap[b]? = w.heap[b]? := fun b hb => by rw [hw, Array.getElem?_push, if_neg (Nat.ne_of_lt hb)]
  have hb : ∀ k, (⟨some w.heap.size, es.length, cap, ts.length⟩ : Hdr).blk = some k → w.heap.size ≤ k := fun k hk => by cases hk; exact Nat.le_refl _
  have ex := R.mem.add_ext hs hh hid (.row e es) ⟨some w.heap.size, es.length, cap, ts.length⟩ hb
  refine ⟨R.add hs hh en hid hS _ _ hb ⟨_, updB_same _ _ _, ts, hts, rfl, rfl, h1, h2, .inr ⟨w.heap.size, c, ty, fr, rfl, ?_, hu, h3, fun i j hi hj => (h4 i j hi hj).mono ex.n⟩⟩,
    _, updB_same _ _ _, .inr ⟨_, rfl, rfl⟩⟩
  rw [hw]; simp
/-- a new row without memory -/
theorem Rel.nilRow (R : Rel P h0 W D β S st a w) {id : Id} (hid : β id = none) (hS : IdOk st.r S id) {e : TypeId} {ts : List LTy} (hts : leaves P e = some ts) :
    Rel P h0 W D (updB β id (some ⟨none, 0, 0, ts.length⟩)) S (st.setB id (some (.row e []))) a w ∧ ∀ x, RowV (updB β id (some ⟨none, 0, 0, ts.length⟩)) id (.slice x 0 0) := by
  refine ⟨R.add (Nat.le_refl _) (fun _ _ => rfl) (Env.refl w) hid hS _ _ (fun k hk => by cases hk) ⟨_, updB_same _ _ _, ts, hts, rfl, rfl, fun i hi => absurd hi (Nat.not_lt_zero _), Nat.le_refl _, .inl ⟨rfl, rfl⟩⟩,
    fun x => ⟨_, updB_same _ _ _, .inl ⟨rfl, rfl, x, rfl⟩⟩⟩

theorem nid_ok (hj : S j) (c : Nat) : IdOk st.r S (.n st.r j c) := ⟨.inr ⟨rfl, hj⟩, rfl, rfl⟩

theorem isBytes_of {t : TypeId} (h : isBytes P t = true) : ∃ e, P.underlying t = some (.slice e) ∧ P.underlying e = some (.int .u8) := by
  unfold isBytes at h
  split at h
  · rename_i e he
    split at h
    · exact ⟨e, he, by assumption⟩
    · cases h
  · cases h

theorem leaves_int {e : TypeId} {k : IntKind} (h : P.underlying e = some (.int k)) {ts : List LTy} (ht : leaves P e = some ts) : ts = [.int k] := by
  have := (leaves_of ht).1
  rw [leavesF, h] at this
  cases this; rfl

theorem loadCells_list {b off : Nat} {n : Nat} {vs : Nat → Value} (h : ∀ i, i < n → cellH w.heap b (off + i) = some (vs i)) : (loadCells ⟨b, off, none⟩ n).run P w = .ok ((List.range n).map vs).toArray w :=
  run_loadCells (P := P) w ⟨b, off, none⟩ n vs (fun i hi => by rw [addr_add, cell_cellH]; exact h i hi)

theorem bytes_fold : ∀ (ns : List Int) (r : ByteArray), (ns.foldl (fun r n => r.push (UInt8.ofNat n.toNat)) r).data.toList = r.data.toList ++ ns.map (fun n => UInt8.ofNat n.toNat)
  | [], r => by simp
  | n :: ns, r => by rw [List.foldl_cons, bytes_fold ns]; simp [ByteArray.push]
theorem run_bytes {e : TypeId} {es : List (List PV)} {v : Value} (hu : P.underlying e = some (.int .u8)) (h : ListV P (NN D β st.boxes w.heap) w.heap e es v) :
    ∃ x : ByteArray, (Conv.bytesToString v).run P w = .ok (.string x) w ∧ x.data.toList = toBytes es := by
  obtain ⟨a, cap, rfl, _, h⟩ := h
  rcases h with rfl | ⟨ts, b, off, vs, h1, rfl, h3, h4, h5⟩
  · cases a with
    | none => exact ⟨.empty, by simp [Conv.bytesToString], rfl⟩
    | some a =>
      have hl : (loadCells a 0).run P w = .ok (([] : List Int).map (Value.int .u8)).toArray w := by simp [loadCells, loadCellsFrom]
      exact ⟨_, run_bytesToString w a 0 cap [] hl, rfl⟩
  · have hts := leaves_int hu h1
    subst hts
    have hn : ∀ i, i < es.length → vs i = .int .u8 ((es.getD i []).getD 0 .u).toI := by
      intro i hi
      have := h5 i 0 hi (by simp)
      simp only [List.length_singleton, Nat.mul_one, Nat.add_zero] at this
      generalize (es.getD i []).getD 0 .u = p at this ⊢
      generalize vs i = u at this ⊢
      cases this; rfl
    have hl := loadCells_list (P := P) (w := w) (b := b) (off := off) (n := es.length) (vs := vs) (fun i hi => h4 i (by simpa using hi))
    have e2 : ((List.range es.length).map vs) = (es.map fun e => (e.getD 0 .u).toI).map (Value.int .u8) := by
      apply List.ext_getElem
      · simp
      · intro i h1 h2
        have hi : i < es.length := by simpa using h1
        simp only [List.getElem_map, List.getElem_range]
        rw [hn i hi, getD_eq (l := es) hi]
    rw [e2] at hl
    refine ⟨_, run_bytesToString w _ _ _ _ hl, ?_⟩
    rw [bytes_fold]
    simp [toBytes, List.map_map, Function.comp_def]

theorem op_convert (R : Rel P h0 W D β S st a w) (hj : S j) (hf : ∀ c, β (.n st.r j c) = none) {s d : TypeId} {x : Operand} (ho : o.op = .convert s d x) (h : (opK P A F o st.r j).run call st K = some res) :
    o.wp P a w (Good P h0 W D S st.r st.q K res) Q := by
  simp only [opK, ho, run_evK] at h
  have hx := R.ev x
  have hsrc : ∃ u, P.underlying s = some u ∨ P.underlying s = none := by
    cases P.underlying s with
    | none => exact ⟨.bool, .inr rfl⟩
    | some u => exact ⟨u, .inl rfl⟩
  split at h
  · rename_i k k' n hu e
    rw [e] at hx
    obtain ⟨hs, h⟩ := run_test _ _ _ h
    cases hus : P.underlying s with
    | none => simp [hus] at hs
    | some u =>
      refine wp_val (v := .int k (k.wrap n)) (w' := w) ?_ (R.good_put (.v (.int k _) _ rfl) h)
      simp [execOp, ho, int_leaf hx, convert, run_underlying hu, run_underlying hus, Conv.intToInt]
  · rename_i b hu e
    rw [e] at hx
    obtain ⟨hs, h⟩ := run_test _ _ _ h
    obtain ⟨y, hy, rfl⟩ := str_leaf hx
    cases hus : P.underlying s with
    | none => simp [hus] at hs
    | some u =>
      refine wp_val (v := .string y) (w' := w) ?_ (R.good_put (.v (.str _) _ ⟨y, rfl, rfl⟩) h)
      simp [execOp, ho, hy, convert, run_underlying hu, run_underlying hus]
  · rename_i l _ hu e
    rw [e] at hx
    obtain ⟨hb, h⟩ := run_test _ _ _ h
    obtain ⟨el, hel, h⟩ := run_orFail _ _ _ h
    obtain ⟨es, hes, h⟩ := listK_of R hx.leaf h
    obtain ⟨el', g1, g2⟩ := isBytes_of hb
    have := sliceElem_of hel
    rw [g1] at this; cases this
    obtain ⟨y, hy1, hy2⟩ := run_bytes g2 hes
    obtain ⟨a', cap', hv, _, _⟩ := hes
    refine wp_val (v := .string y) (w' := w) ?_ (R.good_put (.v (.str _) _ ⟨y, rfl, hy2⟩) h)
    rw [hv] at hy1
    simp only [execOp, ho, hv, convert, Sem.run_bind, run_underlying hu, run_underlying g1, Result.andThen_ok, run_underlying g2, hy1, Sem.run_pure]
  · rename_i e b hu e'
    rw [e'] at hx
    obtain ⟨hb, h⟩ := run_test _ _ _ h
    obtain ⟨hs, h⟩ := run_test _ _ _ h
    obtain ⟨ts, hts, h⟩ := run_orFail _ _ _ h
    have h := run_setB _ _ _ h
    obtain ⟨y, hy, rfl⟩ := str_leaf hx
    obtain ⟨el, g1, g2⟩ := isBytes_of hb
    rw [hu] at g1; cases g1
    have := leaves_int g2 hts
    subst this
    cases hus : P.underlying s with
    | none => simp [hus] at hs
    | some u =>
      have hq : (Question.appendCap y.size 0 e).forced = false := rfl
      obtain ⟨cap, hcap, hch⟩ : ∃ cap, y.size ≤ cap ∧ (choose (.appendCap y.size 0 e)).run P w = .ok cap w.drew := by
        rw [run_choose, hq]; exact ⟨_, Nat.le_add_right _ _, rfl⟩
      obtain ⟨c, hc⟩ : ∃ c : Array Value, c = (y.data.map fun b => Value.int .u8 b.toNat) ++ Array.replicate (cap - y.size) (.int .u8 0) := ⟨_, rfl⟩
      have hcs : c.size = cap := by
        rw [hc, Array.size_append, Array.size_map, Array.size_replicate]
        exact Nat.add_sub_cancel' hcap
      have hlen : (ofBytes y.data.toList).length = y.size := by
        rw [ofBytes, List.length_map, Array.length_toList]; rfl
      obtain ⟨w', hw⟩ : ∃ w', w' = (w.drew.alloc (.cells c e)).freeze ⟨w.heap.size, c.size, none⟩ 1 := ⟨_, rfl⟩
      have hheap : w'.heap = w.heap.push (.cells c e (c.size, c.size + 1)) := by
        rw [hw]
        unfold World.freeze
        rw [if_neg (by decide)]
        dsimp only
        rw [show (w.drew.alloc (.cells c e)).heap = w.heap.push (.cells c e) from rfl]
        apply Array.ext_getElem?
        intro i
        rw [Array.getElem?_modify, Array.getElem?_push, Array.getElem?_push]
        by_cases hi : w.heap.size = i
        · subst hi; simp
        · simp [hi, Ne.symm hi]
      obtain ⟨R', hv⟩ := R.newRow (w' := w') (hf 0) (nid_ok hj 0) hts (ofBytes y.data.toList) cap c e (c.size, c.size + 1) (fun o h1 h2 => by omega)
        (fun i hi => by
          rw [getD_eq hi]
          simp only [ofBytes, List.getElem_map, List.length_singleton])
        (by rw [hlen]; exact hcap) (by rw [hcs, List.length_singleton, Nat.mul_one]; exact Nat.le_refl _) (fun i l hi hl => by
          have : l = 0 := by simpa using hl
          subst this
          rw [hlen] at hi
          have hi' : i < y.data.size := hi
          rw [List.length_singleton, Nat.mul_one, Nat.add_zero]
          rw [getD_eq (l := ofBytes y.data.toList) (by rw [hlen]; exact hi)]
          have : c.getD i undef = .int .u8 y.data[i].toNat := by
            rw [agetD_eq (by rw [hcs]; exact Nat.lt_of_lt_of_le hi hcap)]
            simp only [hc]
            rw [Array.getElem_append_left (by simpa using hi')]
            simp
          rw [this]
          simp only [ofBytes, List.getElem_map]
          exact .int .u8 _) hheap (by rw [hw]; unfold World.freeze; rw [if_neg (by decide)]; exact ⟨rfl, rfl⟩)
      rw [hlen] at R' hv
      refine wp_val (v := .slice (some ⟨w.heap.size, 0, none⟩) y.size cap) (w' := w') ?_ (R'.good_put (.v (.wr _) _ hv) h)
      have hsh : (w.drew.alloc (.cells c e)).shape? w.heap.size = some (e, c.size) := by
        show (match (w.heap.push (.cells c e))[w.heap.size]? with | some (.cells c elem _) => some (elem, c.size) | _ => none) = _
        simp
      have hrow : (newRow e c).run P w.drew = .ok ⟨w.heap.size, 0, none⟩ (w.drew.alloc (.cells c e)) := rfl
      have hmk : (markStringish ⟨w.heap.size, 0, none⟩).run P (w.drew.alloc (.cells c e)) = .ok () w' := by
        unfold markStringish
        rw [Sem.run_bind, run_shape, hsh, hw]; rfl
      simp only [execOp, ho, hy, convert, Sem.run_bind, run_underlying hu, run_underlying hus, Result.andThen_ok, run_underlying g2, Conv.stringToBytes, hch]
      rw [hc] at hrow
      rw [hrow]
      rw [hc] at hmk
      simp only [Result.andThen_ok, hmk, Sem.run_pure]
  · simp [Acc.run] at h

/-! ### slices -/
theorem bndK_of (R : Rel P h0 W D β S st a w) {x : Option Operand} {dflt : Int} {k : Int → Acc} (h : (bndK x dflt k).run call st K = some res) :
    ∃ n : Int, (k n).run call st K = some res ∧ ((x = none ∧ n = dflt) ∨ ∃ o kd, x = some o ∧ a.eval o = .int kd n) := by
  cases x with
  | none => exact ⟨dflt, h, .inl ⟨rfl, rfl⟩⟩
  | some o =>
    simp only [bndK, run_evK] at h
    have ho := R.ev o
    split at h
    · rename_i k n e
      rw [e] at ho
      exact ⟨n, h, .inr ⟨o, k, rfl, int_leaf ho⟩⟩
    · simp [Acc.run] at h
theorem run_sliceBound {v : Value} {kd : IntKind} {n : Int} (hv : v = .int kd n) (y : Nat) (code : BoundsCode) (h0 : 0 ≤ n) (h1 : n ≤ y) (w : World) : (Instr.sliceBound v y code).run P w = .ok n.toNat w := by
  subst hv
  simp [Instr.sliceBound, asIntOf, h0, h1]
theorem run_sliceBounds {isS : Bool} {len cap : Nat} {lo hi : Option Operand} {l h : Int} (hl : (lo = none ∧ l = 0) ∨ ∃ o kd, lo = some o ∧ a.eval o = .int kd l) (hh : (hi = none ∧ h = len) ∨ ∃ o kd, hi = some o ∧ a.eval o = .int kd h)
    (h1 : 0 ≤ l) (h2 : l ≤ h) (h3 : h ≤ len) (hc : len ≤ cap) (w : World) : (Instr.sliceBounds isS len cap (lo.map a.eval) (hi.map a.eval) none).run P w = .ok (l.toNat, h.toNat, cap) w := by
  have e4 := fun (o : Operand) (kd : IntKind) (ho : a.eval o = .int kd h) code => run_sliceBound (P := P) ho cap code (by omega) (by omega) w
  have e5 := fun (o : Operand) (kd : IntKind) (ho : a.eval o = .int kd l) (y : Nat) (hy : h ≤ y) code => run_sliceBound (P := P) ho y code h1 (by omega) w
  unfold Instr.sliceBounds
  rcases hh with ⟨rfl, rfl⟩ | ⟨o, kd, rfl, ho⟩ <;> rcases hl with ⟨rfl, rfl⟩ | ⟨o', kd', rfl, ho'⟩
  · rfl
  · simp only [Option.map_none, Option.map_some, Sem.run_bind, Sem.run_pure, Result.andThen_ok, e5 o' kd' ho' len (Int.le_refl _), Int.toNat_natCast]
  · simp only [Option.map_none, Option.map_some, Sem.run_bind, Sem.run_pure, Result.andThen_ok, e4 o kd ho]; rfl
  · simp only [Option.map_none, Option.map_some, Sem.run_bind, Sem.run_pure, Result.andThen_ok, e4 o kd ho, e5 o' kd' ho' h.toNat (by omega)]
theorem okB_of {l h : Int} {n : Nat} (hb : okB l h n = true) : 0 ≤ l ∧ l ≤ h ∧ h ≤ n := by
  unfold okB at hb; simpa [and_assoc] using hb
theorem cutL_length {γ : Type} (l h : Int) (xs : List γ) (h1 : 0 ≤ l) (h2 : l ≤ h) (h3 : h ≤ xs.length) : (cutL l h xs).length = h.toNat - l.toNat := by
  simp [cutL]; omega
theorem cutL_getD {γ : Type} (l h : Int) (xs : List γ) (i : Nat) (hi : i < h.toNat - l.toNat) (d : γ) : (cutL l h xs).getD i d = xs.getD (l.toNat + i) d := by
  simp only [cutL, List.getD, List.getElem?_drop]
  rw [List.getElem?_take_of_lt (by omega)]

/-- a part of a list -/
theorem cut_RP {N : Nat → Prop} {hp : Array Obj} {e : TypeId} {ts : List LTy} (hts : leaves P e = some ts) {es : List (List PV)} {b off cap : Nat} {vs : Nat → Value} (hN : N b) (hc : es.length ≤ cap)
    (h1 : ∀ i, i < es.length → (es.getD i []).length = ts.length) (h2 : ∀ j, j < es.length * ts.length → cellH hp b (off + j) = some (vs j))
    (h3 : ∀ i j, i < es.length → j < ts.length → RP P N hp (ts.getD j .no) ((es.getD i []).getD j .u) (vs (i * ts.length + j)))
    {l h : Int} (l0 : 0 ≤ l) (lh : l ≤ h) (hn : h ≤ es.length) :
    RP P N hp (.sl e) (.l (cutL l h es)) (.slice (if cap = l.toNat then some ⟨b, off, none⟩ else some ⟨b, off + l.toNat * ts.length, none⟩) (h.toNat - l.toNat) (cap - l.toNat)) := by
  have hlen := cutL_length l h es l0 lh hn
  by_cases e1 : cap = l.toNat
  · rw [if_pos e1]
    have : cutL l h es = [] := List.length_eq_zero_iff.1 (by omega)
    rw [this, show h.toNat - l.toNat = 0 by omega, show cap - l.toNat = 0 by omega]
    exact .nil _ _
  · rw [if_neg e1]
    have := RP.sl (P := P) (N := N) (hp := hp) e ts (cutL l h es) b (off + l.toNat * ts.length) (cap - l.toNat) (fun j => vs (l.toNat * ts.length + j)) (by omega) hts hN
      (fun i hi => by rw [cutL_getD _ _ _ _ (by omega)]; exact h1 _ (by omega))
      (fun j hj => by
        rw [hlen] at hj
        rw [← h2 (l.toNat * ts.length + j) ?_]
        · congr 1; omega
        · have := Nat.mul_le_mul_right ts.length (show l.toNat + (h.toNat - l.toNat) ≤ es.length by omega)
          rw [Nat.add_mul] at this
          omega)
      (fun i j hi hj => by
        rw [cutL_getD _ _ _ _ (by omega)]
        have := h3 (l.toNat + i) j (by omega) hj
        rwa [Nat.add_mul, Nat.add_assoc] at this)
    rwa [hlen] at this

theorem flat_rep {γ : Type} (ts : List γ) (d : γ) : ∀ (n i j : Nat), i < n → j < ts.length → ((List.replicate n ts).flatten).getD (i * ts.length + j) d = ts.getD j d
  | 0, i, j, h, _ => absurd h (Nat.not_lt_zero _)
  | n + 1, i, j, h, hj => by
    rw [List.replicate_succ, List.flatten_cons]
    cases i with
    | zero => simp only [Nat.zero_mul, Nat.zero_add, List.getD]; rw [List.getElem?_append_left hj]
    | succ i =>
      have := flat_rep ts d n i j (by omega) hj
      simp only [List.getD] at this ⊢
      rw [List.getElem?_append_right (by rw [Nat.succ_mul]; omega), ← this]
      congr 2; rw [Nat.succ_mul]; omega
theorem getD_range_map {γ : Type} (f : Nat → γ) (n i : Nat) (hi : i < n) (d : γ) : ((List.range n).map f).getD i d = f i := by
  rw [getD_eq (by simpa using hi)]; simp

theorem sliceArrK_of (R : Rel P h0 W D β S st a w) {e : TypeId} {n : Nat} {id : Id} {off : Nat} {l h : Int} {k : AL → Acc} {v : Value} (hv : PtrV β id off v)
    (hr : (sliceArrK P e n id off l h k).run call st K = some res) :
    ∃ st' ts b es, leaves P e = some ts ∧ v = .pointer (some ⟨b, off, none⟩) ∧ 0 ≤ l ∧ l ≤ h ∧ h ≤ n ∧ Rel P h0 W D β S st' a w ∧ st'.r = st.r ∧ st'.q = st.q ∧
      RP P (NN D β st'.boxes w.heap) w.heap (.sl e) (.l es) (.slice (if n = l.toNat then some ⟨b, off, none⟩ else some ⟨b, off + l.toNat * ts.length, none⟩) (h.toNat - l.toNat) (n - l.toNat)) ∧
      (k (.sl e es)).run call st' K = some res := by
  have core : ∀ {st' : St} {ts : List LTy} {cs : List AL} {ps : List PV}, CellsR P (NN D β st.boxes w.heap) w.heap β id cs → leaves P e = some ts → off + n * ts.length ≤ cs.length →
      pvs (List.replicate n ts).flatten (cutAt cs off (n * ts.length)) = some ps → okB l h n = true → Ext (NN D β st.boxes w.heap) w.heap β (NN D β st'.boxes w.heap) w.heap β →
      (∀ hd b, β id = some hd → hd.blk = some b → NN D β st'.boxes w.heap b) →
      ∃ b, v = .pointer (some ⟨b, off, none⟩) ∧ RP P (NN D β st'.boxes w.heap) w.heap (.sl e) (.l (cutL l h ((List.range n).map fun i => cutAt ps (i * ts.length) ts.length)))
        (.slice (if n = l.toNat then some ⟨b, off, none⟩ else some ⟨b, off + l.toNat * ts.length, none⟩) (h.toNat - l.toNat) (n - l.toNat)) := by
    intro st' ts cs ps ⟨hd, b, c, ty, fr, h1, h2, h3, h4, h5, h6⟩ hts hle hps hok ex hfree
    obtain ⟨l0, l1, l2⟩ := okB_of hok
    obtain ⟨hd', b', g1, g2, rfl⟩ := hv
    rw [h1] at g1; cases g1; rw [h2] at g2; cases g2
    have hle' : off + n * ts.length ≤ c.toList.length := by simpa [h5] using hle
    have hec : ∀ i, c.toList.getD i undef = c.getD i undef := fun i => by rw [← toArray_getD, Array.toArray_toList]
    obtain ⟨p1, p2, p3⟩ := pvs_RP hps (vs := cutAt c.toList off (n * ts.length)) (by rw [cutAt_length _ _ _ hle, cutAt_length _ _ _ hle']) (fun i hi => by
      rw [cutAt_length _ _ _ hle] at hi
      rw [cutAt_getD _ _ _ hle i hi, cutAt_getD _ _ _ hle' i hi, hec]
      exact h6 _ (by omega))
    rw [cutAt_length _ _ _ hle] at p2 p3
    have bound : ∀ i, i < n → i * ts.length + ts.length ≤ ps.length := by
      intro i hi
      have := Nat.mul_le_mul_right ts.length (Nat.succ_le_of_lt hi)
      rw [Nat.succ_mul] at this; omega
    refine ⟨b, rfl, cut_RP hts (b := b) (off := off) (cap := n) (vs := fun j => c.getD (off + j) undef) (hfree hd b h1 h2) (by simp) (fun i hi => ?_) (fun j hj => ?_) (fun i j hi hj => ?_) l0 l1 (by simpa using l2)⟩
    · have hi' : i < n := by simpa using hi
      rw [getD_range_map _ _ _ hi', cutAt_length _ _ _ (bound i hi')]
    · have hj' : j < n * ts.length := by simpa using hj
      have : off + j < c.size := by simp at hle'; omega
      rw [cellH_of h3]; simp [Array.getD, this]
    · have hi' : i < n := by simpa using hi
      rw [getD_range_map _ _ _ hi', cutAt_getD _ _ _ (bound i hi') j hj]
      have hlt := mul_lt hi' hj
      have := (p3 (i * ts.length + j) hlt).mono ex.n
      rw [flat_rep _ _ _ _ _ hi' hj, cutAt_getD _ _ _ hle' _ hlt, hec] at this
      exact this
  unfold sliceArrK at hr
  split at hr
  case h_2 => simp [Acc.run] at hr
  obtain ⟨ts, hts, hr⟩ := run_orFail _ _ _ hr
  rw [run_getB] at hr
  split at hr
  · rename_i t cs hb
    obtain ⟨hok, hr⟩ := run_test _ _ _ hr
    obtain ⟨ps, hps, hr⟩ := run_orFail _ _ _ hr
    have hr := run_setB _ _ _ hr
    simp only [Bool.and_eq_true] at hok
    obtain ⟨hok, hle⟩ := hok
    have R' := R.froz hb
    obtain ⟨l0, l1, l2⟩ := okB_of hok
    obtain ⟨b, c1, c2⟩ := core (st' := st.setB _ (some (.froz t cs))) (R.mem.bx _ _ hb) hts (Nat.le_of_ble_eq_true hle) hps hok (R.mem.froz_ext hb) (fun hd b g1 g2 => R.mem.froz_free hb g1 g2)
    exact ⟨_, ts, b, _, hts, c1, l0, l1, l2, R', rfl, rfl, c2, hr⟩
  · rename_i t cs hb
    obtain ⟨hok, hr⟩ := run_test _ _ _ hr
    obtain ⟨ps, hps, hr⟩ := run_orFail _ _ _ hr
    simp only [Bool.and_eq_true] at hok
    obtain ⟨hok, hle⟩ := hok
    obtain ⟨l0, l1, l2⟩ := okB_of hok
    obtain ⟨b, c1, c2⟩ := core (st' := st) (R.mem.bx _ _ hb) hts (Nat.le_of_ble_eq_true hle) hps hok (Ext.refl _ _ _) (fun hd b g1 g2 => R.mem.isfroz_free hb g1 g2)
    exact ⟨_, ts, b, _, hts, c1, l0, l1, l2, R, rfl, rfl, c2, hr⟩
  · simp [Acc.run] at hr

theorem op_slice (R : Rel P h0 W D β S st a w) {t : TypeId} {x : Operand} {lo hi : Option Operand} (ho : o.op = .slice t x lo hi none) (h : (opK P A F o st.r j).run call st K = some res) :
    o.wp P a w (Good P h0 W D S st.r st.q K res) Q := by
  simp only [opK, ho, run_evK] at h
  have hx := R.ev x
  split at h
  · rename_i s hu e
    rw [e] at hx
    obtain ⟨y, hy, rfl⟩ := str_leaf hx
    obtain ⟨l, h, hl⟩ := bndK_of R h
    obtain ⟨n, h, hn⟩ := bndK_of R h
    obtain ⟨hb, h⟩ := run_test _ _ _ h
    obtain ⟨l0, l1, l2⟩ := okB_of hb
    rw [str_size] at l2 hn
    refine wp_val (v := .string (y.extract l.toNat n.toNat)) (w' := w) ?_ (R.good_put (x := .v (.str (cutL l n y.data.toList))) (.v _ _ ⟨_, rfl, ?_⟩) h)
    · have := run_sliceBounds (P := P) (isS := false) hl hn l0 l1 l2 (Nat.le_refl _) w
      simp only [execOp, ho, hy, Instr.sliceAt, Instr.slice, Sem.run_bind, run_underlying hu, Result.andThen_ok, Option.map_none, Option.isSome_none, Bool.false_eq_true, if_false, this, Sem.run_pure]
    · rw [ByteArray.data_extract]
      simp [cutL, List.extract_eq_take_drop, List.drop_take]
  · rename_i e e' es hu e1
    rw [e1] at hx
    obtain ⟨he, h1⟩ := run_test _ _ _ h
    have := Nat.eq_of_beq_eq_true he
    subst this
    obtain ⟨ts0, hts0, h1⟩ := run_orFail _ _ _ h1
    obtain ⟨l, h2, hl⟩ := bndK_of R h1
    obtain ⟨n, h3, hn⟩ := bndK_of R h2
    obtain ⟨hb, h4⟩ := run_test _ _ _ h3
    obtain ⟨l0, l1, l2⟩ := okB_of hb
    have hl2 : RP P (NN D β st.boxes w.heap) w.heap (.sl e) (.l es) (a.eval x) := hx.leaf
    generalize hv : a.eval x = u at hl2
    cases hl2 with
    | nil _ ad =>
      have el : l = 0 := by simp at l2; omega
      have en : n = 0 := by simp at l2; omega
      subst el; subst en
      refine wp_val (v := .slice ad 0 0) (w' := w) ?_ (R.good_put (x := .v (.sl e (cutL 0 0 []))) (.v _ _ (.nil _ _)) h4)
      have := run_sliceBounds (P := P) (isS := true) (len := 0) (cap := 0) hl hn l0 l1 l2 (Nat.le_refl _) w
      simp only [execOp, ho, hv, Instr.sliceAt, Instr.slice, Sem.run_bind, run_underlying hu, Result.andThen_ok, Option.map_none, List.length_nil, this, run_sizeOf hts0, Sem.run_pure]
      rfl
    | sl _ ts _ b off cap vs q0 q1 hN q2 q3 q4 =>
      have hr := cut_RP q1 hN q0 q2 q3 q4 l0 l1 l2
      refine wp_val (v := _) (w' := w) ?_ (R.good_put (x := .v (.sl e (cutL l n es))) (.v _ _ hr) h4)
      have := run_sliceBounds (P := P) (isS := true) hl hn l0 l1 l2 q0 w
      simp only [execOp, ho, hv, Instr.sliceAt, Instr.slice, Sem.run_bind, run_underlying hu, Result.andThen_ok, Option.map_none, this, run_sizeOf q1, Sem.run_pure, Option.map_some, addr_add]
  · rename_i n e id off hu e1
    rw [e1] at hx
    obtain ⟨l, h, hl⟩ := bndK_of R h
    obtain ⟨m, h, hm⟩ := bndK_of R h
    obtain ⟨st', ts, b, es, hts, hv, l0, l1, l2, R', hr, hq, hrp, h⟩ := sliceArrK_of R hx.leaf h
    rw [← hr, ← hq]
    refine wp_val (v := _) (w' := w) ?_ (R'.good_put (x := .v (.sl e es)) (.v _ _ hrp) h)
    have := run_sliceBounds (P := P) (isS := false) hl hm l0 l1 l2 (Nat.le_refl _) w
    simp only [execOp, ho, hv, Instr.sliceAt, Instr.sureAddr, Sem.run_bind, run_underlying hu, Result.andThen_ok, Option.map_none, this, run_sizeOf hts, Sem.run_pure, addr_add]
    by_cases c : n = l.toNat <;> simp [c]
  · simp [Acc.run] at h
end
end Go.AI
set_option linter.unusedVariables false
set_option linter.unusedSimpArgs false
namespace Go.AI
open Go

section
variable {α : Type} {P : Program} {A : Ann} {F : FuncId} {h0 : Array Obj} {W : Wr} {D : Nat → Prop} {β : GM} {S : Nat → Prop} {st : St} {a : Act} {w : World} {call : CallF} {K : St → Option α} {res : α}
  {o : Oper} {j : Nat} {Q : Exit → Act → World → Prop}

theorem arr_getD {γ : Type} (c : Array γ) (i : Nat) (d : γ) : c.toList.getD i d = c.getD i d := by rw [← toArray_getD, Array.toArray_toList]
theorem wrap_in {n : Int} (h1 : -9223372036854775808 ≤ n) (h2 : n < 9223372036854775808) : IntKind.i64.wrap n = n := by
  have e : (2 : Int) ^ (64 - 1) = 9223372036854775808 := rfl
  have e' : (2 : Int) ^ 64 = 18446744073709551616 := rfl
  simp only [IntKind.wrap, IntKind.bits, IntKind.signed, Bool.true_and, decide_eq_true_eq, e, e']
  split <;> omega
theorem zeroP_of {N : Nat → Prop} {hp : Array Obj} {e : TypeId} {z : List PV} (h : zeroP P e = some z) :
    ∃ ts i zv, leaves P e = some ts ∧ P.info? e = some i ∧ i.zero = some zv ∧ zv.cells.size = ts.length ∧ z.length = ts.length ∧ ∀ j, j < ts.length → RP P N hp (ts.getD j .no) (z.getD j .u) (zv.cells.getD j undef) := by
  unfold zeroP at h
  cases h1 : zeroL P e with
  | none => simp [h1] at h
  | some zl =>
    cases h2 : leaves P e with
    | none => simp [h1, h2] at h
    | some ts =>
      simp only [h1, h2] at h
      obtain ⟨i, zv, g1, g2, g3, rfl⟩ := zeroL_of h1
      obtain ⟨p1, p2, p3⟩ := pvs_RP (P := P) (β := fun _ => none) (N := N) (hp := hp) h (vs := zv.cells.toList) (by simp) (fun i hi => zeroL_LR g3 i (by simpa using hi))
      simp only [List.length_map, Array.length_toList] at p1 p2 p3
      refine ⟨ts, i, zv, rfl, g1, g2, p1.symm, by omega, fun j hj => ?_⟩
      have := p3 j (by omega)
      rw [← arr_getD]; exact this

theorem getBang {γ : Type} [Inhabited γ] (x : Array γ) (i : Nat) (h : i < x.size) (d : γ) : x[i]! = x.getD i d := by
  rw [getElem!_pos x i h]; simp [Array.getD, h]

theorem op_makeSlice (R : Rel P h0 W D β S st a w) (hj : S j) (hf : ∀ c, β (.n st.r j c) = none) {t : TypeId} {l c : Operand} (ho : o.op = .makeSlice t l c) (h : (opK P A F o st.r j).run call st K = some res) :
    o.wp P a w (Good P h0 W D S st.r st.q K res) Q := by
  simp only [opK, ho, run_evK] at h
  obtain ⟨e, he, h⟩ := run_orFail _ _ _ h
  obtain ⟨z, hz, h⟩ := run_orFail _ _ _ h
  have hl := R.ev l
  have hc := R.ev c
  split at h
  case h_2 => simp [Acc.run] at h
  rename_i kl nl kc nc e1 e2
  rw [e1] at hl; rw [e2] at hc
  have hl := int_leaf hl
  have hc := int_leaf hc
  obtain ⟨hb, h⟩ := run_test _ _ _ h
  obtain ⟨hbb, h⟩ := run_test _ _ _ h
  have h := run_setB _ _ _ h
  simp only [Bool.and_eq_true, decide_eq_true_eq] at hb
  obtain ⟨b1, b2, b3⟩ := hb
  have hbb := Nat.le_of_ble_eq_true hbb
  obtain ⟨ts, i, zv, z1, z2, z3, z4, z5, z6⟩ := zeroP_of (N := NN D β st.boxes w.heap) (hp := w.heap) hz
  have hu := sliceElem_of he
  have hbytes : i.bytes ≤ 10000 := by unfold elemBytes at hbb; rw [z2] at hbb; exact hbb
  obtain ⟨lc, hlc⟩ : ∃ lc : Array Value, lc = if nc.toNat * ts.length = 0 then (#[] : Array Value) else zv.cells := ⟨_, rfl⟩
  obtain ⟨cs, hcs⟩ : ∃ cs : Array Value, cs = (Array.range (nc.toNat * ts.length)).map (lc[· % lc.size]!) := ⟨_, rfl⟩
  have hsz : cs.size = nc.toNat * ts.length := by rw [hcs]; simp
  obtain ⟨R', hv⟩ := R.newRow (w' := w.alloc (.cells cs e)) (hf 0) (nid_ok hj 0) z1 (List.replicate nl.toNat z) nc.toNat cs e (0, 0) (unfro00 _)
    (fun i hi => by rw [getD_eq hi, List.getElem_replicate]; exact z5) (by rw [List.length_replicate]; omega) (by rw [hsz]; exact Nat.le_refl _)
    (fun i k hi hk => by
      have hi' : i < nl.toNat := by simpa using hi
      have hlt : i * ts.length + k < cs.size := by rw [hsz]; exact mul_lt (by omega) hk
      have hne : nc.toNat * ts.length ≠ 0 := by omega
      have hlc' : lc = zv.cells := by rw [hlc, if_neg hne]
      have hmod : (i * ts.length + k) % lc.size = k := by
        rw [hlc', z4, Nat.add_comm, Nat.add_mul_mod_self_right]; exact Nat.mod_eq_of_lt hk
      rw [getD_eq hi, List.getElem_replicate, agetD_eq hlt]
      simp only [hcs, Array.getElem_map, Array.getElem_range, hmod]
      rw [hlc', getBang _ _ (by rw [z4]; exact hk) undef]
      exact z6 k hk) rfl ⟨rfl, rfl⟩
  rw [List.length_replicate] at R' hv
  refine wp_val (v := .slice (some ⟨w.heap.size, 0, none⟩) nl.toNat nc.toNat) (w' := w.alloc (.cells cs e)) ?_ (R'.good_put (.v (.wr _) _ hv) h)
  have w1 : IntKind.i64.wrap nl = nl := wrap_in (by omega) (by omega)
  have w2 : IntKind.i64.wrap nc = nc := wrap_in (by omega) (by omega)
  have hti : (typeInfo e).run P w = .ok i w := by simp [typeInfo, z2]
  have hbig : ¬ ((i.bytes : Int) * nc > 2 ^ 48) := by
    have hh : (i.bytes : Int) * nc ≤ 10000 * 2 ^ 30 := Int.mul_le_mul (by omega) b3 (by omega) (by omega)
    omega
  have hif : (decide (nc < 0) || decide ((i.bytes : Int) * nc > 2 ^ 48) || decide (nl < 0) || decide (nl > nc)) = false := by
    simp only [Bool.or_eq_false_iff, decide_eq_false_iff_not]
    exact ⟨⟨⟨by omega, hbig⟩, by omega⟩, by omega⟩
  have hrow : (newRow e ((Array.range (nc.toNat * ts.length)).map (lc[· % lc.size]!))).run P w = .ok ⟨w.heap.size, 0, none⟩ (w.alloc (.cells cs e)) := by rw [hcs]; rfl
  simp only [execOp, ho, hl, hc, Instr.makeSlice, Sem.run_bind, run_underlying hu, Result.andThen_ok, asInt, asIntOf, Sem.run_pure, hti, w1, w2]
  rw [Sem.run_ite, if_neg (by
    intro hcon
    have : (decide (nc < 0) || decide ((i.bytes : Int) * nc > 2 ^ 48) || decide (nl < 0) || decide (nl > nc)) = true := by simpa [or_assoc] using hcon
    rw [hif] at this; cases this)]
  simp only [Sem.run_bind, run_askRoom, Result.andThen_ok, run_sizeOf z1]
  rw [Sem.run_ite]
  by_cases hne : nc.toNat * ts.length = 0
  · rw [if_pos hne] at hlc
    rw [hlc] at hrow
    rw [if_pos hne]
    simp only [Sem.run_bind, Sem.run_pure, Result.andThen_ok, hrow]
  · rw [if_neg hne] at hlc
    rw [hlc] at hrow
    rw [if_neg hne]
    simp only [Sem.run_bind, run_zeroValue' z2 z3, Sem.run_pure, Result.andThen_ok, hrow]

theorem growBy_le (n : Nat) : ∀ (k c : Nat), Builtin.growBy n k c + 768 ≤ (c + 768) * 2 ^ k
  | 0, c => by simp [Builtin.growBy]
  | k + 1, c => by
    unfold Builtin.growBy
    split
    · have := Nat.one_le_two_pow (n := k + 1)
      calc c + 768 = (c + 768) * 1 := by omega
        _ ≤ _ := Nat.mul_le_mul_left _ this
    · have ih := growBy_le n k (c + (c + 768) / 4)
      refine Nat.le_trans ih ?_
      rw [Nat.pow_succ, Nat.mul_comm (2 ^ k) 2, ← Nat.mul_assoc]
      exact Nat.mul_le_mul_right _ (by omega)
theorem growBy_le2 (n : Nat) : ∀ (k c : Nat), Builtin.growBy n k c ≤ c ∨ Builtin.growBy n k c ≤ n + n / 4 + 192
  | 0, c => .inl (Nat.le_refl _)
  | k + 1, c => by
    unfold Builtin.growBy
    split
    · exact .inl (Nat.le_refl _)
    · rename_i h
      rcases growBy_le2 n k (c + (c + 768) / 4) with h1 | h1
      · right
        refine Nat.le_trans h1 ?_
        omega
      · exact .inr h1
theorem nextcap_le (need cap : Nat) (h : cap < need) : Builtin.nextslicecap need cap ≤ 2 * need := by
  unfold Builtin.nextslicecap
  split
  · omega
  · split
    · omega
    · rcases growBy_le2 need 4 cap with h3 | h3 <;> omega

/-- the cells that are appended -/
theorem cells_of_list {N : Nat → Prop} {e : TypeId} {ts : List LTy} (hts : leaves P e = some ts) {es : List (List PV)} {v : Value} (h : ListV P N w.heap e es v) (u : World) (hu : u.heap = w.heap) :
    ∃ cs : Array Value, (Builtin.firstCells ts.length es.length v).run P u = .ok cs u ∧ cs.size = es.length * ts.length ∧ (∀ i, i < es.length → (es.getD i []).length = ts.length) ∧
      (∀ x, x ∈ cs.toList → x.oneCell' = true) ∧ ∀ i j, i < es.length → j < ts.length → RP P N w.heap (ts.getD j .no) ((es.getD i []).getD j .u) (cs.getD (i * ts.length + j) undef) := by
  obtain ⟨ad, cap, rfl, _, h⟩ := h
  rcases h with rfl | ⟨ts', b, off, vs, h1, rfl, h3, h4, h5⟩
  · refine ⟨#[], ?_, by simp, fun i hi => absurd hi (Nat.not_lt_zero _), by simp, fun i j hi => absurd hi (Nat.not_lt_zero _)⟩
    cases ad with
    | none => rfl
    | some ad => simp [Builtin.firstCells, loadCells, loadCellsFrom]
  · rw [hts] at h1; cases h1
    have hr : (Builtin.firstCells ts.length es.length (.slice (some ⟨b, off, none⟩) es.length cap)).run P u = .ok ((List.range (es.length * ts.length)).map vs).toArray u :=
      loadCells_list (P := P) (w := u) (fun i hi => by rw [hu]; exact h4 i hi)
    have hg : ∀ k, k < es.length * ts.length → ((List.range (es.length * ts.length)).map vs).toArray.getD k undef = vs k := fun k hk => by
      rw [toArray_getD, getD_range_map _ _ _ hk]
    have hrp : ∀ i j, i < es.length → j < ts.length → RP P N w.heap (ts.getD j .no) ((es.getD i []).getD j .u) (vs (i * ts.length + j)) := h5
    refine ⟨_, hr, by simp, h3, fun x hx => ?_, fun i j hi hj => by rw [hg _ (mul_lt hi hj)]; exact h5 i j hi hj⟩
    obtain ⟨k, hk, rfl⟩ : ∃ k, k < es.length * ts.length ∧ vs k = x := by simpa using hx
    obtain ⟨d1, d2, d3, d4⟩ := divmod_lt hk
    have := (h5 _ _ d2 d3).one
    rwa [d4] at this
theorem cells_of_str {N : Nat → Prop} {e : TypeId} (hu : P.underlying e = some (.int .u8)) {ts : List LTy} (hts : leaves P e = some ts) (y : ByteArray) (u : World) :
    ∃ cs : Array Value, (Builtin.firstCells ts.length y.size (.string y)).run P u = .ok cs u ∧ cs.size = (ofBytes y.data.toList).length * ts.length ∧ (∀ i, i < (ofBytes y.data.toList).length → ((ofBytes y.data.toList).getD i []).length = ts.length) ∧
      (∀ x, x ∈ cs.toList → x.oneCell' = true) ∧ ∀ i j, i < (ofBytes y.data.toList).length → j < ts.length → RP P N w.heap (ts.getD j .no) (((ofBytes y.data.toList).getD i []).getD j .u) (cs.getD (i * ts.length + j) undef) := by
  have := leaves_int hu hts
  subst this
  have hlen : (ofBytes y.data.toList).length = y.size := by rw [ofBytes, List.length_map, Array.length_toList]; rfl
  have hx : y.extract 0 y.size = y := by
    apply ByteArray.ext
    rw [ByteArray.data_extract]
    exact Array.extract_size
  refine ⟨y.data.map fun b => .int .u8 b.toNat, ?_, ?_, fun i hi => ?_, fun x hx => ?_, fun i j hi hj => ?_⟩
  · simp only [Builtin.firstCells, hx, Sem.run_pure]
  · rw [hlen, Array.size_map, List.length_singleton, Nat.mul_one]; rfl
  · rw [getD_eq hi]; simp only [ofBytes, List.getElem_map, List.length_singleton]
  · obtain ⟨b, _, rfl⟩ : ∃ b, b ∈ y.data ∧ Value.int .u8 (b.toNat : Int) = x := by simpa using hx
    rfl
  · have : j = 0 := by simpa using hj
    subst this
    rw [hlen] at hi
    have hi' : i < y.data.size := hi
    rw [getD_eq (l := ofBytes _) (by rw [hlen]; exact hi)]
    rw [List.length_singleton, Nat.mul_one, Nat.add_zero, agetD_eq (by simpa using hi')]
    simp only [ofBytes, List.getElem_map, Array.getElem_map, Array.getElem_toList]
    exact .int .u8 _
end
end Go.AI
set_option linter.unusedVariables false
set_option linter.unusedSimpArgs false
namespace Go.AI
open Go

section
variable {P : Program} {argTypes : Array TypeId} {type : TypeId} {args : Array Value} {t t' e : TypeId} {x : Value} {ts : List LTy} {u' : TypeDesc} {w : World}

/-- append within the room -/
theorem run_append_in (g0 : argTypes[0]? = some t) (g1 : argTypes[1]? = some t') (g2 : args[1]? = some x) (hu : P.underlying t = some (.slice e)) (hu' : P.underlying t' = some u') (hz : ∀ k, u' ≠ .int k)
    (hts : leaves P e = some ts) {base : Option Addr} {len cap n : Nat} (g3 : args[0]? = some (.slice base len cap)) (hn : (Builtin.lenOf x).run P w = .ok n w) (hle : len + n ≤ cap) {cs : Array Value}
    (hcs : (Builtin.firstCells ts.length n x).run P w = .ok cs w) {w' : World} (hst : ∀ ad, base = some ad → (storeCells (ad.add (len * ts.length)) cs.toList).run P w = .ok () w') (hnone : base = none → w' = w) :
    (Builtin.append_ argTypes type args).run P w = .ok (.slice base (len + n) cap) w' := by
  have hzz : (match u' with | .int _ => true | _ => false) = false := by cases u' <;> first | rfl | exact absurd rfl (hz _)
  unfold Builtin.append_
  simp only [g0, g1, g2, g3, Sem.run_bind, run_underlying hu, run_underlying hu', Result.andThen_ok, run_sizeOf hts, Sem.run_pure]
  simp only [hzz, Bool.false_eq_true, if_false, Sem.run_bind, hn, Result.andThen_ok, Sem.run_ite, hle, if_true, Bool.not_false, hcs]
  cases base with
  | none => rw [hnone rfl]; rfl
  | some ad => simp only [Sem.run_bind, hst ad rfl, Result.andThen_ok, Sem.run_pure]

theorem big_no {nx k b : Nat} (h1 : nx ≤ 2 * k) (hb : k * b ≤ 2 ^ 47) : ¬ (nx * b > 2 ^ 48) := by
  have h2 := Nat.mul_le_mul_right b h1
  rw [Nat.mul_assoc] at h2
  generalize k * b = q at hb h2
  generalize nx * b = s at h2
  omega

/-- append beyond the room -/
theorem run_append_new (g0 : argTypes[0]? = some t) (g1 : argTypes[1]? = some t') (g2 : args[1]? = some x) (hu : P.underlying t = some (.slice e)) (hu' : P.underlying t' = some u') (hz : ∀ k, u' ≠ .int k)
    (hts : leaves P e = some ts) {base : Option Addr} {len cap n : Nat} (g3 : args[0]? = some (.slice base len cap)) (hn : (Builtin.lenOf x).run P w = .ok n w) (hle : ¬ len + n ≤ cap) {cs old : Array Value}
    (hold : (Builtin.firstCells ts.length len (.slice base len cap)).run P w.drew = .ok old w.drew) (hcs : (Builtin.firstCells ts.length n x).run P w.drew = .ok cs w.drew)
    {z : List AL} (hz0 : zeroL P e = some z) (hzl : z.length = ts.length) (hb : (len + n) * elemBytes P e ≤ 2 ^ 47 ∧ len + n ≤ 2 ^ 62) :
    ∃ newCap rest, len + n ≤ newCap ∧ rest.size = (newCap - (len + n)) * ts.length ∧
      (Builtin.append_ argTypes type args).run P w = .ok (.slice (some ⟨w.heap.size, 0, none⟩) (len + n) newCap) (w.drew.alloc (.cells (old ++ cs ++ rest) e)) := by
  have hzz : (match u' with | .int _ => true | _ => false) = false := by cases u' <;> first | rfl | exact absurd rfl (hz _)
  obtain ⟨i, zv, z1, z2, z3, rfl⟩ := zeroL_of hz0
  have hti : ∀ u : World, (typeInfo e).run P u = .ok i u := fun u => by simp [typeInfo, z1]
  have hbytes : elemBytes P e = i.bytes := by unfold elemBytes; rw [z1]
  rw [hbytes] at hb
  have hq : (Question.appendCap (len + n) cap e).forced = false := rfl
  obtain ⟨newCap, hnc, hch⟩ : ∃ newCap, len + n ≤ newCap ∧ (choose (.appendCap (len + n) cap e)).run P w = .ok newCap w.drew := by
    rw [run_choose, hq]; exact ⟨_, Nat.le_add_right _ _, rfl⟩
  have hneed : len + n ≤ 2 ^ 62 := hb.2
  have hmax : ¬ (((len + n : Nat) : Int) > IntKind.i64.max) := by
    have : IntKind.i64.max = 9223372036854775807 := rfl
    rw [this]; omega
  have hnext : ¬ (Builtin.nextslicecap (len + n) cap * i.bytes > 2 ^ 48) := big_no (nextcap_le (len + n) cap (by omega)) hb.1
  refine ⟨newCap, Builtin.zeroCells zv.cells (newCap - (len + n)), hnc, ?_, ?_⟩
  · simp only [Builtin.zeroCells, Array.size_map, Array.size_range]
    rw [← hzl]; simp
  · have hrow : (newRow e (old ++ cs ++ Builtin.zeroCells zv.cells (newCap - (len + n)))).run P w.drew = .ok ⟨w.heap.size, 0, none⟩ (w.drew.alloc (.cells (old ++ cs ++ Builtin.zeroCells zv.cells (newCap - (len + n))) e)) := rfl
    unfold Builtin.append_
    simp only [g0, g1, g2, g3, Sem.run_bind, run_underlying hu, run_underlying hu', Result.andThen_ok, run_sizeOf hts, Sem.run_pure]
    simp only [hzz, Bool.false_eq_true, if_false, Sem.run_bind, hn, Result.andThen_ok, Sem.run_ite, hle, Bool.not_false, if_true, hti, hmax, false_and, hnext, hch, run_askRoom, hold, hcs, run_zeroValue' z1 z2, hrow, Sem.run_pure]
end

section
variable {α : Type} {P : Program} {A : Ann} {F : FuncId} {h0 : Array Obj} {W : Wr} {D : Nat → Prop} {β : GM} {S : Nat → Prop} {st : St} {a : Act} {w : World} {call : CallF} {K : St → Option α} {res : α}
  {o : Oper} {j : Nat} {Q : Exit → Act → World → Prop} {argTypes : Array TypeId} {type : TypeId} {args : Array Value} {t t' e : TypeId} {x s : Value} {u' : TypeDesc}

theorem app_getD (old cs rest : Array Value) (k : Nat) : (old ++ cs ++ rest).getD k undef = if k < old.size then old.getD k undef else if k < old.size + cs.size then cs.getD (k - old.size) undef else rest.getD (k - (old.size + cs.size)) undef := by
  simp only [Array.getD_eq_getD_getElem?, Array.getElem?_append, Array.size_append]
  by_cases h1 : k < old.size
  · have : k < old.size + cs.size := by omega
    simp [h1, this]
  · by_cases h2 : k < old.size + cs.size <;> simp [h1, h2]

/-- the elements of what was appended -/
theorem app_RP {N : Nat → Prop} {hp : Array Obj} {ts : List LTy} {es xs : List (List PV)} {f : Nat → Value} {cs : Array Value} (hes : ∀ i j, i < es.length → j < ts.length → RP P N hp (ts.getD j .no) ((es.getD i []).getD j .u) (f (i * ts.length + j)))
    (hxs : ∀ i j, i < xs.length → j < ts.length → RP P N hp (ts.getD j .no) ((xs.getD i []).getD j .u) (cs.getD (i * ts.length + j) undef)) {g : Nat → Value}
    (hg1 : ∀ k, k < es.length * ts.length → g k = f k) (hg2 : ∀ k, k < xs.length * ts.length → g (es.length * ts.length + k) = cs.getD k undef) :
    ∀ i j, i < (es ++ xs).length → j < ts.length → RP P N hp (ts.getD j .no) (((es ++ xs).getD i []).getD j .u) (g (i * ts.length + j)) := by
  intro i j hi hj
  rw [List.length_append] at hi
  by_cases h : i < es.length
  · rw [hg1 _ (mul_lt h hj)]
    have : (es ++ xs).getD i [] = es.getD i [] := by simp [List.getD, List.getElem?_append_left h]
    rw [this]; exact hes i j h hj
  · have e1 : (es ++ xs).getD i [] = xs.getD (i - es.length) [] := by simp [List.getD, List.getElem?_append_right (Nat.le_of_not_lt h)]
    have e2 : i * ts.length + j = es.length * ts.length + ((i - es.length) * ts.length + j) := by
      rw [← Nat.add_assoc, ← Nat.add_mul]; congr 2; omega
    rw [e1, e2, hg2 _ (mul_lt (by omega) hj)]
    exact hxs _ j (by omega) hj
theorem app_len {ts : List LTy} {es xs : List (List PV)} (h1 : ∀ i, i < es.length → (es.getD i []).length = ts.length) (h2 : ∀ i, i < xs.length → (xs.getD i []).length = ts.length) :
    ∀ i, i < (es ++ xs).length → ((es ++ xs).getD i []).length = ts.length := by
  intro i hi
  rw [List.length_append] at hi
  by_cases h : i < es.length
  · have : (es ++ xs).getD i [] = es.getD i [] := by simp [List.getD, List.getElem?_append_left h]
    rw [this]; exact h1 i h
  · have e1 : (es ++ xs).getD i [] = xs.getD (i - es.length) [] := by simp [List.getD, List.getElem?_append_right (Nat.le_of_not_lt h)]
    rw [e1]; exact h2 _ (by omega)

/-- what is appended: its cells -/
def Src (P : Program) (N : Nat → Prop) (hp : Array Obj) (ts : List LTy) (xs : List (List PV)) (x : Value) : Prop :=
  (∀ u : World, u.heap = hp → (Builtin.lenOf x).run P u = .ok xs.length u) ∧ ∃ cs : Array Value, (∀ u : World, u.heap = hp → (Builtin.firstCells ts.length xs.length x).run P u = .ok cs u) ∧ cs.size = xs.length * ts.length ∧
    (∀ i, i < xs.length → (xs.getD i []).length = ts.length) ∧ (∀ v, v ∈ cs.toList → v.oneCell' = true) ∧
    ∀ i j, i < xs.length → j < ts.length → RP P N hp (ts.getD j .no) ((xs.getD i []).getD j .u) (cs.getD (i * ts.length + j) undef)

theorem appendK_of (R : Rel P h0 W D β S st a w) (hj : S j) (hf : ∀ c, β (.n st.r j c) = none) (g0 : argTypes[0]? = some t) (g1 : argTypes[1]? = some t') (g2 : args[1]? = some x) (g3 : args[0]? = some s)
    (hu : P.underlying t = some (.slice e)) (hu' : P.underlying t' = some u') (hz : ∀ k, u' ≠ .int k) {l : AL} (hl : LR P (NN D β st.boxes w.heap) w.heap β l s) {xs : List (List PV)} {k : AL → Acc}
    (hx : ∀ ts, leaves P e = some ts → Src P (NN D β st.boxes w.heap) w.heap ts xs x) (h : (appendK P (.n st.r j 0) e l xs k).run call st K = some res) :
    ∃ v w' β' st', (Builtin.append_ argTypes type args).run P w = .ok v w' ∧ Rel P h0 W D β' S st' a w' ∧ st'.r = st.r ∧ st'.q = st.q ∧ VR P (NN D β' st'.boxes w'.heap) w'.heap β' (.v (.wr (.n st.r j 0))) v ∧
      (k (.wr (.n st.r j 0))).run call st' K = some res := by
  unfold appendK at h
  obtain ⟨ts, hts, h⟩ := run_orFail _ _ _ h
  obtain ⟨z, hz0, h⟩ := run_orFail _ _ _ h
  obtain ⟨hzl, h⟩ := run_test _ _ _ h
  have hzl := Nat.eq_of_beq_eq_true hzl
  obtain ⟨hlen, cs, hcs, c1, c2, c3, c4⟩ := hx ts hts
  -- from nothing: es = [], a header without memory
  have fromNil : ∀ {ad : Option Addr} {β' : GM} {st' : St}, Rel P h0 W D β' S st' a w → st'.r = st.r → st'.q = st.q → Ext (NN D β st.boxes w.heap) w.heap β (NN D β' st'.boxes w.heap) w.heap β' → β' (.n st.r j 0) = none → s = .slice ad 0 0 →
      xs.length * elemBytes P e ≤ 2 ^ 47 ∧ xs.length ≤ 2 ^ 62 → (k (.wr (.n st.r j 0))).run call (st'.setB (.n st.r j 0) (some (.row e xs))) K = some res →
      ∃ v w' β' st', (Builtin.append_ argTypes type args).run P w = .ok v w' ∧ Rel P h0 W D β' S st' a w' ∧ st'.r = st.r ∧ st'.q = st.q ∧ VR P (NN D β' st'.boxes w'.heap) w'.heap β' (.v (.wr (.n st.r j 0))) v ∧
      (k (.wr (.n st.r j 0))).run call st' K = some res := by
    intro ad β' st' R' hr hq ex hn0 hs hb hk
    subst hs
    have hS : IdOk st'.r S (.n st.r j 0) := by rw [hr]; exact nid_ok hj 0
    by_cases hx0 : xs = []
    · subst hx0
      obtain ⟨R2, hv⟩ := R'.nilRow hn0 hS hts
      have hcs0 : cs.toList = [] := by
        have : cs.size = 0 := by simpa using c1
        exact List.length_eq_zero_iff.1 (by simpa using this)
      refine ⟨_, w, _, _, run_append_in (len := 0) (cap := 0) (n := 0) g0 g1 g2 hu hu' hz hts g3 (hlen w rfl) (Nat.le_refl _) (hcs w rfl) (fun ad _ => by rw [hcs0]; rfl) (fun _ => rfl), R2, hr, hq, .v (.wr _) _ (hv _), hk⟩
    · have hpos : 0 < xs.length := List.length_pos_iff.2 hx0
      have hold : (Builtin.firstCells ts.length 0 (.slice ad 0 0)).run P w.drew = .ok #[] w.drew := by
        cases ad with
        | none => rfl
        | some ad => simp [Builtin.firstCells, loadCells, loadCellsFrom]
      obtain ⟨newCap, rest, n1, n2, n3⟩ := run_append_new (type := type) (len := 0) (cap := 0) g0 g1 g2 hu hu' hz hts g3 (hlen w rfl) (by omega) hold (hcs w.drew rfl) hz0 hzl (by rw [Nat.zero_add]; exact hb)
      rw [Nat.zero_add] at n1 n2 n3
      have hsz : (#[] ++ cs ++ rest : Array Value).size = newCap * ts.length := by
        rw [Array.size_append, Array.size_append, c1, n2, Nat.sub_mul]
        have := Nat.mul_le_mul_right ts.length n1
        simp; omega
      obtain ⟨R2, hv⟩ := R'.newRow (w' := w.drew.alloc (.cells (#[] ++ cs ++ rest) e)) hn0 hS hts xs newCap _ e (0, 0) (unfro00 _) c2 n1 (by rw [hsz]; exact Nat.le_refl _)
        (fun i l hi hl => by
          rw [app_getD, if_neg (by simp), if_pos (by rw [c1]; simpa using mul_lt hi hl)]
          simpa using (c4 i l hi hl).mono ex.n) rfl ⟨rfl, rfl⟩
      exact ⟨_, _, _, _, n3, R2, hr, hq, .v (.wr _) _ hv, hk⟩
  cases l with
  | nils =>
    obtain ⟨ad, hs⟩ := hl
    obtain ⟨hb, h⟩ := run_test _ _ _ h
    exact fromNil R rfl rfl (Ext.refl _ _ _) (hf 0) hs (by rw [Bool.and_eq_true, decide_eq_true_eq, decide_eq_true_eq] at hb; exact hb) (run_setB _ _ _ h)
  | wr id =>
    simp only at h
    rw [run_getB] at h
    split at h
    case h_2 => simp [Acc.run] at h
    rename_i e' es hbx
    obtain ⟨he, h1⟩ := run_test _ _ _ h
    obtain ⟨hb, h2⟩ := run_test _ _ _ h1
    have h3 := run_setB _ _ _ (run_setB _ _ _ h2)
    have := Nat.eq_of_beq_eq_true he
    subst this
    have hb : (es.length + xs.length) * elemBytes P e ≤ 2 ^ 47 ∧ es.length + xs.length ≤ 2 ^ 62 := by
      rw [Bool.and_eq_true, decide_eq_true_eq, decide_eq_true_eq] at hb
      exact hb
    obtain ⟨hd, p1, p2⟩ := hl
    obtain ⟨hd', q1, ts', q2, q3, q4, q5, q6, q7⟩ := R.mem.bx id _ hbx
    rw [p1] at q1; cases q1
    rw [hts] at q2; cases q2
    rcases p2 with ⟨p2, p3, ad, hs⟩ | ⟨b, p2, hs⟩
    · have hes : es = [] := List.length_eq_zero_iff.1 (by omega)
      subst hes
      refine fromNil (R.drop id) rfl rfl (R.mem.drop_ext id) (hf 0) hs (by simpa using hb) ?_
      simpa using h3
    · rcases q7 with ⟨q7, _⟩ | ⟨b', c, ty, fr, f1, f2, f3, f4, f5⟩
      · rw [p2] at q7; cases q7
      rw [p2] at f1; cases f1
      rw [q4] at hs
      by_cases hle : es.length + xs.length ≤ hd.cap
      · -- in place
        have hsz : es.length * ts.length + cs.toList.length ≤ c.size := by
          have := Nat.mul_le_mul_right ts.length hle
          rw [Nat.add_mul] at this
          rw [Array.length_toList (xs := cs), c1]; omega
        obtain ⟨w', s1, s2, s3, s4, s5⟩ := run_storeCells (P := P) b (es.length * ts.length) ty fr cs.toList 0 c w f2 f3 (by rw [Nat.add_zero]; exact hsz) c3
        rw [Nat.add_zero] at s4
        have hs3 : ∀ k, hd.blk ≠ some k → w'.heap[k]? = w.heap[k]? := fun k hk => s3 k (fun e => hk (by rw [p2, e]))
        have hid : id ≠ .n st.r j 0 := by
          intro e; rw [e, hf 0] at p1; cases p1
        have ex := R.mem.move_ext (id' := .n st.r j 0) hbx rfl (hf 0) (h' := ⟨some b, es.length + xs.length, hd.cap, ts.length⟩) p1 p2.symm (.row e (es ++ xs)) rfl s2 hs3
        have hpsz : (putArr c (es.length * ts.length) cs.toList).size = c.size := putArr_size _ _ _ hsz
        have hget : ∀ k, (putArr c (es.length * ts.length) cs.toList).getD k undef = if k < es.length * ts.length then c.getD k undef else if k < es.length * ts.length + cs.size then cs.getD (k - es.length * ts.length) undef else c.getD k undef := by
          intro k
          unfold putArr
          rw [toArray_getD, putAt_getD _ _ _ (by simpa using hsz), arr_getD, arr_getD, Array.length_toList (xs := cs)]
        have R2 := R.move (id' := .n st.r j 0) hbx rfl (hf 0) (nid_ok hj 0) (h' := ⟨some b, es.length + xs.length, hd.cap, ts.length⟩) p1 p2.symm (.row e (es ++ xs)) rfl (w' := w') s5 s2 hs3
          ⟨_, updB_same _ _ _, ts, hts, rfl, by rw [List.length_append], app_len q5 c2, by rw [List.length_append]; exact hle, .inr ⟨b, _, ty, fr, rfl, s4, fun k hk => f3 k (by rwa [hpsz] at hk), by rw [hpsz]; exact f4,
            app_RP (g := fun k => (putArr c (es.length * ts.length) cs.toList).getD k undef) (fun i j hi hj => (f5 i j hi hj).mono ex.n) (fun i j hi hj => (c4 i j hi hj).mono ex.n)
              (fun k hk => by rw [hget, if_pos hk])
              (fun k hk => by rw [hget, if_neg (by omega), if_pos (by rw [c1]; omega), Nat.add_sub_cancel_left])⟩⟩
        refine ⟨_, w', _, _, run_append_in (len := es.length) (cap := hd.cap) (n := xs.length) g0 g1 g2 hu hu' hz hts (by rw [g3, hs]) (hlen w rfl) hle (hcs w rfl) (fun ad had => ?_) (fun h => by cases h), R2, rfl, rfl,
          .v (.wr _) _ ⟨_, updB_same _ _ _, .inr ⟨b, rfl, rfl⟩⟩, h3⟩
        cases had
        rw [addr_add, Nat.zero_add]; exact s1
      · -- a new block
        have hold : ∃ old : Array Value, (Builtin.firstCells ts.length es.length (.slice (some ⟨b, 0, none⟩) es.length hd.cap)).run P w.drew = .ok old w.drew ∧ old.size = es.length * ts.length ∧
            ∀ i j, i < es.length → j < ts.length → RP P (NN D β st.boxes w.heap) w.heap (ts.getD j .no) ((es.getD i []).getD j .u) (old.getD (i * ts.length + j) undef) := by
          obtain ⟨old, o1, o2, o3, o4, o5⟩ := cells_of_list hts (row_list (R.mem.bx id _ hbx) ⟨hd, p1, .inr ⟨b, p2, rfl⟩⟩) w.drew rfl
          rw [q4] at o1
          exact ⟨old, o1, o2, o5⟩
        obtain ⟨old, o1, o2, o3⟩ := hold
        obtain ⟨newCap, rest, n1, n2, n3⟩ := run_append_new (type := type) g0 g1 g2 hu hu' hz hts (by rw [g3, hs]) (hlen w rfl) hle o1 (hcs w.drew rfl) hz0 hzl hb
        have ex := R.mem.drop_ext id
        have hsz : (old ++ cs ++ rest : Array Value).size = newCap * ts.length := by
          rw [Array.size_append, Array.size_append, c1, n2, o2, Nat.sub_mul, Nat.add_mul]
          have := Nat.mul_le_mul_right ts.length n1
          rw [Nat.add_mul] at this
          omega
        obtain ⟨R2, hv⟩ := (R.drop id).newRow (w' := w.drew.alloc (.cells (old ++ cs ++ rest) e)) (hf 0) (nid_ok hj 0) hts (es ++ xs) newCap _ e (0, 0) (unfro00 _) (app_len q5 c2) (by rw [List.length_append]; exact n1) (by rw [hsz]; exact Nat.le_refl _)
          (app_RP (g := fun k => (old ++ cs ++ rest).getD k undef) (f := fun k => old.getD k undef) (fun i j hi hj => (o3 i j hi hj).mono ex.n) (fun i j hi hj => (c4 i j hi hj).mono ex.n)
            (fun k hk => by show (old ++ cs ++ rest).getD k undef = _; rw [app_getD, if_pos (by rw [o2]; exact hk)])
            (fun k hk => by show (old ++ cs ++ rest).getD _ undef = _; rw [app_getD, if_neg (by rw [o2]; omega), if_pos (by rw [o2, c1]; omega), o2, Nat.add_sub_cancel_left])) rfl ⟨rfl, rfl⟩
        rw [List.length_append] at R2 hv
        exact ⟨_, _, _, _, n3, R2, rfl, rfl, .v (.wr _) _ hv, h3⟩
  | _ => simp [Acc.run] at h

theorem op_append (R : Rel P h0 W D β S st a w) (hj : S j) (hf : ∀ c, β (.n st.r j c) = none) {c : Call} (ho : o.op = .call c) (hc : c.callee = .builtin .append) (h : (opK P A F o st.r j).run call st K = some res) :
    o.wp P a w (Good P h0 W D S st.r st.q K res) Q := by
  simp only [opK, ho, hc] at h
  split at h
  case h_2 => simp [Acc.run] at h
  rename_i t t' s x ht hx
  rw [run_evK, run_evK] at h
  obtain ⟨e, he, h⟩ := run_orFail _ _ _ h
  obtain ⟨hzz, h⟩ := run_test _ _ _ h
  have hu := sliceElem_of he
  have a0 : c.argTypes[0]? = some t := by rw [← Array.getElem?_toList, ht]; rfl
  have a1 : c.argTypes[1]? = some t' := by rw [← Array.getElem?_toList, ht]; rfl
  have a2 : (c.args.map a.eval)[1]? = some (a.eval x) := by rw [Array.getElem?_map, ← Array.getElem?_toList, hx]; rfl
  have a3 : (c.args.map a.eval)[0]? = some (a.eval s) := by rw [Array.getElem?_map, ← Array.getElem?_toList, hx]; rfl
  obtain ⟨u', hu', hz⟩ : ∃ u', P.underlying t' = some u' ∧ ∀ k, u' ≠ .int k := by
    cases hp : P.underlying t' with
    | none => simp [hp] at hzz
    | some u' => exact ⟨u', rfl, fun k e => by subst e; simp [hp] at hzz⟩
  have hvs := R.ev s
  have hvx := R.ev x
  have fin : ∀ {v w' β' st'}, (Builtin.append_ c.argTypes o.type (c.args.map a.eval)).run P w = .ok v w' → Rel P h0 W D β' S st' a w' → st'.r = st.r → st'.q = st.q →
      VR P (NN D β' st'.boxes w'.heap) w'.heap β' (.v (.wr (.n st.r j 0))) v → (putK o.dst (.v (.wr (.n st.r j 0))) .done).run call st' K = some res → o.wp P a w (Good P h0 W D S st.r st.q K res) Q := by
    intro v w' β' st' hrun R' hr hq hv hk
    rw [← hr, ← hq]
    refine wp_val (v := v) (w' := w') ?_ (R'.good_put hv hk)
    simp only [execOp, ho, resolve, hc, invoke, builtin, Sem.run_bind, Sem.run_pure, Result.andThen_ok, hrun]
  split at h
  · rename_i ls b e1 e2
    rw [e1] at hvs; rw [e2] at hvx
    obtain ⟨hb, h⟩ := run_test _ _ _ h
    obtain ⟨el, b1, b2⟩ := isBytes_of hb
    rw [hu] at b1; cases b1
    obtain ⟨y, hy, rfl⟩ := str_leaf hvx
    have hlen : (ofBytes y.data.toList).length = y.size := by rw [ofBytes, List.length_map, Array.length_toList]; rfl
    obtain ⟨v, w', β', st', r1, r2, r3, r4, r5, r6⟩ := appendK_of (type := o.type) R hj hf a0 a1 a2 a3 hu hu' hz hvs.leaf (fun ts hts => by
      refine ⟨fun u _ => by rw [hy, hlen]; rfl, ?_⟩
      obtain ⟨cs, k1, k2, k3, k4, k5⟩ := cells_of_str (P := P) (w := w) (N := NN D β st.boxes w.heap) b2 hts y w
      refine ⟨cs, fun u _ => ?_, k2, k3, k4, k5⟩
      obtain ⟨cs', k1', _⟩ := cells_of_str (P := P) (w := w) (N := NN D β st.boxes w.heap) b2 hts y u
      rw [hy, hlen]
      simp only [Builtin.firstCells, Sem.run_pure] at k1 k1' ⊢
      cases k1; rfl) h
    exact fin r1 r2 r3 r4 r5 r6
  · rename_i ls lx hn e1 e2
    rw [e1] at hvs; rw [e2] at hvx
    obtain ⟨xs, hxs, h⟩ := listK_of R hvx.leaf h
    obtain ⟨v, w', β', st', r1, r2, r3, r4, r5, r6⟩ := appendK_of (type := o.type) R hj hf a0 a1 a2 a3 hu hu' hz hvs.leaf (fun ts hts => by
      obtain ⟨cs, k1, k2, k3, k4, k5⟩ := cells_of_list hts hxs w rfl
      refine ⟨fun u hu => ?_, cs, fun u hu => ?_, k2, k3, k4, k5⟩
      · obtain ⟨ad, cap, hv, _, _⟩ := hxs
        rw [hv]; rfl
      · obtain ⟨cs', k1', k2', _⟩ := cells_of_list hts hxs u hu
        have : cs' = cs := by
          obtain ⟨ad, cap, hv, _, hh⟩ := hxs
          rw [hv] at k1 k1'
          rcases hh with rfl | ⟨ts', b, off, vs, h1, rfl, h3, h4, h5⟩
          · cases ad with
            | none => cases k1; cases k1'; rfl
            | some ad =>
              simp [Builtin.firstCells, loadCells, loadCellsFrom] at k1 k1'
              first | (rw [k1, k1']) | (rw [← k1, ← k1'])
          · rw [hts] at h1; cases h1
            simp only [Builtin.firstCells] at k1 k1'
            rw [loadCells_list (P := P) (w := w) h4] at k1
            rw [loadCells_list (P := P) (w := u) (fun i hi => by rw [hu]; exact h4 i hi)] at k1'
            cases k1; cases k1'; rfl
        rw [← this]; exact k1') h
    exact fin r1 r2 r3 r4 r5 r6
  · simp [Acc.run] at h
end
end Go.AI
set_option linter.unusedVariables false
set_option linter.unusedSimpArgs false
namespace Go.AI
open Go

theorem goS_mono {f g : TypeId → Option (List LTy)} (h : ∀ t l, f t = some l → g t = some l) : ∀ (fs : List Field) (o : Nat) (l : List LTy), goS f fs o = some l → goS g fs o = some l
  | [], o, l, hl => hl
  | x :: xs, o, l, hl => by
    simp only [goS] at hl ⊢
    cases hb : Nat.beq x.offset o with
    | false => simp [hb] at hl
    | true =>
      simp only [hb, cond_true] at hl ⊢
      cases h1 : f x.type with
      | none => simp [h1] at hl
      | some l1 =>
        simp only [h1] at hl
        rw [h _ _ h1]
        simp only
        cases h2 : goS f xs (o + l1.length) with
        | none => simp [h2] at hl
        | some l2 =>
          simp only [h2] at hl
          rw [goS_mono h xs _ l2 h2]; exact hl
theorem leavesF_succ {P : Program} : ∀ (n : Nat) (t : TypeId) (l : List LTy), leavesF P n t = some l → leavesF P (n + 1) t = some l
  | 0, t, l, h => by simp [leavesF] at h
  | n + 1, t, l, h => by
    rw [leavesF] at h ⊢
    cases hu : P.underlying t with
    | none => simp [hu] at h
    | some u =>
      rw [hu] at h
      cases u with
      | struct fs => exact goS_mono (fun t l => leavesF_succ n t l) _ _ _ h
      | array k e =>
        simp only at h ⊢
        cases h1 : leavesF P n e with
        | none => simp [h1] at h
        | some l1 => rw [leavesF_succ n e l1 h1]; simpa [h1] using h
      | _ => exact h
theorem leavesF_le {P : Program} {t : TypeId} {l : List LTy} {n m : Nat} (hnm : n ≤ m) (h : leavesF P n t = some l) : leavesF P m t = some l := by
  induction hnm with
  | refl => exact h
  | step _ ih => exact leavesF_succ _ _ _ ih
theorem leavesF_uniq {P : Program} {t : TypeId} {l l' : List LTy} {n : Nat} (h : leavesF P n t = some l) (h' : leaves P t = some l') : l = l' := by
  have h1 := leavesF_le (Nat.le_max_left n 12) h
  have h2 := leavesF_le (Nat.le_max_right n 12) (leaves_of h').1
  rw [h1] at h2; cases h2; rfl

theorem eqGuard_off {P : Program} : ∀ (n : Nat) (t : TypeId), eqTyF P n t = true → ∀ d, n ≤ d → P.eqGuardType d t = false
  | 0, t, h, d, _ => by simp [eqTyF] at h
  | n + 1, t, h, d, hd => by
    cases d with
    | zero => omega
    | succ d =>
      rw [eqTyF] at h
      rw [Program.eqGuardType]
      split at h
      · rename_i hu; simp [hu]
      · rename_i hu; simp [hu]
      · rename_i hu; simp [hu]
      · rename_i fs hu
        simp only [Bool.and_eq_true, List.all_eq_true] at h
        simp only [hu]
        rw [Bool.eq_false_iff]
        intro hc
        obtain ⟨i, hi, hc⟩ := Array.any_eq_true.1 hc
        simp only [Bool.and_eq_true] at hc
        have := (h.2 fs[i] (by simp)).2.2
        rw [eqGuard_off n _ this d (by omega)] at hc
        exact absurd hc.2 (by simp)
      · rename_i k e hu
        simp only [Bool.and_eq_true] at h
        simp only [hu]
        exact eqGuard_off n e h.2 d (by omega)
      · cases h

section
variable {P : Program}

theorem run_forIn_range {n : Nat} {w : World} (f : Nat → Sem Bool) (g : Nat → Bool) (h : ∀ i, i < n → (f i).run P w = .ok (g i) w) :
    ((do for i in [0:n] do if !(← f i) then return false
         pure true : Sem Bool)).run P w = .ok ((List.range n).all g) w := by
  have key : ∀ (l : List Nat), (∀ i, i ∈ l → i < n) →
      ((forIn l ((none, ()) : Option Bool × Unit) fun i r => do
          let b ← f i
          if (!b) = true then pure (ForInStep.done (some false, ())) else pure (ForInStep.yield (none, ())) : Sem (Option Bool × Unit))).run P w
        = .ok (if l.all g then none else some false, ()) w := by
    intro l
    induction l with
    | nil => intro _; simp
    | cons i l ih =>
      intro hl
      simp only [List.forIn_cons, Sem.run_bind, h i (hl i (by simp)), Result.andThen_ok, Sem.run_ite]
      cases hg : g i with
      | false => simp [hg]
      | true =>
        simp only [Bool.not_true, Bool.false_eq_true, if_false, Sem.run_pure, Result.andThen_ok, List.all_cons, hg, Bool.true_and]
        exact ih (fun i hi => hl i (by simp [hi]))
  have := key (List.range n) (fun i hi => by simpa using hi)
  simp only [Std.Legacy.Range.forIn_eq_forIn_range', Std.Legacy.Range.size, Nat.sub_zero, Nat.add_sub_cancel, Nat.div_one, Sem.run_bind]
  rw [← List.range_eq_range']
  rw [this]
  simp only [Result.andThen_ok]
  split <;> simp_all

def leafEq (t : LTy) (a b : AL) : Bool := eqT t a b == some true
def allEq (ts : List LTy) (a b : List AL) (o n : Nat) : Bool := (List.range n).all fun i => leafEq (ts.getD (o + i) .no) (a.getD (o + i) .dead) (b.getD (o + i) .dead)
theorem allEq_add (ts : List LTy) (a b : List AL) (o n m : Nat) : allEq ts a b o (n + m) = (allEq ts a b o n && allEq ts a b (o + n) m) := by
  unfold allEq
  rw [List.range_add, List.all_append, List.all_map]
  congr 2
  funext i
  simp [Function.comp, Nat.add_assoc]
theorem allEq_one (ts : List LTy) (a b : List AL) (o : Nat) : allEq ts a b o 1 = leafEq (ts.getD o .no) (a.getD o .dead) (b.getD o .dead) := by
  simp [allEq]

theorem eqTs_of : ∀ {ts : List LTy} {a b : List AL} {c : Bool}, eqTs ts a b = some c → a.length = ts.length ∧ b.length = ts.length ∧ (∀ i, i < ts.length → (eqT (ts.getD i .no) (a.getD i .dead) (b.getD i .dead)).isSome = true) ∧
    c = allEq ts a b 0 ts.length
  | [], [], [], c, h => by cases h; exact ⟨rfl, rfl, fun i hi => absurd hi (Nat.not_lt_zero _), rfl⟩
  | [t], [x], [y], c, h => by
    have h' : eqT t x y = some c := h
    refine ⟨rfl, rfl, fun i hi => ?_, ?_⟩
    · have : i = 0 := by simpa using hi
      subst this; simp [h']
    · rw [List.length_singleton, allEq_one]
      simp [leafEq, h']
  | t :: t2 :: ts, x :: as, y :: bs, c, h => by
    simp only [eqTs] at h
    split at h
    · rename_i p q h1 h2
      cases h
      obtain ⟨i1, i2, i3, i4⟩ := eqTs_of h2
      refine ⟨by simp [i1], by simp [i2], fun i hi => ?_, ?_⟩
      · cases i with
        | zero => simp [h1]
        | succ i => simpa using i3 i (by simpa using hi)
      · rw [i4]
        have e1 : (t :: t2 :: ts).length = 1 + (t2 :: ts).length := by simp; omega
        rw [e1, allEq_add, allEq_one]
        have e2 : leafEq ((t :: t2 :: ts).getD 0 .no) ((x :: as).getD 0 .dead) ((y :: bs).getD 0 .dead) = p := by simp [leafEq, h1]
        rw [e2]
        congr 1
        unfold allEq
        congr 1
        funext i
        rw [Nat.zero_add, Nat.zero_add, Nat.add_comm 1 i]
        simp
    · cases h
  | [], [], _ :: _, c, h => by simp [eqTs] at h
  | [], _ :: _, _, c, h => by simp [eqTs] at h
  | _ :: _, [], _, c, h => by simp [eqTs] at h
  | _ :: _, _ :: _, [], c, h => by simp [eqTs] at h
  | [t], x :: x2 :: as, y :: bs, c, h => by
    simp only [eqTs] at h
    split at h
    · rename_i p q h1 h2; cases bs <;> simp [eqTs] at h2
    · cases h
  | [t], [x], y :: y2 :: bs, c, h => by
    simp only [eqTs] at h
    split at h
    · rename_i p q h1 h2; simp [eqTs] at h2
    · cases h

theorem run_part' {t : TypeId} {ts ts' : List LTy} {n : Nat} (ht : leavesF P n t = some ts) (hs : (leaves P t).isSome = true) (vs : List Value) (o : Nat) (ho : o + ts.length ≤ vs.length) (h1 : isAggB P t = false → ts.length = 1) (w : World) :
    (part t vs.toArray o).run P w = .ok (valOf P t (cutAt vs o ts.length)) w := by
  cases h : leaves P t with
  | none => simp [h] at hs
  | some l => have := leavesF_uniq ht h; subst this; exact run_part h vs o ho h1 w

/-- two values of a type are compared cell by cell -/
theorem run_equalIn {N : Nat → Prop} {hp : Array Obj} {β : GM} (w : World) : ∀ (n : Nat) (t : TypeId) (m : Nat) (ts : List LTy), eqTyF P n t = true → leavesF P m t = some ts → (isAggB P t = false → ts.length = 1) ∧
    ∀ (T : List LTy) (a b : List AL) (xs ys : List Value) (o : Nat), o + ts.length ≤ xs.length → o + ts.length ≤ ys.length → (∀ i, i < ts.length → T.getD (o + i) .no = ts.getD i .no) →
    (∀ i, i < ts.length → LR P N hp β (a.getD (o + i) .dead) (xs.getD (o + i) undef)) → (∀ i, i < ts.length → LR P N hp β (b.getD (o + i) .dead) (ys.getD (o + i) undef)) →
    (∀ i, i < ts.length → (eqT (T.getD (o + i) .no) (a.getD (o + i) .dead) (b.getD (o + i) .dead)).isSome = true) →
    ∀ d, n ≤ d → (Op.equalIn d t (valOf P t (cutAt xs o ts.length)) (valOf P t (cutAt ys o ts.length))).run P w = .ok (allEq T a b o ts.length) w
  | 0, t, m, ts, h, _ => by simp [eqTyF] at h
  | n + 1, t, m, ts, h, hl => by
    cases m with
    | zero => simp [leavesF] at hl
    | succ m =>
    rw [eqTyF] at h
    rw [leavesF] at hl
    have leafcase : ∀ (lt : LTy) (u : TypeDesc), P.underlying t = some u → isAggB P t = false → ts = [lt] → (∀ x y (p q : AL), LR P N hp β p x → LR P N hp β q y → (eqT lt p q).isSome = true → ∀ d, (Op.equalIn (d + 1) t x y).run P w = .ok (leafEq lt p q) w) →
        (isAggB P t = false → ts.length = 1) ∧ ∀ (T : List LTy) (a b : List AL) (xs ys : List Value) (o : Nat), o + ts.length ≤ xs.length → o + ts.length ≤ ys.length → (∀ i, i < ts.length → T.getD (o + i) .no = ts.getD i .no) →
        (∀ i, i < ts.length → LR P N hp β (a.getD (o + i) .dead) (xs.getD (o + i) undef)) → (∀ i, i < ts.length → LR P N hp β (b.getD (o + i) .dead) (ys.getD (o + i) undef)) →
        (∀ i, i < ts.length → (eqT (T.getD (o + i) .no) (a.getD (o + i) .dead) (b.getD (o + i) .dead)).isSome = true) →
        ∀ d, n + 1 ≤ d → (Op.equalIn d t (valOf P t (cutAt xs o ts.length)) (valOf P t (cutAt ys o ts.length))).run P w = .ok (allEq T a b o ts.length) w := by
      intro lt u hu hagg hts hrun
      subst hts
      refine ⟨fun _ => rfl, fun T a b xs ys o h1 h2 h3 h4 h5 h6 d hd => ?_⟩
      obtain ⟨d, rfl⟩ : ∃ k, d = k + 1 := ⟨d - 1, by omega⟩
      have e0 := h3 0 (by simp)
      rw [Nat.add_zero] at e0
      have := hrun (xs.getD o undef) (ys.getD o undef) _ _ (by simpa using h4 0 (by simp)) (by simpa using h5 0 (by simp)) (by have := h6 0 (by simp); rw [Nat.add_zero, e0] at this; exact this) d
      rw [List.length_singleton, allEq_one, e0]
      simp only [valOf, hagg, Bool.false_eq_true, if_false]
      rw [cutAt_getD _ _ _ (by simpa using h1) 0 (by simp), cutAt_getD _ _ _ (by simpa using h2) 0 (by simp), Nat.add_zero]
      exact this
    cases hu : P.underlying t with
    | none => simp [hu] at h
    | some u =>
      rw [hu] at h hl
      cases u with
      | bool =>
        refine leafcase .bool .bool hu (by simp [isAggB, hu]) (by simpa using hl.symm) fun x y p q hp hq hs d => ?_
        unfold eqT at hs
        split at hs
        · rename_i e; cases e
        · cases hp; cases hq
          rw [run_equalIn_bool' w d t _ _ hu]; simp [leafEq, eqT]
        · rename_i e; cases e
        · cases hs
      | int k =>
        refine leafcase (.int k) (.int k) hu (by simp [isAggB, hu]) (by simpa using hl.symm) fun x y p q hp hq hs d => ?_
        unfold eqT at hs
        split at hs
        · rename_i k1 k2 a k3 b e
          cases e
          cases hp; cases hq
          by_cases e1 : k = k2
          · by_cases e2 : k = k3
            · subst e1; subst e2; rw [run_equalIn_int w d t k k a b hu]; simp [leafEq, eqT]
            · simp [e2] at hs
          · simp [e1] at hs
        · rename_i e; cases e
        · rename_i e; cases e
        · cases hs
      | string =>
        refine leafcase .str .string hu (by simp [isAggB, hu]) (by simpa using hl.symm) fun x y p q hp hq hs d => ?_
        unfold eqT at hs
        split at hs
        · rename_i e; cases e
        · rename_i e; cases e
        · obtain ⟨x', rfl, rfl⟩ := hp
          obtain ⟨y', rfl, rfl⟩ := hq
          rw [run_equalIn_string w d t x' y' hu]
          simp [leafEq, eqT, ByteArray.toList_eq]
        · cases hs
      | struct fs =>
        simp only [Bool.and_eq_true, List.all_eq_true, Bool.not_eq_true'] at h
        have hagg : isAggB P t = true := by simp [isAggB, hu]
        refine ⟨fun h => absurd h (by rw [hagg]; decide), fun T a b xs ys o h1 h2 h3 h4 h5 h6 d hd => ?_⟩
        obtain ⟨d, rfl⟩ : ∃ k, d = k + 1 := ⟨d - 1, by omega⟩
        simp only [valOf, hagg, if_true]
        have hf : P.fieldsOf t = fs := by simp [Program.fieldsOf, hu]
        rw [run_equalIn_struct (P := P) w d t _ _ (by rw [hf]; exact hu) h.1, hf]
        have cx := cutAt_length xs o ts.length h1
        have cy := cutAt_length ys o ts.length h2
        have fields : ∀ (l : List Field) (off : Nat) (lt : List LTy), (∀ f, f ∈ l → f ∈ fs.toList) → goS (leavesF P m) l off = some lt → off + lt.length ≤ ts.length → (∀ i, i < lt.length → ts.getD (off + i) .no = lt.getD i .no) →
            (Op.eqFields d (cutAt xs o ts.length).toArray (cutAt ys o ts.length).toArray l).run P w = .ok (allEq T a b (o + off) lt.length) w := by
          intro l
          induction l with
          | nil => intro off lt _ hg _ _; simp only [goS, Option.some.injEq] at hg; subst hg; simp [Op.eqFields, allEq]
          | cons f l ih =>
            intro off lt hm hg hle hty
            simp only [goS] at hg
            cases hb : Nat.beq f.offset off with
            | false => simp [hb] at hg
            | true =>
              simp only [hb, cond_true] at hg
              cases g1 : leavesF P m f.type with
              | none => simp [g1] at hg
              | some l1 =>
                simp only [g1] at hg
                cases g2 : goS (leavesF P m) l (off + l1.length) with
                | none => simp [g2] at hg
                | some l2 =>
                  simp only [g2, Option.some.injEq] at hg
                  subst hg
                  have hoff := Nat.eq_of_beq_eq_true hb
                  rw [List.length_append] at hle
                  have hf2 := h.2 f (hm f (by simp))
                  obtain ⟨ia, ib⟩ := run_equalIn (N := N) (hp := hp) (β := β) w n f.type m l1 hf2.2.2 g1
                  have hsub : ∀ i, i < l1.length → ts.getD (off + i) .no = l1.getD i .no := fun i hi => by
                    rw [hty i (by rw [List.length_append]; omega)]; simp [List.getD, List.getElem?_append_left hi]
                  have e := ib T a b xs ys (o + off) (by omega) (by omega) (fun i hi => by rw [Nat.add_assoc, h3 _ (by omega)]; exact hsub i hi)
                    (fun i hi => by rw [Nat.add_assoc]; exact h4 _ (by omega)) (fun i hi => by rw [Nat.add_assoc]; exact h5 _ (by omega)) (fun i hi => by rw [Nat.add_assoc]; exact h6 _ (by omega)) d (by omega)
                  have hname : f.name ≠ "_" := by simpa using hf2.1
                  have p1 := run_part' (ts' := l1) g1 hf2.2.1 (cutAt xs o ts.length) f.offset (by rw [cx, hoff]; omega) ia w
                  have p2 := run_part' (ts' := l1) g1 hf2.2.1 (cutAt ys o ts.length) f.offset (by rw [cy, hoff]; omega) ia w
                  have cut2 : ∀ zs : List Value, o + ts.length ≤ zs.length → cutAt (cutAt zs o ts.length) f.offset l1.length = cutAt zs (o + off) l1.length := by
                    intro zs hz
                    unfold cutAt
                    rw [hoff, List.drop_take, List.drop_drop, List.take_take]
                    congr 1; omega
                  rw [cut2 xs h1] at p1
                  rw [cut2 ys h2] at p2
                  simp only [Op.eqFields, if_pos hname, Sem.run_bind, p1, p2, Result.andThen_ok, e, Sem.run_ite]
                  rw [List.length_append, allEq_add]
                  have ih' := ih (off + l1.length) l2 (fun g hg => hm g (by simp [hg])) g2 (by omega) (fun i hi => by
                    rw [Nat.add_assoc, hty _ (by rw [List.length_append]; omega)]
                    simp [List.getD, List.getElem?_append_right])
                  rw [← Nat.add_assoc] at ih'
                  cases hq : allEq T a b (o + off) l1.length with
                  | false => simp
                  | true => simp only [Bool.not_true, Bool.false_eq_true, if_false, Bool.true_and]; exact ih'
        have := fields fs.toList 0 ts (fun f hf => hf) hl (by simp) (fun i hi => by rw [Nat.zero_add])
        rwa [Nat.add_zero] at this
      | array k e =>
        simp only [Bool.and_eq_true] at h
        have hagg : isAggB P t = true := by simp [isAggB, hu]
        refine ⟨fun h => absurd h (by rw [hagg]; decide), fun T a b xs ys o h1 h2 h3 h4 h5 h6 d hd => ?_⟩
        obtain ⟨d, rfl⟩ : ∃ k, d = k + 1 := ⟨d - 1, by omega⟩
        simp only at hl
        cases g1 : leavesF P m e with
        | none => simp [g1] at hl
        | some l1 =>
          simp only [g1, Option.some.injEq] at hl
          subst hl
          have hlen : (List.replicate k l1).flatten.length = k * l1.length := by simp
          rw [hlen] at h1 h2 h3 h4 h5 h6 ⊢
          cases hle : leaves P e with
          | none => simp [hle] at h
          | some le =>
            have := leavesF_uniq g1 hle
            subst this
            obtain ⟨ia, ib⟩ := run_equalIn (N := N) (hp := hp) (β := β) w n e m l1 h.2 g1
            have cx := cutAt_length xs o (k * l1.length) h1
            have cy := cutAt_length ys o (k * l1.length) h2
            have cut2 : ∀ (zs : List Value) (i : Nat), o + k * l1.length ≤ zs.length → i < k → cutAt (cutAt zs o (k * l1.length)) (i * l1.length) l1.length = cutAt zs (o + i * l1.length) l1.length := by
              intro zs i hz hi
              have hm := Nat.mul_le_mul_right l1.length (Nat.succ_le_of_lt hi)
              rw [Nat.succ_mul] at hm
              unfold cutAt
              rw [List.drop_take, List.drop_drop, List.take_take]
              congr 1; omega
            simp only [valOf, hagg, if_true, Op.equalIn, Sem.run_bind, run_underlying hu, Result.andThen_ok, run_sizeOf hle]
            have step : ∀ i, i < k → ((do let x ← part e (cutAt xs o (k * l1.length)).toArray (i * l1.length); let y ← part e (cutAt ys o (k * l1.length)).toArray (i * l1.length); Op.equalIn d e x y : Sem Bool)).run P w
                = .ok (allEq T a b (o + i * l1.length) l1.length) w := by
              intro i hi
              have hm := Nat.mul_le_mul_right l1.length (Nat.succ_le_of_lt hi)
              rw [Nat.succ_mul] at hm
              have p1 := run_part hle (cutAt xs o (k * l1.length)) (i * l1.length) (by rw [cx]; omega) ia w
              have p2 := run_part hle (cutAt ys o (k * l1.length)) (i * l1.length) (by rw [cy]; omega) ia w
              rw [cut2 xs i h1 hi] at p1
              rw [cut2 ys i h2 hi] at p2
              simp only [Sem.run_bind, p1, p2, Result.andThen_ok]
              exact ib T a b xs ys (o + i * l1.length) (by omega) (by omega)
                (fun j hj => by rw [Nat.add_assoc, h3 _ (by omega), flat_rep _ _ _ _ _ hi hj])
                (fun j hj => by rw [Nat.add_assoc]; exact h4 _ (by omega)) (fun j hj => by rw [Nat.add_assoc]; exact h5 _ (by omega)) (fun j hj => by rw [Nat.add_assoc]; exact h6 _ (by omega)) d (by omega)
            have tot : ∀ q, q ≤ k → (List.range q).all (fun i => allEq T a b (o + i * l1.length) l1.length) = allEq T a b o (q * l1.length) := by
              intro q
              induction q with
              | zero => intro _; simp [allEq]
              | succ q ih =>
                intro hq
                rw [List.range_succ, List.all_append, ih (by omega), Nat.succ_mul, allEq_add]
                simp
            have := run_forIn_range (P := P) (n := k) (w := w) _ _ step
            rw [tot k (Nat.le_refl _)] at this
            rw [← this]
            simp only [Sem.run_bind, bind_assoc]
      | _ => simp at h
end
end Go.AI
set_option linter.unusedVariables false
set_option linter.unusedSimpArgs false
namespace Go.AI
open Go

section
variable {α : Type} {P : Program} {A : Ann} {F : FuncId} {h0 : Array Obj} {W : Wr} {D : Nat → Prop} {β : GM} {S : Nat → Prop} {st : St} {a : Act} {w : World} {call : CallF} {K : St → Option α} {res : α}
  {o : Oper} {j : Nat} {Q : Exit → Act → World → Prop}

theorem guard_int (op : BinOp) (t : TypeId) (x y : Operand) (k k' : IntKind) (m n : Int) (w : World) : (eqGuard op t x y (.int k m) (.int k' n)).run P w = .ok () w := by cases op <;> rfl
theorem guard_str (op : BinOp) (t : TypeId) (x y : Operand) (m n : ByteArray) (w : World) : (eqGuard op t x y (.string m) (.string n)).run P w = .ok () w := by cases op <;> rfl
theorem guard_bool (op : BinOp) (t : TypeId) (x y : Operand) (m n : Bool) (w : World) : (eqGuard op t x y (.bool m) (.bool n)).run P w = .ok () w := by cases op <;> rfl

theorem bytes_eq (x y : ByteArray) : (x.data.toList == y.data.toList) = (x.toList == y.toList) := by rw [ByteArray.toList_eq, ByteArray.toList_eq]

/-- two numbers -/
theorem bin_int {op : BinOp} {k k' : IntKind} {m n : Int} {t : TypeId} {c : Bool} {l : AL} (h : bin P op t (.v (.int k m)) (.v (.int k' n)) = some (c, l)) (hc : c = true) (w : World) :
    ∃ v, (binOp op t (.int k m) (.int k' n)).run P w = .ok v w ∧ ∀ N hp β, LR P N hp β l v := by
  subst hc
  have key : ∀ (op : BinOp) (l' : AL) (v : Value), some (true, l') = some (true, l) → (binOp op t (.int k m) (.int k' n)).run P w = .ok v w → (∀ N hp β, LR P N hp β l' v) →
      ∃ v, (binOp op t (.int k m) (.int k' n)).run P w = .ok v w ∧ ∀ N hp β, LR P N hp β l v := by
    intro op l' v e h1 h2; cases e; exact ⟨v, h1, h2⟩
  by_cases e : k = k'
  · subst e
    cases op
    case shl =>
      simp only [bin, Option.some.injEq, Prod.mk.injEq, decide_eq_true_eq] at h
      obtain ⟨h1, rfl⟩ := h
      refine ⟨_, ?_, fun _ _ _ => rfl⟩
      simp only [binOp, Op.shift, Sem.run_ite, Int.not_lt.2 h1, if_false, Sem.run_pure, shl]
    case shr =>
      simp only [bin, Option.some.injEq, Prod.mk.injEq, decide_eq_true_eq] at h
      obtain ⟨h1, rfl⟩ := h
      refine ⟨_, ?_, fun _ _ _ => rfl⟩
      simp only [binOp, Op.shift, Sem.run_ite, Int.not_lt.2 h1, if_false, Sem.run_pure, shr]
    case quo =>
      simp only [bin, decide_true, cond_true, Option.some.injEq, Prod.mk.injEq, bne_iff_ne, ne_eq] at h
      obtain ⟨h1, rfl⟩ := h
      refine ⟨_, ?_, fun _ _ _ => rfl⟩
      simp only [binOp, ne_eq, not_true_eq_false, if_false, Op.intDiv, Sem.run_ite, h1, Sem.run_pure]
    case rem =>
      simp only [bin, decide_true, cond_true, Option.some.injEq, Prod.mk.injEq, bne_iff_ne, ne_eq] at h
      obtain ⟨h1, rfl⟩ := h
      refine ⟨_, ?_, fun _ _ _ => rfl⟩
      simp only [binOp, ne_eq, not_true_eq_false, if_false, Op.intDiv, Sem.run_ite, h1, Sem.run_pure]
    case and => exact key .and (.int k (bitsOp .and k m n)) (.int k (bitsOp .and k m n)) (by simpa [bin] using h) (by simp only [binOp, ne_eq, not_true_eq_false, if_false]; exact run_intBits k .and (by simp) m n w) (fun _ _ _ => rfl)
    case or => exact key .or (.int k (bitsOp .or k m n)) (.int k (bitsOp .or k m n)) (by simpa [bin] using h) (by simp only [binOp, ne_eq, not_true_eq_false, if_false]; exact run_intBits k .or (by simp) m n w) (fun _ _ _ => rfl)
    case xor => exact key .xor (.int k (bitsOp .xor k m n)) (.int k (bitsOp .xor k m n)) (by simpa [bin] using h) (by simp only [binOp, ne_eq, not_true_eq_false, if_false]; exact run_intBits k .xor (by simp) m n w) (fun _ _ _ => rfl)
    case andNot => exact key .andNot (.int k (bitsOp .andNot k m n)) (.int k (bitsOp .andNot k m n)) (by simpa [bin] using h) (by simp only [binOp, ne_eq, not_true_eq_false, if_false]; exact run_intBits k .andNot (by simp) m n w) (fun _ _ _ => rfl)
    all_goals
      simp only [bin, decide_true, cond_true, Option.some.injEq, Prod.mk.injEq, true_and] at h
      subst h
      refine ⟨_, ?_, fun _ _ _ => rfl⟩
      simp only [binOp, ne_eq, not_true_eq_false, if_false, Op.intArith, Op.intCmp, Sem.run_pure]
  · cases op
    case shl =>
      simp only [bin, Option.some.injEq, Prod.mk.injEq, decide_eq_true_eq] at h
      obtain ⟨h1, rfl⟩ := h
      refine ⟨_, ?_, fun _ _ _ => rfl⟩
      simp only [binOp, Op.shift, Sem.run_ite, Int.not_lt.2 h1, if_false, Sem.run_pure, shl]
    case shr =>
      simp only [bin, Option.some.injEq, Prod.mk.injEq, decide_eq_true_eq] at h
      obtain ⟨h1, rfl⟩ := h
      refine ⟨_, ?_, fun _ _ _ => rfl⟩
      simp only [binOp, Op.shift, Sem.run_ite, Int.not_lt.2 h1, if_false, Sem.run_pure, shr]
    all_goals simp [bin, e] at h

theorem op_binOp (R : Rel P h0 W D β S st a w) {op : BinOp} {t yt : TypeId} {x y : Operand} (ho : o.op = .binOp op t x y yt) (h : (opK P A F o st.r j).run call st K = some res) :
    o.wp P a w (Good P h0 W D S st.r st.q K res) Q := by
  simp only [opK, ho, run_evK] at h
  obtain ⟨⟨c, l⟩, hb, h⟩ := run_orFail _ _ _ h
  obtain ⟨hc, h⟩ := run_test _ _ _ h
  have hx := R.ev x
  have hy := R.ev y
  have fin : ∀ v, (eqGuard op t x y (a.eval x) (a.eval y)).run P w = .ok () w → (binOp op t (a.eval x) (a.eval y)).run P w = .ok v w → LR P (NN D β st.boxes w.heap) w.heap β l v → o.wp P a w (Good P h0 W D S st.r st.q K res) Q := by
    intro v h1 h2 h3
    refine wp_val (v := v) (w' := w) ?_ (R.good_put (.v _ _ h3) h)
    simp only [execOp, ho, Sem.run_bind, h1, h2, Result.andThen_ok, Sem.run_pure]
  generalize hex : st.ev x = ax at hx hb
  generalize hey : st.ev y = ay at hy hb
  -- numbers
  by_cases hint : (∃ k m, ax = .v (.int k m)) ∧ (∃ k n, ay = .v (.int k n))
  · obtain ⟨⟨k, m, rfl⟩, k', n, rfl⟩ := hint
    have ex := int_leaf hx
    have ey := int_leaf hy
    obtain ⟨v, h1, h2⟩ := bin_int hb hc w
    exact fin v (by rw [ex, ey]; exact guard_int ..) (by rw [ex, ey]; exact h1) (h2 _ _ _)
  · unfold bin at hb
    split at hb
    · exact absurd ⟨⟨_, _, rfl⟩, _, _, rfl⟩ hint
    · exact absurd ⟨⟨_, _, rfl⟩, _, _, rfl⟩ hint
    · exact absurd ⟨⟨_, _, rfl⟩, _, _, rfl⟩ hint
    · -- + of strings
      cases hb
      obtain ⟨x', ex, rfl⟩ := str_leaf hx
      obtain ⟨y', ey, rfl⟩ := str_leaf hy
      simp only [decide_eq_true_eq, str_size] at hc
      refine fin (.string (x' ++ y')) (by rw [ex, ey]; exact guard_str ..) ?_ ⟨x' ++ y', rfl, ?_⟩
      · have : IntKind.i64.max = 9223372036854775807 := rfl
        have hle : ¬ (((x'.size + y'.size : Nat) : Int) > IntKind.i64.max) := by
          rw [this]; omega
        rw [ex, ey]
        simp only [binOp, Op.stringOp, Sem.run_ite, hle, if_false, Sem.run_pure]
      · simp
    · cases hb
      obtain ⟨x', ex, rfl⟩ := str_leaf hx
      obtain ⟨y', ey, rfl⟩ := str_leaf hy
      refine fin (.bool (x'.toList == y'.toList)) (by rw [ex, ey]; exact guard_str ..) ?_ (by show Value.bool _ = .bool _; rw [bytes_eq])
      rw [ex, ey]; simp only [binOp, Op.stringOp, Sem.run_pure]
    · cases hb
      obtain ⟨x', ex, rfl⟩ := str_leaf hx
      obtain ⟨y', ey, rfl⟩ := str_leaf hy
      refine fin (.bool !(x'.toList == y'.toList)) (by rw [ex, ey]; exact guard_str ..) ?_ (by show Value.bool _ = .bool _; rw [bytes_eq])
      rw [ex, ey]; simp only [binOp, Op.stringOp, Sem.run_pure]
    · split at hb
      · rename_i p q _ hu
        cases hb
        have ex := bool_leaf hx
        have ey := bool_leaf hy
        refine fin (.bool (p == q)) (by rw [ex, ey]; exact guard_bool ..) ?_ rfl
        rw [ex, ey]
        simp only [binOp, Op.equal, Op.maxDepth, Sem.run_bind, run_equalIn_bool' w 9999 t p q hu, Result.andThen_ok, Sem.run_pure]
      · cases hb
    · split at hb
      · rename_i p q _ hu
        cases hb
        have ex := bool_leaf hx
        have ey := bool_leaf hy
        refine fin (.bool !(p == q)) (by rw [ex, ey]; exact guard_bool ..) ?_ rfl
        rw [ex, ey]
        simp only [binOp, Op.equal, Op.maxDepth, Sem.run_bind, run_equalIn_bool' w 9999 t p q hu, Result.andThen_ok, Sem.run_pure]
      · cases hb
    all_goals first
      | cases hb
      | (rename_i p q
         cases hq : (eqTyF P 12 t && isAggB P t) with
         | false => simp [hq] at hb
         | true =>
           simp only [hq, cond_true] at hb
           simp only [Bool.and_eq_true] at hq
           split at hb
           · rename_i ts hts
             split at hb
             · rename_i e he
               obtain ⟨e1, e2, e3, e4⟩ := eqTs_of he
               generalize hax : a.eval x = u at hx
               generalize hay : a.eval y = v at hy
               cases hx with
               | agg _ xs xl xh =>
                 cases hy with
                 | agg _ ys yl yh =>
                   obtain ⟨_, hrun⟩ := run_equalIn (N := NN D β st.boxes w.heap) (hp := w.heap) (β := β) w 12 t 12 ts hq.1 (leaves_of hts).1
                   have hr := hrun ts p q xs ys 0 (by omega) (by omega) (fun i _ => by rw [Nat.zero_add]) (fun i hi => by rw [Nat.zero_add]; exact xh i (by omega)) (fun i hi => by rw [Nat.zero_add]; exact yh i (by omega))
                     (fun i hi => by rw [Nat.zero_add]; exact e3 i hi) 10000 (by decide)
                   have c1 : cutAt xs 0 ts.length = xs := by unfold cutAt; rw [List.drop_zero, List.take_of_length_le (by omega)]
                   have c2 : cutAt ys 0 ts.length = ys := by unfold cutAt; rw [List.drop_zero, List.take_of_length_le (by omega)]
                   rw [c1, c2, ← e4] at hr
                   simp only [valOf, hq.2, if_true] at hr
                   have hd : P.eqGuardType P.depth t = false := eqGuard_off 12 t hq.1 _ (by unfold Program.depth Made.depth; omega)
                   cases hb
                   refine fin (.bool _) (by rw [hax, hay]; exact run_eqGuard_agg w _ t x y _ _ hd) ?_ rfl
                   rw [hax, hay]
                   first
                     | rw [run_eql_struct, hr]; rfl
                     | rw [run_neq_struct, hr]; rfl
             · cases hb
           · cases hb)
end
end Go.AI
set_option linter.unusedVariables false
set_option linter.unusedSimpArgs false
namespace Go.AI
open Go

theorem run_mapM_list {γ δ : Type} {P : Program} {f : γ → Sem δ} {g : γ → δ} {w : World} : ∀ (l : List γ), (∀ x, x ∈ l → (f x).run P w = .ok (g x) w) → (l.mapM f).run P w = .ok (l.map g) w
  | [], _ => by simp
  | x :: l, h => by
    rw [List.mapM_cons]
    simp only [Sem.run_bind, h x (by simp), run_mapM_list l (fun y hy => h y (by simp [hy])), Result.andThen_ok, Sem.run_pure, List.map_cons]
theorem run_mapM {γ δ : Type} {P : Program} {f : γ → Sem δ} {g : γ → δ} {w : World} (l : Array γ) (h : ∀ x, x ∈ l.toList → (f x).run P w = .ok (g x) w) : (l.mapM f).run P w = .ok (l.map g) w := by
  have e : l.mapM f = List.toArray <$> l.toList.mapM f := by
    conv => lhs; rw [← Array.toArray_toList (xs := l)]
    rw [List.mapM_toArray]
  rw [e]
  simp only [Sem.run_map, run_mapM_list l.toList h, Result.andThen_ok]
  rw [← Array.toList_map]

theorem fold_put : ∀ (vs : List Value) (c : Array Value) (o k : Nat), o + k + vs.length ≤ c.size →
    ((vs.zipIdx k).foldl (fun cs (x : Value × Nat) => cs.setIfInBounds (o + x.2) x.1) c) = putArr c (o + k) vs
  | [], c, o, k, _ => by simp [putArr, putAt]
  | v :: vs, c, o, k, h => by
    simp only [List.length_cons] at h
    rw [List.zipIdx_cons, List.foldl_cons, fold_put vs _ o (k + 1) (by simp; omega)]
    unfold putArr
    congr 1
    apply List.ext_getElem?
    intro i
    rw [putAt_getElem? _ _ _ (by simp; omega), putAt_getElem? _ _ _ (by simp; omega)]
    simp only [Array.toList_setIfInBounds, List.getElem?_set, List.length_cons]
    by_cases e : i = o + k
    · subst e
      rw [if_pos (by omega), if_pos rfl, if_pos (by simp; omega), if_neg (by omega), if_pos (by omega)]; simp
    · by_cases e1 : i < o + k
      · rw [if_pos (by omega), if_neg (Ne.symm e), if_pos e1]
      · rw [if_neg (by omega), if_neg e1]
        by_cases e2 : i < o + k + (vs.length + 1)
        · rw [if_pos (by omega), if_pos e2]
          rw [show i - (o + k) = (i - (o + (k + 1))) + 1 by omega, List.getElem?_cons_succ]
        · rw [if_neg (by omega), if_neg e2, if_neg (Ne.symm e)]

section
variable {α : Type} {P : Program} {A : Ann} {F : FuncId} {h0 : Array Obj} {W : Wr} {D : Nat → Prop} {β : GM} {S : Nat → Prop} {st : St} {a : Act} {w : World} {call : CallF} {K : St → Option α} {res : α}
  {o : Oper} {j : Nat} {Q : Exit → Act → World → Prop}

/-- parts laid into cells: both sides -/
theorem fillL_of {N : Nat → Prop} {hp : Array Obj} {place : Nat → Option (Nat × Nat)} : ∀ (parts : List (Nat × AV)) (vals : List (Nat × Value)) (cs : List AL) (c : Array Value) (out : List AL), fillL place cs parts = some out →
    vals.length = parts.length → (∀ i, i < parts.length → (parts.getD i (0, .any)).1 = (vals.getD i (0, undef)).1 ∧ VR P N hp β (parts.getD i (0, .any)).2 (vals.getD i (0, undef)).2) →
    c.size = cs.length → (∀ i, i < cs.length → LR P N hp β (cs.getD i .dead) (c.getD i undef)) →
    ∃ c', Instr.fill place c vals = some c' ∧ c'.size = out.length ∧ ∀ i, i < out.length → LR P N hp β (out.getD i .dead) (c'.getD i undef)
  | [], vals, cs, c, out, h, hl, hv, hs, hc => by
    cases vals with
    | nil => simp only [fillL, Option.some.injEq] at h; subst h; exact ⟨c, rfl, hs, hc⟩
    | cons => simp at hl
  | (i, v) :: rest, vals, cs, c, out, h, hl, hv, hs, hc => by
    cases vals with
    | nil => simp at hl
    | cons x vals =>
      obtain ⟨i', u⟩ := x
      obtain ⟨e1, e2⟩ := hv 0 (by simp)
      simp only [List.getD_cons_zero] at e1 e2
      subst e1
      simp only [fillL] at h
      split at h
      · rename_i off n ls hp1 hls
        cases hb : (Nat.beq ls.length n && Nat.ble (off + n) cs.length) with
        | false => simp [hb] at h
        | true =>
          simp only [hb, cond_true] at h
          simp only [Bool.and_eq_true] at hb
          have b1 := Nat.eq_of_beq_eq_true hb.1
          have b2 := Nat.le_of_ble_eq_true hb.2
          obtain ⟨us, u1, u2, u3, u4⟩ := e2.cells hls
          have hus : u.cells.size = n := by rw [u1]; simp; omega
          have hle : off + us.length ≤ c.size := by omega
          have ih := fillL_of rest vals (putAt cs off ls) (putArr c off us) out h (by simpa using hl) (fun k hk => by simpa using hv (k + 1) (by simpa using hk)) (by rw [putArr_size _ _ _ hle, putAt_length _ _ _ (by omega), hs])
            (fun k hk => by
              rw [putAt_length _ _ _ (by omega)] at hk
              unfold putArr
              rw [toArray_getD, putAt_getD _ _ _ (by omega), putAt_getD _ _ _ (by simpa using hle), arr_getD c, u2]
              split
              · exact hc k hk
              · split
                · exact u3 _ (by omega)
                · exact hc k hk)
          obtain ⟨c', c1, c2, c3⟩ := ih
          refine ⟨c', ?_, c2, c3⟩
          unfold Instr.fill
          rw [hp1]
          have hcond : ¬ (decide (u.cells.size ≠ n) || decide (off + u.cells.size > c.size)) = true := by
            simp only [Bool.or_eq_true, decide_eq_true_eq]; omega
          have hfold : (u.cells.zipIdx.foldl (fun cs (x : Value × Nat) => cs.setIfInBounds (off + x.2) x.1) c) = putArr c off us := by
            rw [u1]
            have := fold_put us c off 0 (by omega)
            rw [Nat.add_zero] at this
            rw [← this]
            simp
          simp only at hcond ⊢
          rw [if_neg (by simpa using hcond)]
          rw [← c1, ← hfold]
      · cases h

theorem zip_getD {γ δ : Type} (xs : List γ) (ys : List δ) (i : Nat) (h1 : i < xs.length) (h2 : i < ys.length) (d : γ × δ) (a : γ) (b : δ) : (xs.zip ys).getD i d = (xs.getD i a, ys.getD i b) := by
  rw [getD_eq (by simp; omega), getD_eq h1, getD_eq h2, List.getElem_zip]

theorem parts_VR (R : Rel P h0 W D β S st a w) (parts : Array (Nat × Operand)) :
    ((parts.map fun x => (x.1, a.eval x.2)).toList).length = (((parts.toList.map (·.1)).zip ((parts.toList.map (·.2)).map st.ev))).length ∧
    ∀ i, i < (((parts.toList.map (·.1)).zip ((parts.toList.map (·.2)).map st.ev))).length →
      ((((parts.toList.map (·.1)).zip ((parts.toList.map (·.2)).map st.ev))).getD i (0, .any)).1 = (((parts.map fun x => (x.1, a.eval x.2)).toList).getD i (0, undef)).1 ∧
      VR P (NN D β st.boxes w.heap) w.heap β ((((parts.toList.map (·.1)).zip ((parts.toList.map (·.2)).map st.ev))).getD i (0, .any)).2 (((parts.map fun x => (x.1, a.eval x.2)).toList).getD i (0, undef)).2 := by
  refine ⟨by simp, fun i hi => ?_⟩
  have hi' : i < parts.toList.length := by simpa using hi
  rw [zip_getD _ _ i (by simpa using hi) (by simpa using hi) _ 0 .any, Array.toList_map, getD_eq (l := List.map _ parts.toList) (by simpa using hi), getD_eq (l := List.map st.ev _) (by simpa using hi), getD_eq (l := List.map _ parts.toList) (by simpa using hi)]
  simp only [List.getElem_map]
  exact ⟨trivial, R.ev _⟩

theorem op_build (R : Rel P h0 W D β S st a w) {t : TypeId} {parts : Array (Nat × Operand)} (ho : o.op = .build t parts) (h : (opK P A F o st.r j).run call st K = some res) :
    o.wp P a w (Good P h0 W D S st.r st.q K res) Q := by
  simp only [opK, ho, run_evsK] at h
  obtain ⟨ls, hls, h⟩ := run_orFail _ _ _ h
  obtain ⟨p1, p2⟩ := parts_VR R parts
  unfold buildL at hls
  split at hls
  · rename_i z fs hz hu
    cases hb : fs.toList.all (fun f => (P.info? f.type).isSome) with
    | false => simp [hb] at hls
    | true =>
      simp only [hb, cond_true] at hls
      obtain ⟨i, zv, z1, z2, z3, rfl⟩ := zeroL_of hz
      obtain ⟨c', c1, c2, c3⟩ := fillL_of _ _ _ zv.cells ls hls p1 p2 (by simp) (fun k hk => by
        have := zeroL_LR (P := P) (N := NN D β st.boxes w.heap) (hp := w.heap) (β := β) z3 k (by simpa using hk)
        rwa [arr_getD zv.cells] at this)
      refine wp_val (v := .agg c') (w' := w) ?_ (R.good_put (x := .agg ls) (by
        have := VR.agg (P := P) (N := NN D β st.boxes w.heap) (hp := w.heap) (β := β) ls c'.toList (by simpa using c2) (fun k hk => by rw [arr_getD c']; exact c3 k hk)
        simpa using this) h)
      have hplaces : (fs.mapM fun (f : Field) => (do pure (f.offset, ← sizeOf f.type) : Sem (Nat × Nat))).run P w = .ok (fs.map fun (f : Field) => (f.offset, P.cellsOf f.type)) w := by
        refine run_mapM fs fun f hf => ?_
        have := List.all_eq_true.1 hb f hf
        cases hi : P.info? f.type with
        | none => simp [hi] at this
        | some inf => simp [sizeOf, typeInfo, hi, Program.cellsOf]
      have hpl : (fun (i : Nat) => (fs.map fun (f : Field) => (f.offset, P.cellsOf f.type))[i]?) = fun (i : Nat) => match fs[i]? with | some f => (match P.info? f.type with | some j => some (f.offset, j.size) | none => none) | none => none := by
        funext k
        rw [Array.getElem?_map]
        cases hk : fs[k]? with
        | none => rfl
        | some f =>
          have hmem : f ∈ fs.toList := by
            have := Array.mem_of_getElem? hk
            simpa using this
          have := List.all_eq_true.1 hb f hmem
          cases hi : P.info? f.type with
          | none => simp [hi] at this
          | some inf => simp [hi, Program.cellsOf]
      have c1' : Instr.fill (fun (i : Nat) => (fs.map fun (f : Field) => (f.offset, P.cellsOf f.type))[i]?) zv.cells (parts.map fun x => (x.1, a.eval x.2)).toList = some c' := by rw [hpl]; exact c1
      simp only [execOp, ho, Instr.build, Sem.run_bind, run_zeroValue' z1 z2, Result.andThen_ok, run_underlying hu, hplaces, c1', Sem.run_pure]
  · rename_i z k e hz hu
    split at hls
    · rename_i inf hinf
      obtain ⟨i, zv, z1, z2, z3, rfl⟩ := zeroL_of hz
      obtain ⟨c', c1, c2, c3⟩ := fillL_of _ _ _ zv.cells ls hls p1 p2 (by simp) (fun k hk => by
        have := zeroL_LR (P := P) (N := NN D β st.boxes w.heap) (hp := w.heap) (β := β) z3 k (by simpa using hk)
        rwa [arr_getD zv.cells] at this)
      refine wp_val (v := .agg c') (w' := w) ?_ (R.good_put (x := .agg ls) (by
        have := VR.agg (P := P) (N := NN D β st.boxes w.heap) (hp := w.heap) (β := β) ls c'.toList (by simpa using c2) (fun k hk => by rw [arr_getD c']; exact c3 k hk)
        simpa using this) h)
      simp only [execOp, ho, Instr.build, Sem.run_bind, run_zeroValue' z1 z2, Result.andThen_ok, run_underlying hu, sizeOf, typeInfo, run_program, hinf, Sem.run_pure, c1]
    · cases hls
  · cases hls
end
end Go.AI
