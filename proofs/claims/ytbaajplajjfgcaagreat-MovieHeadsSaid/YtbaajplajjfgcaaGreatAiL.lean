/- From a call of a law with what its arguments read as to the interpreter's answer. -/
import Derived.Test.YtbaajplajjfgcaaGreatAiE
import Derived.Test.YtbaajplajjfgcaaGreatAiM
import Derived.WalkKit
import Derived.ProofKit
import Derived.OpenShut
import Derived.Deep.Slices
import Derived.SizedLaws
import Derived.ChangeOld
import Derived.WideKeyArgs
import Derived.Below
set_option linter.unusedVariables false
set_option linter.unusedSimpArgs false
namespace Go.AI
open Go

/-! ### types -/
theorem goS_more {f g : TypeId → Option (List LTy)} (h : ∀ t l, f t = some l → g t = some l) : ∀ (fs : List Field) (off : Nat) (l : List LTy), goS f fs off = some l → goS g fs off = some l
  | [], off, l, e => e
  | x :: xs, off, l, e => by
    simp only [goS] at e ⊢
    cases hb : Nat.beq x.offset off with
    | false => rw [hb] at e; cases e
    | true =>
      rw [hb, cond_true] at e
      rw [cond_true]
      split at e
      · rename_i l1 h1
        rw [h _ _ h1]
        split at e
        · rename_i m h2
          simp only [goS_more h xs _ _ h2]
          exact e
        · cases e
      · cases e
theorem leavesF_more {P : Program} : ∀ (d : Nat) (t : TypeId) (l : List LTy), leavesF P d t = some l → leavesF P (d + 1) t = some l
  | 0, t, l, h => by cases h
  | d + 1, t, l, h => by
    unfold leavesF at h ⊢
    split at h
    all_goals first | exact h | skip
    · rename_i fs hu
      exact goS_more (fun t l => leavesF_more d t l) _ _ _ h
    · rename_i n e hu
      split at h
      · rename_i l1 h1
        rw [leavesF_more d _ _ h1]; exact h
      · cases h

def sizedT (P : Program) (t : TypeId) : Bool := match leavesF P 12 t with | some l => Nat.beq (P.cellsOf t) l.length && l.all LTy.plain | none => false
/-- types of plain data; S: types that may hold slices of themselves -/
def okTy (P : Program) (S : List TypeId) : Nat → TypeId → Bool
  | 0, _ => false
  | d + 1, t => match P.underlying t with
    | some .bool | some (.int _) | some .string => true
    | some (.slice e) => (S.any (Nat.beq e) || okTy P S d e) && (sizedT P e && (match leaves P e with | some ts => !ts.isEmpty | none => false))
    | some (.struct fs) => fs.toList.all (fun f => okTy P S d f.type) && sizedT P t
    | some (.array _ e) => okTy P S d e && (sizedT P e && sizedT P t)
    | _ => false
def closedT (P : Program) (S : List TypeId) : Bool := S.all (okTy P S 12)

/-! ### values -/
inductive PW (P : Program) : LTy → PV → Prop
  | int (k : IntKind) (n : Int) (h : (Lit.int k n).wf = true) : PW P (.int k) (.i n)
  | bool (b : Bool) : PW P .bool (.b b)
  | str (s : List UInt8) (h : s.length ≤ maxLen) : PW P .str (.s s)
  | sl (e : TypeId) (ts : List LTy) (es : List (List PV)) (hl : leaves P e = some ts) (h0 : es.length ≤ maxLen) (hz : es.length * P.bytesOf e ≤ reachBytes) (h1 : ∀ i, i < es.length → (es.getD i []).length = ts.length)
      (h2 : ∀ i j, i < es.length → j < ts.length → PW P (ts.getD j .no) ((es.getD i []).getD j .u)) : PW P (.sl e) (.l es)
def PWL (P : Program) (ts : List LTy) (ps : List PV) : Prop := ps.length = ts.length ∧ ∀ j, j < ts.length → PW P (ts.getD j .no) (ps.getD j .u)
theorem PWL.nil {P : Program} {ps : List PV} (h : PWL P [] ps) : ps = [] := List.length_eq_zero_iff.1 h.1
theorem PWL.cons {P : Program} {t : LTy} {ts : List LTy} {ps : List PV} (h : PWL P (t :: ts) ps) : ∃ p q, ps = p :: q ∧ PW P t p ∧ PWL P ts q := by
  cases ps with
  | nil => have := h.1; cases this
  | cons p q =>
    refine ⟨p, q, rfl, by simpa using h.2 0 (by simp), by simpa using h.1, fun j hj => by simpa using h.2 (j + 1) (by simpa using hj)⟩
theorem PWL.append {P : Program} {ts us : List LTy} {ps qs : List PV} (h : PWL P ts ps) (k : PWL P us qs) : PWL P (ts ++ us) (ps ++ qs) := by
  refine ⟨by rw [List.length_append, List.length_append, h.1, k.1], fun j hj => ?_⟩
  by_cases hl : j < ts.length
  · have e1 : (ts ++ us).getD j .no = ts.getD j .no := by simp [List.getD, List.getElem?_append_left hl]
    have e2 : (ps ++ qs).getD j .u = ps.getD j .u := by simp [List.getD, List.getElem?_append_left (h.1 ▸ hl : j < ps.length)]
    rw [e1, e2]; exact h.2 j hl
  · rw [List.length_append] at hj
    have e1 : (ts ++ us).getD j .no = us.getD (j - ts.length) .no := by simp [List.getD, List.getElem?_append_right (Nat.le_of_not_lt hl)]
    have e2 : (ps ++ qs).getD j .u = qs.getD (j - ts.length) .u := by
      rw [← h.1]; simp [List.getD, List.getElem?_append_right (show ps.length ≤ j by rw [h.1]; omega)]
    rw [e1, e2]; exact k.2 _ (by omega)

section
variable {H : Type} {enc : TypeId × Value → H} {P : Program} {w : World} {base : Nat} {held : Bool}

/-- cells of such types, and what they are -/
def CellsP (P : Program) (w : World) (ts : List LTy) (ps : List PV) (cs : List Value) : Prop :=
  cs.length = ts.length ∧ ps.length = ts.length ∧ ∀ j, j < ts.length → RP P (fun b => b < w.heap.size) w.heap (ts.getD j .no) (ps.getD j .u) (cs.getD j undef) ∧ PW P (ts.getD j .no) (ps.getD j .u)
theorem CellsP.pwl {ts : List LTy} {ps : List PV} {cs : List Value} (h : CellsP P w ts ps cs) : PWL P ts ps := ⟨h.2.1, fun j hj => (h.2.2 j hj).2⟩
theorem CellsP.one {t : LTy} {p : PV} {v : Value} (h : RP P (fun b => b < w.heap.size) w.heap t p v) (k : PW P t p) : CellsP P w [t] [p] [v] := by
  refine ⟨rfl, rfl, fun j hj => ?_⟩
  have : j = 0 := by simpa using hj
  subst this; exact ⟨h, k⟩
theorem CellsP.append {ts us : List LTy} {ps qs : List PV} {cs ds : List Value} (h : CellsP P w ts ps cs) (k : CellsP P w us qs ds) : CellsP P w (ts ++ us) (ps ++ qs) (cs ++ ds) := by
  have hp := h.pwl.append k.pwl
  refine ⟨by rw [List.length_append, List.length_append, h.1, k.1], hp.1, fun j hj => ⟨?_, hp.2 j hj⟩⟩
  by_cases hl : j < ts.length
  · have e1 : (ts ++ us).getD j .no = ts.getD j .no := by simp [List.getD, List.getElem?_append_left hl]
    have e2 : (ps ++ qs).getD j .u = ps.getD j .u := by simp [List.getD, List.getElem?_append_left (h.2.1 ▸ hl : j < ps.length)]
    have e3 : (cs ++ ds).getD j undef = cs.getD j undef := by simp [List.getD, List.getElem?_append_left (h.1 ▸ hl : j < cs.length)]
    rw [e1, e2, e3]; exact (h.2.2 j hl).1
  · rw [List.length_append] at hj
    have e1 : (ts ++ us).getD j .no = us.getD (j - ts.length) .no := by simp [List.getD, List.getElem?_append_right (Nat.le_of_not_lt hl)]
    have e2 : (ps ++ qs).getD j .u = qs.getD (j - ts.length) .u := by
      rw [← h.2.1]; simp [List.getD, List.getElem?_append_right (show ps.length ≤ j by rw [h.2.1]; omega)]
    have e3 : (cs ++ ds).getD j undef = ds.getD (j - ts.length) undef := by
      rw [← h.1]; simp [List.getD, List.getElem?_append_right (show cs.length ≤ j by rw [h.1]; omega)]
    rw [e1, e2, e3]; exact (k.2.2 _ (by omega)).1

theorem cells?_get {a : Addr} {n : Nat} {cs : List Value} (h : w.cells? base a n = some cs) : cs.length = n ∧ ∀ i, i < n → w.cell? (a.add i) = some (cs.getD i undef) := by
  unfold World.cells? at h
  split at h
  · have key : ∀ (l : List Nat) (cs : List Value), l.mapM (fun i => w.cell? (a.add i)) = some cs → cs.length = l.length ∧ ∀ i, i < l.length → w.cell? (a.add (l.getD i 0)) = some (cs.getD i undef) := by
      intro l
      induction l with
      | nil => intro cs h; simp at h; subst h; exact ⟨rfl, fun i hi => absurd hi (Nat.not_lt_zero _)⟩
      | cons x l ih =>
        intro cs h
        rw [List.mapM_cons] at h
        cases h1 : w.cell? (a.add x) with
        | none => rw [h1] at h; simp at h
        | some v =>
          rw [h1] at h
          cases h2 : l.mapM (fun i => w.cell? (a.add i)) with
          | none => simp [h2] at h
          | some r =>
            simp [h2] at h
            subst h
            obtain ⟨g1, g2⟩ := ih r h2
            refine ⟨by simp [g1], fun i hi => ?_⟩
            cases i with
            | zero => simpa using h1
            | succ i => simpa using g2 i (by simpa using hi)
    obtain ⟨g1, g2⟩ := key _ _ h
    refine ⟨by simpa using g1, fun i hi => ?_⟩
    have := g2 i (by simpa using hi)
    simpa [List.getD, hi] using this
  · cases h

/-- what was read takes no more than a process reaches -/
def Sz (P : Program) (t : TypeId) (d : DataW H) : Prop := ∀ n, n ∈ d.weights P t → n ≤ reachBytes
theorem mem_weightsAll {e : TypeId} {n : Nat} {d : DataW H} : ∀ {l : List (DataW H)}, d ∈ l → n ∈ d.weights P e → n ∈ DataW.weightsAll P e l
  | [], h, _ => by cases h
  | x :: r, h, k => by
    unfold DataW.weightsAll
    rcases List.mem_cons.1 h with rfl | h
    · exact List.mem_append_left _ k
    · exact List.mem_append_right _ (mem_weightsAll h k)
/-- the fields of a struct -/
theorem fields_open {S : List TypeId} {n d : Nat} (ih : ∀ t ts cs x, okTy P S d t = true → leavesF P 12 t = some ts → DataW.trod enc P w base (fun _ => true) held n t cs = some x → Sz P t x.1 → ∃ ps, CellsP P w ts ps cs) :
    ∀ (fs : List Field) (off : Nat) (ts : List LTy) (cs : List Value), fs.all (fun f => okTy P S d f.type) = true → goS (leavesF P 11) fs off = some ts → cs.length = off + ts.length →
      (∀ f, f ∈ fs → ∃ x, DataW.trod enc P w base (fun _ => true) held n f.type ((cs.drop f.offset).take (P.cellsOf f.type)) = some x ∧ Sz P f.type x.1) → ∃ ps, CellsP P w ts ps (cs.drop off)
  | [], off, ts, cs, _, h, hl, _ => by
    cases h
    refine ⟨[], ?_, rfl, fun j hj => absurd hj (Nat.not_lt_zero _)⟩
    rw [List.length_drop]; simp at hl; simp [hl]
  | f :: fs, off, ts, cs, hok, h, hl, hx => by
    simp only [List.all_cons, Bool.and_eq_true] at hok
    simp only [goS] at h
    cases hb : Nat.beq f.offset off with
    | false => rw [hb] at h; cases h
    | true =>
      have hoff := Nat.eq_of_beq_eq_true hb
      rw [hb, cond_true] at h
      split at h
      · rename_i l1 h1
        split at h
        · rename_i m h2
          cases h
          rw [List.length_append] at hl
          obtain ⟨x, hfx, hfz⟩ := hx f (List.mem_cons_self ..)
          obtain ⟨ps1, c1⟩ := ih f.type l1 _ x hok.1 (leavesF_more _ _ _ h1) hfx hfz
          obtain ⟨ps2, c2⟩ := fields_open ih fs (off + l1.length) m cs hok.2 h2 (by omega) (fun g hg => hx g (List.mem_cons_of_mem _ hg))
          refine ⟨ps1 ++ ps2, ?_⟩
          have e : cs.drop off = (cs.drop f.offset).take (P.cellsOf f.type) ++ cs.drop (off + l1.length) := by
            have hle := c1.1
            rw [hoff] at hle ⊢
            rw [← List.drop_drop]
            have : (cs.drop off).take (P.cellsOf f.type) = (cs.drop off).take l1.length := by
              rw [← hle, List.length_take]
              exact List.take_eq_take_min
            rw [this, List.take_append_drop]
          rw [e]
          exact c1.append c2
        · cases h
      · cases h

theorem sizedT_of {t : TypeId} (h : sizedT P t = true) : ∃ l, leavesF P 12 t = some l ∧ P.cellsOf t = l.length := by
  unfold sizedT at h
  split at h
  · rename_i l hl
    simp only [Bool.and_eq_true] at h
    exact ⟨l, hl, Nat.eq_of_beq_eq_true h.1⟩
  · cases h

theorem addr_in {a : Addr} (hs : a.spot = none) (x y : Nat) : (a.add x).add y = ⟨a.block, a.off + x + y, none⟩ := by
  obtain ⟨b, o, s⟩ := a
  simp only at hs
  subst hs
  unfold Addr.add
  split <;> split <;> simp_all

theorem slice_cells {e : TypeId} {t : TypeId} (hu : P.underlying t = some (.slice e)) {cs : List Value} {x : DataW H × List MemPlace} {fuel : Nat} (h : DataW.trod enc P w base (fun _ => true) held fuel t cs = some x) (hz : Sz P t x.1) :
    cs = [.slice none 0 0] ∨ ∃ (a : Addr) (len cap n : Nat), fuel = n + 1 ∧ cs = [.slice (some a) len cap] ∧ len ≤ cap ∧ cap ≤ maxLen ∧ cap * P.bytesOf e ≤ reachBytes ∧
      ∀ i, i < cap → ∃ cs' y, w.cells? base (a.add (i * P.cellsOf e)) (P.cellsOf e) = some cs' ∧ DataW.trod enc P w base (fun _ => true) held n e cs' = some y ∧ Sz P e y.1 := by
  rcases DataW.trod_slice hu h with ⟨h0, _⟩ | ⟨a, len, cap, elems, rest, n, hf, rfl, rfl, _, hl, hm, hlen, hel, hsp, _⟩
  · exact .inl h0
  · have hw : DataW.weights P t (DataW.slice (elems.map (·.1)) (rest.map (·.1))) = ((elems.map (·.1)).length + (rest.map (·.1)).length) * P.bytesOf e :: (DataW.weightsAll P e (elems.map (·.1)) ++ DataW.weightsAll P e (rest.map (·.1))) := by
      rw [DataW.weights, hu]
    have hz1 : ∀ y, y ∈ elems → Sz P e y.1 := fun y hy n hn => hz n (by
      show n ∈ DataW.weights P t (DataW.slice (elems.map (·.1)) (rest.map (·.1)))
      rw [hw]; exact List.mem_cons_of_mem _ (List.mem_append_left _ (mem_weightsAll (List.mem_map_of_mem hy) hn)))
    have hz2 : ∀ y, y ∈ rest → Sz P e y.1 := fun y hy n hn => hz n (by
      show n ∈ DataW.weights P t (DataW.slice (elems.map (·.1)) (rest.map (·.1)))
      rw [hw]; exact List.mem_cons_of_mem _ (List.mem_append_right _ (mem_weightsAll (List.mem_map_of_mem hy) hn)))
    have hz3 : cap * P.bytesOf e ≤ reachBytes := hz _ (by
      show _ ∈ DataW.weights P t (DataW.slice (elems.map (·.1)) (rest.map (·.1)))
      rw [hw]
      have : cap = (elems.map (·.1)).length + (rest.map (·.1)).length := by
        rw [List.length_map, List.length_map, hlen, (hsp rfl).1]; omega
      rw [this]; exact List.mem_cons_self ..)
    refine .inr ⟨a, len, cap, n, hf, rfl, hl, hm, hz3, fun i hi => ?_⟩
    have key : ∀ (i : Nat) (l : List (DataW H × List MemPlace)) (k : Nat), (∀ y, y ∈ l → Sz P e y.1) → k < l.length → (w.cells? base (a.add (i * P.cellsOf e)) (P.cellsOf e)).bind (DataW.trod enc P w base (fun _ => true) held n e) = l[k]? →
        ∃ cs' y, w.cells? base (a.add (i * P.cellsOf e)) (P.cellsOf e) = some cs' ∧ DataW.trod enc P w base (fun _ => true) held n e cs' = some y ∧ Sz P e y.1 := fun i l k hy hk h => by
      rw [List.getElem?_eq_getElem hk, Option.bind_eq_some_iff] at h
      obtain ⟨cs', h1, h2⟩ := h
      exact ⟨cs', _, h1, h2, hy _ (List.getElem_mem hk)⟩
    by_cases hi2 : i < len
    · exact key i elems i hz1 (by omega) (hel i hi2)
    · obtain ⟨r1, r2⟩ := hsp rfl
      have := r2 (i - len) (by omega)
      rw [show len + (i - len) = i by omega] at this
      exact key i rest (i - len) hz2 (by omega) this
theorem slice_open {fuel : Nat} {e : TypeId} (ih : ∀ n ts cs x, n < fuel → leavesF P 12 e = some ts → DataW.trod enc P w base (fun _ => true) held n e cs = some x → Sz P e x.1 → ∃ ps, CellsP P w ts ps cs)
    {t : TypeId} {tse : List LTy} (hu : P.underlying t = some (.slice e)) (hts : leaves P e = some tse) (hne : tse ≠ []) (hsz : P.cellsOf e = tse.length) {cs : List Value} {x : DataW H × List MemPlace}
    (h : DataW.trod enc P w base (fun _ => true) held fuel t cs = some x) (hz : Sz P t x.1) : ∃ ps, CellsP P w [.sl e] ps cs := by
  have hlen : 0 < tse.length := List.length_pos_iff.2 hne
  rcases slice_cells hu h hz with rfl | ⟨a, len, m, n, hfu, rfl, hlc, hcm, hz3, hx⟩
  · exact ⟨[.l []], .one (.nil e none) (.sl e tse [] hts (Nat.zero_le _) (by rw [List.length_nil, Nat.zero_mul]; exact Nat.zero_le _) (fun i hi => absurd hi (Nat.not_lt_zero _)) (fun i j hi => absurd hi (Nat.not_lt_zero _)))⟩
  · by_cases h0 : m = 0
    · subst h0
      have : len = 0 := by omega
      subst this
      exact ⟨[.l []], .one (.nil e (some a)) (.sl e tse [] hts (Nat.zero_le _) (by rw [List.length_nil, Nat.zero_mul]; exact Nat.zero_le _) (fun i hi => absurd hi (Nat.not_lt_zero _)) (fun i j hi => absurd hi (Nat.not_lt_zero _)))⟩
    · have key : ∀ i, i < m → ∃ q : List Value × List PV, w.cells? base (a.add (i * P.cellsOf e)) (P.cellsOf e) = some q.1 ∧ CellsP P w tse q.2 q.1 := fun i hi => by
        obtain ⟨cs', y, c1, c2, cz⟩ := hx i hi
        obtain ⟨ps, c3⟩ := ih n tse cs' y (by omega) (leaves_of hts).1 c2 cz
        exact ⟨(cs', ps), c1, c3⟩
      obtain ⟨q, hq⟩ := Deep.choose_lt key
      have c0 := (cells?_get (hq 0 (by omega)).1).2 0 (by omega)
      rw [Nat.zero_mul] at c0
      have e0 : (a.add 0).add 0 = a := rfl
      rw [e0] at c0
      have hs : a.spot = none ∧ a.block < w.heap.size := by
        unfold World.cell? at c0
        split at c0
        · rename_i c ty fr hc
          split at c0
          · cases c0
          · rename_i hsp
            refine ⟨by simpa using hsp, ?_⟩
            rcases Nat.lt_or_ge a.block w.heap.size with h | h
            · exact h
            · rw [Array.getElem?_eq_none h] at hc; cases hc
        · cases c0
      have hcell : ∀ i j, i < m → j < tse.length → cellH w.heap a.block (a.off + (i * tse.length + j)) = some ((q i).1.getD j undef) := fun i j hi hj => by
        have := (cells?_get (hq i hi).1).2 j (by omega)
        rw [addr_in hs.1, hsz, cell_cellH, Nat.add_assoc] at this
        exact this
      have hes : ∀ i, i < len → ((List.range len).map fun i => (q i).2).getD i [] = (q i).2 := fun i hi => by simp [List.getD, hi]
      have ha : a = ⟨a.block, a.off, none⟩ := by
        obtain ⟨b, o, s⟩ := a
        have := hs.1
        simp only at this
        subst this; rfl
      have hlm : ((List.range len).map fun i => (q i).2).length = len := by simp
      refine ⟨[.l ((List.range len).map fun i => (q i).2)], .one ?_ ?_⟩
      · have := RP.sl (P := P) (N := fun b => b < w.heap.size) (hp := w.heap) e tse ((List.range len).map fun i => (q i).2) a.block a.off m (fun k => (cellH w.heap a.block (a.off + k)).getD undef) (by rw [hlm]; exact hlc) hts hs.2
          (fun i hi => by rw [hlm] at hi; rw [hes i hi]; exact (hq i (by omega)).2.2.1)
          (fun k hk => by
            rw [hlm] at hk
            have h1 : k / tse.length < len := (Nat.div_lt_iff_lt_mul hlen).2 hk
            have h2 := hcell (k / tse.length) (k % tse.length) (by omega) (Nat.mod_lt _ hlen)
            rw [show k / tse.length * tse.length + k % tse.length = k by rw [Nat.mul_comm]; exact Nat.div_add_mod _ _] at h2
            rw [h2]; rfl)
          (fun i j hi hj => by
            rw [hlm] at hi
            rw [hes i hi, hcell i j (by omega) hj]
            exact ((hq i (by omega)).2.2.2 j hj).1)
        rw [hlm, ← ha] at this
        exact this
      · refine .sl e tse _ hts (by rw [hlm]; omega) (by rw [hlm]; exact Nat.le_trans (Nat.mul_le_mul_right _ hlc) hz3) (fun i hi => ?_) (fun i j hi hj => ?_)
        · rw [hlm] at hi; rw [hes i hi]; exact (hq i (by omega)).2.2.1
        · rw [hlm] at hi; rw [hes i hi]; exact ((hq i (by omega)).2.2.2 j hj).2

theorem array_open {l : List LTy} {sz : Nat} (hsz : sz = l.length) {cs : List Value} : ∀ (n : Nat), (∀ i, i < n → ∃ ps, CellsP P w l ps ((cs.drop (i * sz)).take sz)) → ∃ ps, CellsP P w (List.replicate n l).flatten ps (cs.take (n * sz))
  | 0, _ => ⟨[], by simp, rfl, fun j hj => absurd hj (by simp)⟩
  | n + 1, h => by
    obtain ⟨ps, c1⟩ := array_open hsz n (fun i hi => h i (by omega))
    obtain ⟨ps2, c2⟩ := h n (by omega)
    have e1 : (List.replicate (n + 1) l).flatten = (List.replicate n l).flatten ++ l := by
      rw [List.replicate_succ', List.flatten_append]; simp
    have e2 : cs.take ((n + 1) * sz) = cs.take (n * sz) ++ (cs.drop (n * sz)).take sz := by
      rw [Nat.succ_mul, List.take_add]
    rw [e1, e2]
    exact ⟨_, c1.append c2⟩

theorem trod_open {S : List TypeId} (hS : closedT P S = true) (fuel : Nat) : ∀ (d : Nat) (t : TypeId) (ts : List LTy) (cs : List Value) (x : DataW H × List MemPlace), okTy P S d t = true → leavesF P 12 t = some ts →
    DataW.trod enc P w base (fun _ => true) held fuel t cs = some x → Sz P t x.1 → ∃ ps, CellsP P w ts ps cs := by
  induction fuel using Nat.strongRecOn with
  | _ fuel IH =>
  intro d t ts cs x hok hl hx hz
  cases d with
  | zero => cases hok
  | succ d =>
    simp only [okTy] at hok
    rw [leavesF] at hl
    split at hok
    · rename_i hu
      rw [hu] at hl
      cases hl
      obtain ⟨b, rfl, _⟩ := DataW.trod_bool hu hx
      exact ⟨[.b b], .one (.bool b) (.bool b)⟩
    · rename_i k hu
      rw [hu] at hl
      cases hl
      obtain ⟨n, rfl, _, hw⟩ := DataW.trod_int hu hx
      exact ⟨[.i n], .one (.int k n) (.int k n hw)⟩
    · rename_i hu
      rw [hu] at hl
      cases hl
      obtain ⟨s, rfl, _, hw⟩ := DataW.trod_string hu hx
      exact ⟨[.s s.data.toList], .one (.str s) (.str _ (by rw [Array.length_toList]; exact hw))⟩
    · rename_i e hu
      rw [hu] at hl
      cases hl
      simp only [Bool.and_eq_true] at hok
      obtain ⟨h1, h2, h3⟩ := hok
      split at h3
      · rename_i tse hts
        obtain ⟨l, g1, g2⟩ := sizedT_of h2
        rw [(leaves_of hts).1] at g1
        cases g1
        refine slice_open (fun n ts cs x hn hl hx hz => ?_) hu hts (by rintro rfl; cases h3) g2 hx hz
        rcases Bool.or_eq_true_iff.1 h1 with h1 | h1
        · obtain ⟨e', he', hb⟩ := List.any_eq_true.1 h1
          obtain rfl := Nat.eq_of_beq_eq_true hb
          exact IH n hn 12 e ts cs x (List.all_eq_true.1 hS e he') hl hx hz
        · exact IH n hn d e ts cs x h1 hl hx hz
      · cases h3
    · rename_i fs hu
      rw [hu] at hl
      simp only [Bool.and_eq_true] at hok
      obtain ⟨l, g1, g2⟩ := sizedT_of hok.2
      have hl' : leavesF P 12 t = some ts := by rw [leavesF, hu]; exact hl
      rw [hl'] at g1
      cases g1
      obtain ⟨xs, n, hfn, rfl, hlen, hxl, hf⟩ := DataW.trod_struct hu hx
      have hw : DataW.weights P t (DataW.agg (xs.map (·.1))) = DataW.weightsEach P (fs.toList.map (·.type)) (xs.map (·.1)) := by rw [DataW.weights, hu]
      have := fields_open (P := P) (w := w) (n := n) (fun t ts cs x => IH n (by omega) d t ts cs x) fs.toList 0 ts cs hok.1 hl (by rw [hlen, g2, Nat.zero_add]) (fun f hf' => by
        obtain ⟨i, hi, e⟩ := List.mem_iff_getElem.1 hf'
        have hi' : i < fs.size := by simpa using hi
        have h2 := hf i f (by rw [Array.getElem?_eq_getElem hi']; rw [← e]; simp)
        rw [List.getElem?_eq_getElem (by omega)] at h2
        refine ⟨_, h2, fun m hm => hz m ?_⟩
        show m ∈ DataW.weights P t (DataW.agg (xs.map (·.1)))
        rw [hw]
        exact DataW.weights_mem_each (j := i) (by rw [List.getElem?_map, List.getElem?_eq_getElem hi, e]; rfl) (by rw [List.getElem?_map, List.getElem?_eq_getElem (by omega)]; rfl) m hm)
      exact this
    · rename_i n e hu
      have hl : (match leavesF P 11 e with | some l => some (List.replicate n l).flatten | none => none) = some ts := by rw [hu] at hl; exact hl
      simp only [Bool.and_eq_true] at hok
      obtain ⟨h1, h2, h3⟩ := hok
      obtain ⟨l, g1, g2⟩ := sizedT_of h2
      obtain ⟨l', k1, k2⟩ := sizedT_of h3
      have hl' : leavesF P 12 t = some ts := by rw [leavesF, hu]; exact hl
      rw [hl'] at k1
      cases k1
      split at hl
      · rename_i l1 hl1
        cases hl
        have := leavesF_more _ _ _ hl1
        rw [g1] at this
        cases this
        obtain ⟨xs, m, hfm, rfl, hlen, hxl, hf⟩ := DataW.trod_array hu hx
        have hw : DataW.weights P t (DataW.agg (xs.map (·.1))) = DataW.weightsAll P e (xs.map (·.1)) := by rw [DataW.weights, hu]
        have e : cs.take (n * P.cellsOf e) = cs := by
          apply List.take_of_length_le
          rw [hlen, k2, g2]
          simp
        rw [← e]
        refine array_open g2 n fun i hi => ?_
        have h2 := hf i hi
        rw [List.getElem?_eq_getElem (by omega)] at h2
        refine IH m (by omega) d _ _ _ _ h1 g1 h2 fun k hk => hz k ?_
        show k ∈ DataW.weights P t (DataW.agg (xs.map (·.1)))
        rw [hw]
        exact mem_weightsAll (List.mem_map_of_mem (List.getElem_mem _)) hk
      · cases hl
    · cases hok
end

/-! ### arguments -/
def plainTy (P : Program) (S : List TypeId) (t : TypeId) : Bool := okTy P S 12 t && (match leaves P t with | some l => l.all LTy.plain | none => false)
theorem hand1_plain {P : Program} {t : TypeId} {lts : List LTy} (h : lts.all LTy.plain = true) (ps : List PV) (c j : Nat) :
    hand1 P (fun _ => false) t lts ps c j = match mkAV P t (decO (fun _ => false) (.a 0) lts ps c) with | some v => some (v, j) | none => none := by
  unfold hand1
  split
  · simp [LTy.plain] at h
  · simp [LTy.plain] at h
  · rw [h]; rfl
theorem rowsO_no : ∀ (ts : List LTy) (mk : Nat → Id) (ps : List PV) (c : Nat), rowsO (fun _ => false) mk ts ps c = []
  | [], _, _, _ => rfl
  | t :: ts, mk, ps, c => by cases t <;> exact rowsO_no ts mk ps (c + 1)

section
variable {H : Type} {enc : TypeId × Value → H} {P : Program} {w : World} {base : Nat}

theorem value_open {S : List TypeId} {t : TypeId} {ts : List LTy} {v : Value} (hok : okTy P S 12 t = true) (hl : leavesF P 12 t = some ts) (hv : Value.okWide P w .any base t v) :
    (isAggB P t = true ∧ ∃ cs, v = .agg cs) ∨ (isAggB P t = false ∧ v.cells = #[v] ∧ ts.length = 1) := by
  simp only [okTy] at hok
  rw [leavesF] at hl
  unfold isAggB
  split at hok
  · rename_i hu
    rw [hu] at hl ⊢
    cases hl
    obtain ⟨b, rfl⟩ := WideShapes.okWide_bool hu hv
    exact .inr ⟨rfl, rfl, rfl⟩
  · rename_i k hu
    rw [hu] at hl ⊢
    cases hl
    obtain ⟨b, rfl⟩ := WideShapes.okWide_int hu hv
    exact .inr ⟨rfl, rfl, rfl⟩
  · rename_i hu
    rw [hu] at hl ⊢
    cases hl
    obtain ⟨b, rfl⟩ := WideShapes.okWide_string hu hv
    exact .inr ⟨rfl, rfl, rfl⟩
  · rename_i e hu
    rw [hu] at hl ⊢
    cases hl
    obtain ⟨a, l, c, rfl⟩ := WideShapes.okWide_slice hu hv
    exact .inr ⟨rfl, rfl, rfl⟩
  · rename_i fs hu
    rw [hu]
    obtain ⟨cs, rfl, _⟩ := WideShapes.okWide_struct hu hv
    exact .inl ⟨rfl, cs, rfl⟩
  · rename_i n e hu
    rw [hu]
    simp only [Value.okWide, hu] at hv
    obtain ⟨cs, rfl, _⟩ := hv
    exact .inl ⟨rfl, cs, rfl⟩
  · cases hok

/-- what arguments are: the cells of their types -/
def flatL (P : Program) : List TypeId → Option (List LTy)
  | [] => some []
  | t :: ts => match leaves P t, flatL P ts with
    | some l, some m => some (l ++ m)
    | _, _ => none

theorem args_open {S : List TypeId} (hS : closedT P S = true) : ∀ (ts : List TypeId) (vs : List Value) (ds : List (DataW H)) (pl : List MemPlace) (L : List LTy), ts.all (plainTy P S) = true → flatL P ts = some L →
    DataW.TrodAll enc P w 0 (fun _ => true) true ts vs ds pl → (∀ (j : Nat) t d, ts[j]? = some t → ds[j]? = some d → Sz P t d) → (∀ (j : Nat) t v, ts[j]? = some t → vs[j]? = some v → Value.okWide P w .any base t v) →
    ∃ ps, PWL P L ps ∧ ∀ (pre : List PV), ∃ avs, handV P (fun _ => false) ts (pre ++ ps) pre.length 0 = some (avs, [], 0) ∧ vs.length = avs.length ∧
      ∀ i, i < avs.length → VR P (fun b => b < w.heap.size) w.heap (fun _ => none) (avs.getD i .any) (vs.getD i undef)
  | [], [], [], pl, L, _, hL, _, _, _ => by
    cases hL
    exact ⟨[], ⟨rfl, fun j hj => absurd hj (Nat.not_lt_zero _)⟩, fun pre => ⟨[], rfl, rfl, fun i hi => absurd hi (Nat.not_lt_zero _)⟩⟩
  | [], [], _ :: _, pl, L, _, _, h, _, _ => h.elim
  | [], _ :: _, _, pl, L, _, _, h, _, _ => h.elim
  | _ :: _, [], _, pl, L, _, _, h, _, _ => h.elim
  | _ :: _, _ :: _, [], pl, L, _, _, h, _, _ => h.elim
  | t :: ts, v :: vs, d :: ds, pl, L, hok, hL, h, hz, hv => by
    obtain ⟨p, q, h1, h2, _⟩ := h
    simp only [List.all_cons, Bool.and_eq_true] at hok
    have hp := hok.1
    unfold plainTy at hp
    rw [Bool.and_eq_true] at hp
    unfold flatL at hL
    split at hL
    · rename_i l m hl hm
      cases hL
      have hpl : l.all LTy.plain = true := by have := hp.2; rw [hl] at this; exact this
      obtain ⟨ps2, g1, g2⟩ := args_open hS ts vs ds q m hok.2 hm h2 (fun j t d a b => hz (j + 1) t d (by simpa using a) (by simpa using b)) (fun j t v a b => hv (j + 1) t v (by simpa using a) (by simpa using b))
      have hl' := (leaves_of hl).1
      obtain ⟨ps1, c1⟩ := h1.elim fun fu h1 => trod_open (enc := enc) (P := P) (w := w) hS fu 12 t l v.cells.toList _ hp.1 hl' h1 (hz 0 t d rfl rfl)
      refine ⟨ps1 ++ ps2, c1.pwl.append g1, fun pre => ?_⟩
      obtain ⟨avs, k1, k2, k3⟩ := g2 (pre ++ ps1)
      have hn : ∀ i, i < l.length → (pre ++ (ps1 ++ ps2)).getD (pre.length + i) .u = ps1.getD i .u := fun i hi => by
        have hi' : i < ps1.length := by rw [c1.2.1]; exact hi
        simp [List.getD, List.getElem?_append_right, List.getElem?_append_left hi']
      have hd : ∀ i, i < l.length → LR P (fun b => b < w.heap.size) w.heap (fun _ => none) ((decO (fun _ => false) (.a 0) l (pre ++ (ps1 ++ ps2)) pre.length).getD i .dead) (v.cells.toList.getD i undef) := fun i hi => by
        refine TL.dec l _ _ _ hi ?_
        rw [hn i hi]
        have := (c1.2.2 i hi).1
        cases hlt : l.getD i .no <;> rw [hlt] at this <;> simp only [TL] <;> exact this
      have hlen : (decO (fun _ => false) (.a 0) l (pre ++ (ps1 ++ ps2)) pre.length).length = l.length := decO_length _ _ _
      have hav : ∃ av, mkAV P t (decO (fun _ => false) (.a 0) l (pre ++ (ps1 ++ ps2)) pre.length) = some av ∧ VR P (fun b => b < w.heap.size) w.heap (fun _ => none) av v := by
        rcases value_open hp.1 hl' (hv 0 t v rfl rfl) with ⟨ha, cs, rfl⟩ | ⟨ha, hc, h1⟩
        · refine ⟨.agg _, by unfold mkAV; rw [ha]; rfl, ?_⟩
          have := VR.agg (P := P) (N := fun b => b < w.heap.size) (hp := w.heap) (β := fun _ => none) (decO (fun _ => false) (.a 0) l (pre ++ (ps1 ++ ps2)) pre.length) cs.toList (by rw [hlen]; exact c1.1) (fun i hi => by rw [hlen] at hi; exact hd i hi)
          simpa using this
        · generalize hD : decO (fun _ => false) (.a 0) l (pre ++ (ps1 ++ ps2)) pre.length = D at *
          match D, hlen with
          | [x], _ =>
            refine ⟨.v x, by unfold mkAV; rw [ha]; rfl, .v _ _ ?_⟩
            have := hd 0 (by omega)
            rw [hc] at this
            simpa using this
          | [], e => rw [h1] at e; cases e
          | _ :: _ :: _, e => rw [h1] at e; cases e
      obtain ⟨av, a1, a2⟩ := hav
      have e1 : pre ++ ps1 ++ ps2 = pre ++ (ps1 ++ ps2) := List.append_assoc _ _ _
      have e2 : (pre ++ ps1).length = pre.length + l.length := by rw [List.length_append, c1.2.1]
      rw [e1, e2] at k1
      refine ⟨av :: avs, ?_, by simp [k2], fun i hi => ?_⟩
      · unfold handV
        rw [hl]
        simp only [hand1_plain hpl, a1, k1, rowsO_no, List.nil_append]
      · cases i with
        | zero => exact a2
        | succ i => simpa using k3 i (by simpa using hi)
    · cases hL

/-- a law's call, by what the interpreter answers -/
theorem law_calls {S : List TypeId} (hS : closedT P S = true) {A : Ann} {f : FuncId} {fn : Func} {L : List LTy} {tb : TypeId} {c : Code} (hP : NoCount P) (hq : CallOk P A A.prim) (hf : P.funcs[f]? = some fn) (hbody : fn.body = some c) (hfree : fn.nfree = 0) (hL : flatL P fn.params.toList = some L)
    (hok : fn.params.toList.all (plainTy P S) = true) (hres : fn.resultTypes.toList = [tb]) (htb : leaves P tb = some [.bool]) (hagg : isAggB P tb = false) (hoA : A.ownA f = fun _ => false) (hoR : A.ownR f = fun _ => false)
    (pure : ∀ ps, PWL P L ps → Ans (fun n => callAt P A n f ps []) ([.b true], []))
    {args : Array Value} {ds : List (DataW H)} {pl : List MemPlace} (hT : DataW.TrodAll enc P w 0 (fun _ => true) true fn.params.toList args.toList ds pl) (hz : ∀ (j : Nat) t d, fn.params.toList[j]? = some t → ds[j]? = some d → Sz P t d)
    (hv : ∀ (j : Nat) t v, fn.params[j]? = some t → args[j]? = some v → Value.okWide P w .any base t v) :
    Calls P f args w fun e w' => e = .returned (.bool true) ∧ Env w w' ∧ w.heap.size ≤ w'.heap.size ∧ ∀ b, b < w.heap.size → w'.heap[b]? = w.heap[b]? := by
  obtain ⟨ps, h1, h2⟩ := args_open hS fn.params.toList args.toList ds pl L hok hL hT hz (fun j t v a b => hv j t v (by simpa using a) (by simpa using b))
  obtain ⟨n, hn⟩ := (pure ps h1).one
  obtain ⟨fn', avs, ms, nn, bl, g1, g2, g3, g4, g5⟩ := callAt_ok hP hq n f ps [] _ hn
  rw [hf] at g1
  cases g1
  obtain ⟨avs', k1, k2, k3⟩ := h2 []
  rw [hoA] at g2
  rw [List.nil_append, List.length_nil] at k1
  rw [k1] at g2
  cases g2
  cases g3
  have hL0 : ov (fun _ => none) (([] : List (Id × Box)) ++ []) = fun _ => none := rfl
  have hN : ∀ b, NN (fun _ => False) (fun _ => none) (fun _ => none) w.heap b ↔ b < w.heap.size := fun b =>
    ⟨fun h => h.1, fun h => ⟨h, fun h => h, fun ⟨_, _, _, h, _⟩ => by cases h⟩⟩
  have hH : Hand P (fun _ => False) (fun _ => none) (fun _ => none) w.heap :=
    ⟨⟨fun _ _ h => (by cases h), fun _ _ _ _ _ _ _ h => (by cases h), fun _ _ _ _ h => (by cases h), fun _ h => h.elim⟩, fun _ h => absurd rfl h, fun _ h => absurd rfl h, fun _ _ h => by cases h⟩
  have up := g5 (fun _ => False) (fun _ => none) w args.toList [] hH k2 (fun i hi => VR.mono ⟨fun b hb => ⟨(hN b).2 hb, rfl⟩, fun _ _ h => h⟩ (k3 i hi)) (by rw [hfree]; rfl) (fun x hx => by rw [hfree] at hx; exact absurd hx (Nat.not_lt_zero _))
    { (default : Oper) with dst := some 0 } { tmps := #[undef], defers := [] } (fun a' w' => a'.tmps = #[.bool true] ∧ Env w w' ∧ w.heap.size ≤ w'.heap.size ∧ ∀ b, b < w.heap.size → w'.heap[b]? = w.heap[b]?) (fun _ _ _ => False) (fun v w' hp en => by
      obtain ⟨β2, bl2, d1, d2, H2, hsz, hsame, _, _, rs, rfl, hrs⟩ := hp
      refine ⟨?_, en, hsz, fun b hb => hsame b hb ?_⟩
      · have hh : handV P (A.ownR f) fn.resultTypes.toList [.b true] 0 0 = some ([.v (.bool true)], [], 0) := by
          rw [hres, hoR]
          simp only [handV, htb, hand1, decO, decL]
          simp [mkAV, hagg, LTy.plain, rowsO, PV.toB]
        obtain ⟨m1, m2⟩ := hrs _ _ _ hh
        match rs, m1 with
        | [r], _ =>
          have := m2 0 (by simp)
          have := this.leaf
          show (Array.setIfInBounds #[undef] 0 (oneR [r])) = _
          have e : r = .bool true := this
          subst e; rfl
      · rintro ⟨x, y, h, h1, _⟩; cases h1)
  rw [List.append_nil, Array.toArray_toList, run_callFunc hP hf hbody] at up
  have up : Calls P f args w _ := up
  refine up.mono fun e w' h => ?_
  cases e with
  | returned v =>
    obtain ⟨h1, h2⟩ := h
    refine ⟨?_, h2⟩
    have h1 : (Array.setIfInBounds #[undef] 0 v) = #[.bool true] := h1
    have : v = .bool true := by simpa using h1
    rw [this]
  | panicked ch => exact h.elim
  | outgrown => obtain ⟨_, _, h⟩ := h; exact h.elim
end
end Go.AI
set_option linter.unusedVariables false
set_option linter.unusedSimpArgs false
namespace Go.AI
open Go

section
variable {H : Type} {enc : TypeId × Value → H} {P : Program} {W W' : World}

theorem args_stay (hl : laidOutB P = true) (hsame : ∀ b, b < W.heap.size → W'.heap[b]? = W.heap[b]?) : ∀ (ts : List TypeId) (vs : List Value) (ds : List (DataW H)) (ps : List MemPlace),
    ts.all (fun t => P.readableRec t && decide (t < P.types.size)) = true → DataW.TrodAll enc P W 0 (fun _ => true) true ts vs ds ps → DataW.TrodAll enc P W' 0 (fun b => decide (b < W.heap.size)) true ts vs ds ps
  | [], [], [], ps, _, h => h
  | [], [], _ :: _, ps, _, h => h.elim
  | [], _ :: _, _, ps, _, h => h.elim
  | _ :: _, [], _, ps, _, h => h.elim
  | _ :: _, _ :: _, [], ps, _, h => h.elim
  | t :: ts, v :: vs, d :: ds, ps, hr, h => by
    obtain ⟨p, q, h1, h2, e⟩ := h
    simp only [List.all_cons, Bool.and_eq_true, decide_eq_true_eq] at hr
    refine ⟨p, q, ?_, args_stay hl hsame ts vs ds q (by simpa using hr.2) h2, e⟩
    have hlt : ∀ x ∈ p, x.block < W.heap.size := by
      obtain ⟨m, hm⟩ := h1
      exact DataW.trod_lt m _ _ _ hm
    refine WideElems.Trod_stays hl hr.1.1 hr.1.2 h1 (fun x hx => ?_) (fun x hx => by simpa using hlt x hx)
    have := hlt x hx
    cases x with
    | cell b o => exact World.cell?_of_block (w := W) (hsame b this)
    | map b => exact hsame b this

theorem trodAll_length {base : Nat} {sp : Nat → Bool} : ∀ (ts : List TypeId) (vs : List Value) (ds : List (DataW H)) (ps : List MemPlace), DataW.TrodAll enc P W base sp true ts vs ds ps → ds.length = ts.length
  | [], [], [], ps, h => rfl
  | [], [], _ :: _, ps, h => h.elim
  | [], _ :: _, _, ps, h => h.elim
  | _ :: _, [], _, ps, h => h.elim
  | _ :: _, _ :: _, [], ps, h => h.elim
  | t :: ts, v :: vs, d :: ds, ps, h => by
    obtain ⟨p, q, h1, h2, e⟩ := h
    simp [trodAll_length ts vs ds q h2]
end

theorem noCount_of {P : Program} (h : P.funcs.toList.all (fun fn => !fn.body.isSome || !(fn.name == "runtime.NumGoroutine")) = true) : NoCount P := by
  intro f fn hf hb
  have hm : fn ∈ P.funcs.toList := by
    rw [Array.mem_toList_iff]
    exact Array.mem_of_getElem? hf
  have := List.all_eq_true.1 h fn hm
  rw [hb] at this
  simpa using this

theorem PW.int_of {P : Program} {k : IntKind} {p : PV} (h : PW P (.int k) p) : ∃ n, p = .i n ∧ k.min ≤ n ∧ n ≤ k.max := by
  cases h with
  | int _ n hw =>
    simp only [Lit.wf, Bool.and_eq_true, decide_eq_true_eq] at hw
    exact ⟨n, rfl, hw.1, hw.2⟩
theorem PW.i64_of {P : Program} {p : PV} (h : PW P (.int .i64) p) : ∃ n, p = .i n ∧ -9223372036854775808 ≤ n ∧ n ≤ 9223372036854775807 := h.int_of
theorem PW.str_of {P : Program} {p : PV} (h : PW P .str p) : ∃ s, p = .s s ∧ s.length ≤ maxLen := by
  cases h with
  | str s hs => exact ⟨s, rfl, hs⟩
theorem PW.bool_of {P : Program} {p : PV} (h : PW P .bool p) : ∃ b, p = .b b := by
  cases h with
  | bool b => exact ⟨b, rfl⟩

theorem PW.sl_of {P : Program} {e : TypeId} {p : PV} (h : PW P (.sl e) p) : ∃ es ts, p = .l es ∧ leaves P e = some ts ∧ es.length ≤ maxLen ∧ ∀ x, x ∈ es → PWL P ts x := by
  cases h with
  | sl _ ts es hl h0 hz h1 h2 =>
    refine ⟨es, ts, rfl, hl, h0, fun x hx => ?_⟩
    obtain ⟨i, hi, rfl⟩ := List.mem_iff_getElem.1 hx
    have e : es.getD i [] = es[i] := by simp [List.getD, hi]
    have g1 := h1 i hi
    have g2 := fun j => h2 i j hi
    rw [e] at g1 g2
    exact ⟨g1, g2⟩

theorem PW.sl_size {P : Program} {e : TypeId} {es : List (List PV)} (h : PW P (.sl e) (.l es)) : es.length * P.bytesOf e ≤ reachBytes := by
  cases h with
  | sl _ ts _ hl h0 hz h1 h2 => exact hz

theorem elem_i64 {P : Program} {es : List (List PV)} (h : ∀ x, x ∈ es → PWL P [.int .i64] x) (i : Nat) (hi : i < es.length) :
    -9223372036854775808 ≤ ((es.getD i []).getD 0 .u).toI ∧ ((es.getD i []).getD 0 .u).toI ≤ 9223372036854775807 := by
  have e : es.getD i [] = es[i] := by simp [List.getD, hi]
  obtain ⟨p, q, hq, hp, _⟩ := (h es[i] (List.getElem_mem hi)).cons
  obtain ⟨n, rfl, hn⟩ := hp.i64_of
  rw [e, hq]
  exact hn

theorem law_lifted {S : List TypeId} {C : Checked} {s : ChangeSpec} {A : Ann} {f : FuncId} {fn : Func} {L : List LTy} {tb : TypeId} {c : Code} {os : Os} (started : os.Started) {H : Type} {enc : TypeId × Value → H}
    (own : ownKnob C.prog.godebug = none) (noInit : C.prog.inits.idxOf? f = none) (hl : laidOutB C.prog = true)
    (hr : fn.params.toList.all (fun t => C.prog.readableRec t && decide (t < C.prog.types.size)) = true)
    (hS : closedT C.prog S = true) (hP : NoCount C.prog) (hq : CallOk C.prog A A.prim) (hf : C.prog.funcs[f]? = some fn) (hbody : fn.body = some c) (hfree : fn.nfree = 0) (hL : flatL C.prog fn.params.toList = some L)
    (hok : fn.params.toList.all (plainTy C.prog S) = true) (hres : fn.resultTypes.toList = [tb]) (htb : C.prog.underlying tb = some .bool) (htb' : leaves C.prog tb = some [.bool])
    (hoA : A.ownA f = fun _ => false) (hoR : A.ownR f = fun _ => false) (hvars : s.vars = []) (hs : ∀ ds : List (DataW H), ds.length = fn.params.toList.length → s.fn H ds = { results := [.lit (.bool true)], args := ds })
    (witness : ∃ (w : World) (tape : Tape) (i : Input), w.os = os ∧ (w.forCall tape i).Shaped C.prog ∧ i.vars = [] ∧ Input.okWide C.prog (w.forCall tape i) .any w.heap.size f i ∧
      s.pre6 enc C.prog fn [] false (w.forCall tape i).memory i.args ∧ ({} : Assume).holds C.prog (lone (Go.Frame.enter C.prog f i.args .normal) [] (w.forCall tape i)))
    (pure : ∀ ps, PWL C.prog L ps → Ans (fun n => callAt C.prog A n f ps []) ([.b true], [])) :
    ReturnsInHanded {} C os f .any (s.pre6 enc C.prog fn [] false) (s.post enc C.prog fn false true false false) := by
  refine returnsInHanded_of_change_sized (C := C) own started noInit hf witness ?_
  intro W base args ds gs before hval hW hcnd hsz _
  have hW' := hW
  obtain ⟨p, q, hA, hV, rfl, hfz, hnd⟩ := hW
  rw [hvars] at hV
  obtain ⟨rfl, rfl⟩ := ChangeShapes.trodVars_none hV
  have hagg : isAggB C.prog tb = false := by unfold isAggB; rw [htb]
  refine (law_calls hS hP hq hf hbody hfree hL hok hres htb' hagg hoA hoR pure hA (fun j t d a b m hm => by
    have := List.all_eq_true.1 hsz m (DataW.weights_mem_each (j := j) (t := t) (d := d) (by rw [List.getElem?_append_left (List.getElem?_eq_some_iff.1 a).1]; exact a) (by rw [List.getElem?_append_left (List.getElem?_eq_some_iff.1 b).1]; exact b) m hm)
    simpa using this) hval).mono fun e W' ⟨he, en, hsize, hsame⟩ => ⟨.bool true, he, ?_⟩
  have hspec := hs ds (trodAll_length _ _ _ _ hA)
  have hbt : DataW.Trod enc C.prog W' W.heap.size (fun _ => false) false tb (.bool true) (.lit (.bool true)) [] := ⟨1, by simp [DataW.trod, Value.cells, htb]⟩
  have hsz1 : fn.resultTypes.size = 1 := by rw [← Array.length_toList, hres]; rfl
  refine ⟨ds, [], p ++ [], [], p, [], hW', ?_, ?_, ?_, ?_, fun h => by cases h⟩
  · rw [List.append_nil, hspec, hres, hsz1]
    exact ChangeShapes.trodAll_mk1 hbt
  · rw [List.append_nil, hspec]
    exact args_stay hl hsame _ _ _ _ hr hA
  · rw [List.append_nil, hspec, hvars]
    exact rfl
  · refine ⟨en.1, en.2, fun i hi => ?_⟩
    rw [hsame i hi]
    split <;> simp_all
end Go.AI
set_option linter.unusedVariables false
set_option linter.unusedSimpArgs false
namespace Go.AI
open Go

section
variable (P : Program) (A : Ann) (p : CallF)
abbrev Ann.by : Ann := { A with prim := p }
variable (F : FuncId)
theorem bxK_by (id : Id) (k : BX → Acc) : bxK P (A.by p) id k = bxK P A id k := by
  unfold bxK
  congr 1
theorem bxsK_by : ∀ (ids : List Id) (k : List BX → Acc), bxsK P (A.by p) ids k = bxsK P A ids k
  | [], k => rfl
  | id :: ids, k => by
    unfold bxsK
    rw [bxK_by]
    congr 1
    funext b
    exact bxsK_by ids _
theorem handB_by : ∀ (bs : List BX) (j : Nat), handB P (A.by p) bs j = handB P A bs j
  | [], j => rfl
  | (t, ps) :: bs, j => by
    unfold handB
    rw [handB_by bs (j + 1)]
theorem backK_by (r j : Nat) (tys : List TypeId) (res : Res) (rts : List TypeId) (own : TypeId → Bool) (ids : List Id) (k : AV → Acc) : backK P (A.by p) r j tys res rts own ids k = backK P A r j tys res rts own ids k := by
  unfold backK
  simp only [handB_by]
theorem callK_by (r j : Nat) (f : FuncId) (cap : List Id) (args : List AV) (k : AV → Acc) : callK P (A.by p) r j f cap args k = callK P A r j f cap args k := by
  unfold callK
  simp only [bxsK_by, backK_by]
theorem opK_by (o : Oper) (r j : Nat) : opK P (A.by p) F o r j = opK P A F o r j := by
  unfold opK
  simp only [callK_by]
theorem goK_by : goK P (A.by p) F = goK P A F := by
  funext all o r j
  unfold goK
  simp only [opK_by]
theorem aops_by {α : Type} (call : CallF) (all : Array Oper) : ∀ (os : List Oper) (j : Nat) (st : St) (K : St → Option α), aops P (A.by p) F call all os j st K = aops P A F call all os j st K
  | [], _, _, _ => rfl
  | o :: os, j, st, K => by
    unfold aops
    rw [goK_by]
    congr 1
    funext st
    exact aops_by call all os (j + 1) st K
theorem aopsL_by {α : Type} (call : CallF) (all : Array Oper) : ∀ (os : List Oper) (j : Nat) (st : St) (fs : List Foot) (K : St → List Foot → Option α), aopsL P (A.by p) F call all os j st fs K = aopsL P A F call all os j st fs K
  | [], _, _, _, _ => rfl
  | o :: os, j, st, fs, K => by
    unfold aopsL
    rw [goK_by]
    congr 1
    funext st f
    exact aopsL_by call all os (j + 1) st (f :: fs) K
theorem aseq_by {α : Type} (call : CallF) (ops : Array Oper) (draw : Bool) (st : St) (K : St → Option α) : aseq P (A.by p) F call ops draw st K = aseq P A F call ops draw st K := by
  cases draw with
  | false => exact aops_by P A p F call ops _ _ _ _
  | true => simp only [aseq, aopsL_by]
theorem aregion_by {α : Type} (call : CallF) (ops : Array Oper) (draw : Bool) (st : St) (K : St → Option α) : aregion P (A.by p) F call ops draw st K = aregion P A F call ops draw st K := by
  unfold aregion
  simp only [aseq_by]
theorem finish_by : finish P (A.by p) = finish P A := by
  funext F pts fn st
  unfold finish
  simp only [bxsK_by]
theorem clean_by : clean P (A.by p) = clean P A := rfl
theorem adv_by (fn : Func) (pts : List TypeId) (call : CallF) (R : List Item → St → Option Res) : ∀ (n : Nat) (fst : Bool) (todo : List Item) (st : St), adv P (A.by p) F fn pts call R n fst todo st = adv P A F fn pts call R n fst todo st := by
  intro n
  induction n with
  | zero => intro fst todo st; rfl
  | succ n ih =>
    intro fst todo st
    unfold adv
    simp only [ih, aregion_by, finish_by, clean_by]
theorem enter_by : enter P (A.by p) = enter P A := by
  funext f fn ps bs
  unfold enter
  simp only [handB_by]
theorem extR_by : extR P (A.by p) = extR P A := rfl

theorem lvl_by (h0 : A.prim = fun _ _ _ => none) (hp : ∀ f ps bs r, p f ps bs = some r → ∀ n, (lvl P A n).1 f ps bs = none) : ∀ n, (∀ f ps bs r, (lvl P A n).1 f ps bs = some r → (lvl P (A.by p) n).1 f ps bs = some r) ∧
    ∀ f pts t st r, (lvl P A n).2 f pts t st = some r → (lvl P (A.by p) n).2 f pts t st = some r
  | 0 => ⟨fun f ps bs r h => (by cases h), fun f pts t st r h => (by cases h)⟩
  | n + 1 => by
    obtain ⟨h1, h2⟩ := lvl_by h0 hp n
    refine ⟨fun f ps bs r h => ?_, fun f pts t st r h => ?_⟩
    · cases hq : p f ps bs with
      | some r' => rw [hp f ps bs r' hq] at h; cases h
      | none =>
        rw [lvl] at h ⊢
        simp only [h0, hq, enter_by, extR_by] at h ⊢
        split at h
        · split at h
          · rw [adv_by]
            exact adv_mono h1 P A f _ _ _ _ (fun t st r => h2 f _ t st r) _ _ _ _ _ h
          · exact h
          · cases h
        · cases h
    · rw [lvl] at h ⊢
      simp only at h ⊢
      split at h
      · rw [adv_by]
        exact adv_mono h1 P A f _ _ _ _ (fun t st r => h2 f _ t st r) _ _ _ _ _ h
      · cases h
theorem callW_by {A : Ann} {p : CallF} (h0 : A.prim = fun _ _ _ => none) (hp : ∀ f ps bs r, p f ps bs = some r → ∀ n, callAt P A n f ps bs = none) {f : FuncId} {ps : List PV} {bs : List BX} {r : Res} (h : callW P A f ps bs = some r) : callW P (A.by p) f ps bs = some r := by
  obtain ⟨n, hn⟩ := (callW_iff _ _).1 h
  exact (callW_iff _ _).2 ⟨n, (lvl_by P A p h0 hp n).1 f ps bs r hn⟩
end

/-- a call that the kit's walk knows, where an operation asks for it -/
theorem upon_of {P : Program} {f : FuncId} {args : Array Value} {w : World} {R : Value → World → Prop} (h : Calls P f args w fun e w' => ∃ v, e = .returned v ∧ R v w') (o : Oper) (a : Act) (next : Act → World → Prop) (Q : Exit → Act → World → Prop)
    (hn : ∀ v w', R v w' → next (a.put o.dst v) w') : o.upon P a next Q (.ok (.enter f args) w) := by
  rw [Oper.upon_enter]
  refine h.mono ?_
  rintro e w' ⟨v, rfl, hR⟩
  exact hn v w' hR
/-- below a block the world is as it was -/
structure Bel (B : Nat) (w w' : World) : Prop where
  env : Env w w'
  size : w.heap.size ≤ w'.heap.size
  block : ∀ k, k < B → w'.heap[k]? = w.heap[k]?
theorem Bel.refl (B : Nat) (w : World) : Bel B w w := ⟨Env.refl _, Nat.le_refl _, fun _ _ => rfl⟩
theorem Bel.trans {B : Nat} {a b c : World} (h : Bel B a b) (k : Bel B b c) : Bel B a c :=
  ⟨⟨k.env.1.trans h.env.1, k.env.2.trans h.env.2⟩, Nat.le_trans h.size k.size, fun i hi => (k.block i hi).trans (h.block i hi)⟩
theorem Bel.mono {B B' : Nat} {w w' : World} (h : Bel B w w') (hB : B' ≤ B) : Bel B' w w' := ⟨h.env, h.size, fun k hk => h.block k (Nat.lt_of_lt_of_le hk hB)⟩

/-- a call of plain data, by what the interpreter answers -/
theorem plain_calls {P : Program} {A : Ann} (hP : NoCount P) (hq : CallOk P A A.prim) {n : Nat} {f : FuncId} {ps rs : List PV} (h : callAt P A n f ps [] = some (rs, [])) {fn : Func} {c : Code} (hf : P.funcs[f]? = some fn) (hbody : fn.body = some c) (hfree : fn.nfree = 0)
    {avs : List AV} (ha : handV P (A.ownA f) fn.params.toList ps 0 0 = some (avs, [], 0)) (hrow : rowsV P (A.ownR f) fn.resultTypes.toList rs 0 = []) {args : List Value} {w : World} (hl : args.length = avs.length)
    (hv : ∀ i, i < avs.length → VR P (fun b => b < w.heap.size) w.heap (fun _ => none) (avs.getD i .any) (args.getD i undef)) :
    Calls P f args.toArray w fun e w' => ∃ v, e = .returned v ∧ Bel w.heap.size w w' ∧ ∃ vs : List Value, v = oneR vs ∧ ∀ bvs ms n, handV P (A.ownR f) fn.resultTypes.toList rs 0 0 = some (bvs, ms, n) → bvs.length = vs.length ∧
      ∀ i, i < vs.length → VR P (fun b => b < w'.heap.size) w'.heap (fun _ => none) (bvs.getD i .any) (vs.getD i undef) := by
  obtain ⟨fn', avs', ms, nn, bl, g1, g2, g3, g4, g5⟩ := callAt_ok hP hq n f ps [] _ h
  rw [hf] at g1
  cases g1
  rw [ha] at g2
  cases g2
  cases g3
  have hN : ∀ (hp : Array Obj) b, NN (fun _ => False) (fun _ => none) (fun _ => none) hp b ↔ b < hp.size := fun hp b =>
    ⟨fun h => h.1, fun h => ⟨h, fun h => h, fun ⟨_, _, _, h, _⟩ => by cases h⟩⟩
  have hH : Hand P (fun _ => False) (fun _ => none) (fun _ => none) w.heap :=
    ⟨⟨fun _ _ h => (by cases h), fun _ _ _ _ _ _ _ h => (by cases h), fun _ _ _ _ h => (by cases h), fun _ h => h.elim⟩, fun _ h => absurd rfl h, fun _ h => absurd rfl h, fun _ _ h => by cases h⟩
  have up := g5 (fun _ => False) (fun _ => none) w args [] hH hl (fun i hi => VR.mono ⟨fun b hb => ⟨(hN _ b).2 hb, rfl⟩, fun _ _ h => h⟩ (hv i hi)) (by rw [hfree]; rfl) (fun x hx => by rw [hfree] at hx; exact absurd hx (Nat.not_lt_zero _))
    { (default : Oper) with dst := some 0 } { tmps := #[undef], defers := [] } (fun a' w' => ∃ v, a'.tmps = #[v] ∧ Bel w.heap.size w w' ∧ ∃ vs : List Value, v = oneR vs ∧ ∀ bvs ms n, handV P (A.ownR f) fn.resultTypes.toList rs 0 0 = some (bvs, ms, n) → bvs.length = vs.length ∧
      ∀ i, i < vs.length → VR P (fun b => b < w'.heap.size) w'.heap (fun _ => none) (bvs.getD i .any) (vs.getD i undef)) (fun _ _ _ => False) (fun v w' hp en => by
      obtain ⟨β2, bl2, d1, d2, H2, hsz, hsame, _, _, vs, rfl, hrs⟩ := hp
      cases d1
      rw [hrow] at H2 hrs
      refine ⟨_, rfl, ⟨en, hsz, fun b hb => hsame b hb ?_⟩, vs, rfl, fun bvs ms n hh => ?_⟩
      · rintro ⟨x, y, h, h1, _⟩; cases h1
      · obtain ⟨m1, m2⟩ := hrs bvs ms n hh
        refine ⟨m1, fun i hi => VR.mono ⟨fun b hb => ⟨hb.1, rfl⟩, fun id k hk => ?_⟩ (m2 i hi)⟩
        exact absurd rfl (H2.nm id (by rw [hk]; exact fun h => by cases h)))
  rw [List.append_nil, run_callFunc hP hf hbody] at up
  have up : Calls P f args.toArray w _ := up
  refine up.mono fun e w' h => ?_
  cases e with
  | returned v =>
    obtain ⟨v', h1, h2⟩ := h
    have h1 : (Array.setIfInBounds #[undef] 0 v) = #[v'] := h1
    have : v = v' := by simpa using h1
    subst this
    exact ⟨_, rfl, h2⟩
  | panicked ch => exact h.elim
  | outgrown => obtain ⟨_, _, h⟩ := h; exact h.elim
end Go.AI
