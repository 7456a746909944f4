/- The interpreter's soundness, fourteenth part: boxes on the way from caller to callee. -/
import Derived.Test.YtbaajplajjfgcaaGreatAiB
set_option linter.unusedVariables false
set_option linter.unusedSimpArgs false
namespace Go.AI
open Go

section
variable {P : Program} {D : Nat → Prop} {β : GM} {B : Id → Option Box} {hp : Array Obj}

theorem Mem.hdr (m : Mem P D β B hp) {id : Id} {x : Box} (hx : B id = some x) : ∃ h, β id = some h := (m.bx id x hx).hdr

/-- a box gets another name -/
theorem Mem.move2_ext (m : Mem P D β B hp) {id id' : Id} {x : Box} (hx : B id = some x) (hx0 : x.isFroz = false) {β' : GM} (hβ : ∀ i k, β i = some k → β' i = some k) {h h' : Hdr} (hh : β id = some h) (hh' : β' id' = some h')
    (hk : h'.blk = h.blk) (x' : Box) : Ext (NN D β B hp) hp β (NN D β' (updB (updB B id none) id' (some x')) hp) hp β' := by
  refine ⟨fun b ⟨h1, h2, h3⟩ => ⟨⟨h1, h2, ?_⟩, rfl⟩, hβ⟩
  rintro ⟨i, y, g, g1, g2, g3, g4⟩
  rcases updB_some _ _ g1 with ⟨rfl, e⟩ | ⟨hi, e⟩
  · rw [hh'] at g3; cases g3; exact h3 ⟨id, x, h, hx, hx0, hh, hk ▸ g4⟩
  · rcases updB_some _ _ e with ⟨_, e⟩ | ⟨_, e⟩
    · cases e
    · obtain ⟨g', e'⟩ := m.hdr e
      rw [hβ _ _ e'] at g3; cases g3
      exact h3 ⟨i, y, g, e, g2, e', g4⟩
theorem Mem.move2 (m : Mem P D β B hp) {id id' : Id} {x : Box} (hx : B id = some x) (hx0 : x.isFroz = false) {β' : GM} (hβ : ∀ i k, β i = some k → β' i = some k) {h h' : Hdr} (hh : β id = some h) (hh' : β' id' = some h')
    (hk : h'.blk = h.blk) (x' : Box) (hx' : BoxR P (NN D β' (updB (updB B id none) id' (some x')) hp) hp β' id' x') : Mem P D β' (updB (updB B id none) id' (some x')) hp := by
  have e := m.move2_ext hx hx0 hβ hh hh' hk x'
  have back : ∀ {i y g k}, updB (updB B id none) id' (some x') i = some y → β' i = some g → g.blk = some k →
      (i = id' ∧ h.blk = some k) ∨ (i ≠ id' ∧ i ≠ id ∧ B i = some y ∧ β i = some g) := by
    intro i y g k h1 h2 h3
    rcases updB_some _ _ h1 with ⟨rfl, _⟩ | ⟨hi, e⟩
    · rw [hh'] at h2; cases h2; exact .inl ⟨rfl, hk ▸ h3⟩
    · rcases updB_some _ _ e with ⟨_, e⟩ | ⟨hi2, e⟩
      · cases e
      · obtain ⟨g', e'⟩ := m.hdr e
        rw [hβ _ _ e'] at h2; cases h2; exact .inr ⟨hi, hi2, e, e'⟩
  refine ⟨fun i y hy => ?_, fun i i' y y' g g' k h1 h2 h3 h4 h5 h6 => ?_, fun i y g k h1 h2 h3 hd => ?_, m.lt⟩
  · rcases updB_some _ _ hy with ⟨rfl, e'⟩ | ⟨hi, e'⟩
    · obtain rfl := Option.some.inj e'; exact hx'
    · rcases updB_some _ _ e' with ⟨_, e'⟩ | ⟨hi2, e'⟩
      · cases e'
      · exact (m.bx i y e').mono e fun _ _ _ _ => rfl
  · rcases back h1 h3 h5 with ⟨rfl, a1⟩ | ⟨a1, a2, a3, a4⟩ <;> rcases back h2 h4 h6 with ⟨rfl, b1⟩ | ⟨b1, b2, b3, b4⟩
    · rfl
    · exact absurd (m.dj i' id y' x g' h k b3 hx b4 hh h6 a1) b2
    · exact absurd (m.dj i id y x g h k a3 hx a4 hh h5 b1) a2
    · exact m.dj i i' y y' g g' k a3 b3 a4 b4 h5 h6
  · rcases back h1 h2 h3 with ⟨rfl, a1⟩ | ⟨a1, a2, a3, a4⟩
    · exact m.dD id x h k hx hh a1 hd
    · exact m.dD i y g k a3 a4 h3 hd

/-- more names -/
theorem Mem.names_ext (m : Mem P D β B hp) {β' : GM} (hβ : ∀ i k, β i = some k → β' i = some k) : Ext (NN D β B hp) hp β (NN D β' B hp) hp β' := by
  refine ⟨fun b ⟨h1, h2, h3⟩ => ⟨⟨h1, h2, ?_⟩, rfl⟩, hβ⟩
  rintro ⟨i, y, g, g1, g2, g3, g4⟩
  obtain ⟨g', e'⟩ := m.hdr g1
  rw [hβ _ _ e'] at g3; cases g3
  exact h3 ⟨i, y, g, g1, g2, e', g4⟩
theorem Mem.names (m : Mem P D β B hp) {β' : GM} (hβ : ∀ i k, β i = some k → β' i = some k) : Mem P D β' B hp := by
  have e := m.names_ext hβ
  have back : ∀ {i y g}, B i = some y → β' i = some g → β i = some g := by
    intro i y g h1 h2
    obtain ⟨g', e'⟩ := m.hdr h1
    rw [hβ _ _ e'] at h2; cases h2; exact e'
  exact ⟨fun i y hy => (m.bx i y hy).mono e fun _ _ _ _ => rfl, fun i i' y y' g g' k h1 h2 h3 h4 h5 h6 => m.dj i i' y y' g g' k h1 h2 (back h1 h3) (back h2 h4) h5 h6,
    fun i y g k h1 h2 h3 hd => m.dD i y g k h1 (back h1 h2) h3 hd, m.lt⟩

/-- fewer boxes; blocks that are set aside -/
theorem Mem.part (m : Mem P D β B hp) {B' : Id → Option Box} {D' : Nat → Prop} (hB : ∀ i x, B' i = some x → B i = some x)
    (hD : ∀ k, D' k → D k ∨ ∃ id x h, B id = some x ∧ x.isFroz = false ∧ B' id = none ∧ β id = some h ∧ h.blk = some k) :
    Ext (NN D β B hp) hp β (NN D' β B' hp) hp β ∧ Mem P D' β B' hp := by
  have e : Ext (NN D β B hp) hp β (NN D' β B' hp) hp β := by
    refine ⟨fun b ⟨h1, h2, h3⟩ => ⟨⟨h1, fun hd => ?_, ?_⟩, rfl⟩, fun _ _ h => h⟩
    · rcases hD b hd with hd | ⟨id, x, h, g1, g2, g3, g4, g5⟩
      · exact h2 hd
      · exact h3 ⟨id, x, h, g1, g2, g4, g5⟩
    · rintro ⟨i, y, g, g1, g2, g3, g4⟩
      exact h3 ⟨i, y, g, hB _ _ g1, g2, g3, g4⟩
  refine ⟨e, ⟨fun i y hy => (m.bx i y (hB _ _ hy)).mono e fun _ _ _ _ => rfl, fun i i' y y' g g' k h1 h2 h3 h4 h5 h6 => m.dj i i' y y' g g' k (hB _ _ h1) (hB _ _ h2) h3 h4 h5 h6,
    fun i y g k h1 h2 h3 hd => ?_, fun k hk => ?_⟩⟩
  · rcases hD k hd with hd | ⟨id, x, h, g1, g2, g3, g4, g5⟩
    · exact m.dD i y g k (hB _ _ h1) h2 h3 hd
    · have := m.dj i id y x g h k (hB _ _ h1) g1 h2 g4 h3 g5
      subst this; rw [g3] at h1; cases h1
  · rcases hD k hk with hd | ⟨id, x, h, g1, g2, g3, g4, g5⟩
    · exact m.lt k hd
    · exact (m.bx id x g1).blk_lt g4 g5
end

/-! ### what is handed over, cell by cell -/
/-- a cell at the other side: names of rows by their place -/
def TL (P : Program) (N : Nat → Prop) (hp : Array Obj) (β : GM) (own : TypeId → Bool) (mk : Nat → Id) (c : Nat) : LTy → PV → Value → Prop
  | .sl e, p, v => if own e then RowV β (mk c) v ∧ ∃ es, p = .l es else RP P N hp (.sl e) p v
  | t, p, v => RP P N hp t p v

theorem TL.dec {P : Program} {N : Nat → Prop} {hp : Array Obj} {β : GM} {own : TypeId → Bool} {mk : Nat → Id} : ∀ (ts : List LTy) (ps : List PV) (c i : Nat), i < ts.length → ∀ {v : Value},
    TL P N hp β own mk (c + i) (ts.getD i .no) (ps.getD (c + i) .u) v → LR P N hp β ((decO own mk ts ps c).getD i .dead) v
  | [], ps, c, i, h, v, _ => absurd h (Nat.not_lt_zero _)
  | t :: ts, ps, c, 0, _, v, hv => by
    simp only [Nat.add_zero, List.getD_cons_zero] at hv
    cases t with
    | sl e =>
      simp only [decO, List.getD_cons_zero]
      simp only [TL] at hv
      revert hv
      cases own e with
      | true => intro hv; exact (by simpa using hv : RowV β (mk c) v ∧ _).1
      | false => intro hv; exact (by simpa using hv : RP P N hp (.sl e) _ v).dec
    | _ => exact (show RP P N hp _ _ v from hv).dec
  | t :: ts, ps, c, i + 1, h, v, hv => by
    have e : c + (i + 1) = c + 1 + i := by omega
    rw [e] at hv
    have ih := TL.dec ts ps (c + 1) i (by simpa using h) (v := v) (by simpa using hv)
    cases t <;> simpa [decO] using ih
theorem decO_length {own : TypeId → Bool} {mk : Nat → Id} : ∀ (ts : List LTy) (ps : List PV) (c : Nat), (decO own mk ts ps c).length = ts.length
  | [], _, _ => rfl
  | t :: ts, ps, c => by cases t <;> simp [decO, decO_length ts]

/-- the boxes of a state, and those on the way -/
def joint (B Z : Id → Option Box) : Id → Option Box := fun id => if id.isZ then Z id else B id
theorem joint_n {B Z : Id → Option Box} {id : Id} (h : id.isZ = false) : joint B Z id = B id := by simp [joint, h]
theorem joint_z {B Z : Id → Option Box} {id : Id} (h : id.isZ = true) : joint B Z id = Z id := by simp [joint, h]
theorem joint_updn {B Z : Id → Option Box} {id : Id} (h : id.isZ = false) (x : Option Box) : joint (updB B id x) Z = updB (joint B Z) id x := by
  funext i
  by_cases e : i = id
  · subst e; rw [joint_n h, updB_same, updB_same]
  · rw [updB_ne _ _ e]
    unfold joint
    rw [updB_ne _ _ e]
theorem joint_updz {B Z : Id → Option Box} {id : Id} (h : id.isZ = true) (x : Option Box) : joint B (updB Z id x) = updB (joint B Z) id x := by
  funext i
  by_cases e : i = id
  · subst e; rw [joint_z h, updB_same, updB_same]
  · rw [updB_ne _ _ e]
    unfold joint
    rw [updB_ne _ _ e]

structure RelZ (P : Program) (h0 : Array Obj) (W : Wr) (D : Nat → Prop) (β : GM) (S : Nat → Prop) (st : St) (Z : Id → Option Box) (a : Act) (w : World) : Prop where
  mem : Mem P D β (joint st.boxes Z) w.heap
  fresh : Fresh β st.r S
  frame : Frame W β (joint st.boxes Z) h0 w.heap
  tm : ∀ t, VR P (NN D β (joint st.boxes Z) w.heap) w.heap β (st.tmps t) (a.tmps.getD t undef)
  nt : a.tmps.size = st.nt
  df : a.defers = []
  nz : ∀ r i x, st.boxes (.z r i x) = none
  en : Env W.e w

section
variable {α : Type} {P : Program} {A : Ann} {h0 : Array Obj} {W : Wr} {D : Nat → Prop} {β : GM} {S : Nat → Prop} {st : St} {Z : Id → Option Box} {a : Act} {w : World} {call : CallF} {K : St → Option α} {res : α}

theorem joint_none (hz : ∀ r i x, st.boxes (.z r i x) = none) : joint st.boxes (fun _ => none) = st.boxes := by
  funext id
  cases id <;> first | rfl | exact (hz _ _ _).symm
theorem Rel.toZ (R : Rel P h0 W D β S st a w) : RelZ P h0 W D β S st (fun _ => none) a w := by
  have e := joint_none R.nz
  exact ⟨by rw [e]; exact R.mem, R.fresh, by rw [e]; exact R.frame, by rw [e]; exact R.tm, R.nt, R.df, R.nz, R.en⟩
theorem RelZ.toRel (R : RelZ P h0 W D β S st (fun _ => none) a w) : Rel P h0 W D β S st a w := by
  have e := joint_none R.nz
  exact ⟨by have := R.mem; rwa [e] at this, R.fresh, by have := R.frame; rwa [e] at this, by have := R.tm; rwa [e] at this, R.nt, R.df, R.nz, R.en⟩

theorem RelZ.step (R : RelZ P h0 W D β S st Z a w) {B' Z' : Id → Option Box} {β' : GM} (m : Mem P D β' (joint B' Z') w.heap)
    (e : Ext (NN D β (joint st.boxes Z) w.heap) w.heap β (NN D β' (joint B' Z') w.heap) w.heap β') (fr : Frame W β' (joint B' Z') h0 w.heap) (fh : Fresh β' st.r S) (hz : ∀ r i x, B' (.z r i x) = none) :
    RelZ P h0 W D β' S { st with boxes := B' } Z' a w :=
  ⟨m, fh, fr, fun t => (R.tm t).mono e, R.nt, R.df, hz, R.en⟩

theorem nz_of {id : Id} (hz : ∀ r i x, st.boxes (.z r i x) = none) {x : Box} (h : st.boxes id = some x) : id.isZ = false := by
  cases id <;> first | rfl | (rw [hz] at h; cases h)
theorem nz_upd {id : Id} (hz : ∀ r i x, st.boxes (.z r i x) = none) (h : id.isZ = false) (y : Option Box) : ∀ r i x, updB st.boxes id y (.z r i x) = none := by
  intro r i x
  rw [updB_ne]; exact hz r i x
  rintro rfl; cases h

theorem zP {id : Id} (h : id.isZ = true) : id.isP = false := by cases id <;> first | rfl | cases h
theorem Frame.of_sub {B B' : Id → Option Box} {β' : GM} {hp : Array Obj} (f : Frame W β B h0 hp) (h : ∀ id x k b, B' id = some x → β' id = some k → k.blk = some b → ∃ id' x' k', B id' = some x' ∧ β id' = some k' ∧ k'.blk = some b) (hβ : ∀ i, β' (.p i) = β (.p i)) : Frame W β' B' h0 hp :=
  ⟨f.sz, f.same, fun id x k b h1 h2 h3 h4 => by obtain ⟨id', x', k', g1, g2, g3⟩ := h id x k b h1 h2 h3; exact f.own id' x' k' b g1 g2 g3 h4, fun i h e => f.pn i h (hβ i ▸ e)⟩

theorem RelZ.drop (R : RelZ P h0 W D β S st Z a w) {id : Id} (hn : id.isZ = false) : RelZ P h0 W D β S (st.setB id none) Z a w ∧ Ext (NN D β (joint st.boxes Z) w.heap) w.heap β (NN D β (joint (st.setB id none).boxes Z) w.heap) w.heap β := by
  have ej : joint (st.setB id none).boxes Z = updB (joint st.boxes Z) id none := joint_updn hn none
  have e := R.mem.drop_ext id
  refine ⟨R.step (B' := updB st.boxes id none) (Z' := Z) ?_ ?_ ?_ R.fresh (nz_upd R.nz hn _), by rw [ej]; exact e⟩
  · rw [joint_updn hn]; exact R.mem.drop id
  · rw [joint_updn hn]; exact e
  · rw [joint_updn hn]
    refine R.frame.of_sub (fun i y k b h1 h2 h3 => ?_) (fun _ => rfl)
    rcases updB_some _ _ h1 with ⟨_, e⟩ | ⟨_, e⟩
    · cases e
    · exact ⟨i, y, k, e, h2, h3⟩

/-- from the state's boxes to those on the way -/
theorem RelZ.send (R : RelZ P h0 W D β S st Z a w) {id zid : Id} {x : Box} (hx : st.boxes id = some x) (hx0 : x.isFroz = false) (hz : zid.isZ = true) (ho : Old st.r S zid) (hzn : β zid = none) {h : Hdr} (hh : β id = some h) (x' : Box) (hf : x'.isFroz = false)
    (hx' : ∀ β' B', Ext (NN D β (joint st.boxes Z) w.heap) w.heap β (NN D β' B' w.heap) w.heap β' → β' zid = some h → BoxR P (NN D β' B' w.heap) w.heap β' zid x') :
    RelZ P h0 W D (updB β zid (some h)) S (st.setB id none) (updB Z zid (some x')) a w ∧
      Ext (NN D β (joint st.boxes Z) w.heap) w.heap β (NN D (updB β zid (some h)) (joint (st.setB id none).boxes (updB Z zid (some x'))) w.heap) w.heap (updB β zid (some h)) := by
  have hn := nz_of R.nz hx
  have hx1 : joint st.boxes Z id = some x := by rw [joint_n hn]; exact hx
  have hβ : ∀ i k, β i = some k → updB β zid (some h) i = some k := fun i k e => by
    rw [updB_ne]; exact e
    rintro rfl; rw [hzn] at e; cases e
  have ej : joint (updB st.boxes id none) (updB Z zid (some x')) = updB (updB (joint st.boxes Z) id none) zid (some x') := by rw [joint_updz hz, joint_updn hn]
  have e := R.mem.move2_ext hx1 hx0 hβ hh (updB_same β zid (some h)) rfl x'
  have hb := hx' _ _ e (updB_same _ _ _)
  refine ⟨R.step (B' := updB st.boxes id none) (Z' := updB Z zid (some x')) ?_ ?_ ?_ (R.fresh.upd' ho) (nz_upd R.nz hn _), ?_⟩
  · rw [ej]; exact R.mem.move2 hx1 hx0 hβ hh (updB_same _ _ _) rfl x' hb
  · rw [ej]; exact e
  · rw [ej]
    refine R.frame.of_sub (fun i y k b h1 h2 h3 => ?_) (fun i => pn_upd (zP hz) i)
    rcases updB_some _ _ h1 with ⟨rfl, _⟩ | ⟨hi, e⟩
    · rw [updB_same] at h2; cases h2; exact ⟨id, x, h, hx1, hh, h3⟩
    · rcases updB_some _ _ e with ⟨_, e⟩ | ⟨_, e⟩
      · cases e
      · rw [updB_ne _ _ hi] at h2; exact ⟨i, y, k, e, h2, h3⟩
  · show Ext _ _ _ (NN D _ (joint (updB st.boxes id none) (updB Z zid (some x'))) _) _ _
    rw [ej]; exact e

/-- a nil slice that may grow, on the way -/
theorem RelZ.sendNil (R : RelZ P h0 W D β S st Z a w) {zid : Id} (hz : zid.isZ = true) (ho : Old st.r S zid) (hzn : β zid = none) {e : TypeId} {ts : List LTy} (hts : leaves P e = some ts) :
    RelZ P h0 W D (updB β zid (some ⟨none, 0, 0, ts.length⟩)) S st (updB Z zid (some (.row e []))) a w ∧
      Ext (NN D β (joint st.boxes Z) w.heap) w.heap β (NN D (updB β zid (some ⟨none, 0, 0, ts.length⟩)) (joint st.boxes (updB Z zid (some (.row e [])))) w.heap) w.heap (updB β zid (some ⟨none, 0, 0, ts.length⟩)) := by
  have ej : joint st.boxes (updB Z zid (some (.row e []))) = updB (joint st.boxes Z) zid (some (.row e [])) := joint_updz hz _
  have hb : ∀ k, (⟨none, 0, 0, ts.length⟩ : Hdr).blk = some k → w.heap.size ≤ k := fun k hk => by cases hk
  have ex := R.mem.add_ext (Nat.le_refl _) (fun _ _ => rfl) hzn (.row e []) ⟨none, 0, 0, ts.length⟩ hb
  refine ⟨R.step (B' := st.boxes) (Z' := updB Z zid (some (.row e []))) ?_ ?_ ?_ (R.fresh.upd' ho) R.nz, by rw [ej]; exact ex⟩
  · rw [ej]
    exact R.mem.add (Nat.le_refl _) (fun _ _ => rfl) hzn _ _ hb ⟨_, updB_same _ _ _, ts, hts, rfl, rfl, fun i hi => absurd hi (Nat.not_lt_zero _), Nat.le_refl _, .inl ⟨rfl, rfl⟩⟩
  · rw [ej]; exact ex
  · rw [ej]
    refine R.frame.of_sub (fun i y k b h1 h2 h3 => ?_) (fun i => pn_upd (zP hz) i)
    rcases updB_some _ _ h1 with ⟨rfl, _⟩ | ⟨hi, e⟩
    · rw [updB_same] at h2; cases h2; cases h3
    · rw [updB_ne _ _ hi] at h2; exact ⟨i, y, k, e, h2, h3⟩
end
end Go.AI
set_option linter.unusedVariables false
set_option linter.unusedSimpArgs false
namespace Go.AI
open Go

/-! ### other names -/
theorem LR_mapId {P : Program} {N : Nat → Prop} {hp : Array Obj} {β : GM} (g : Id → Id) {l : AL} {v : Value} : LR P N hp β (l.mapId g) v ↔ LR P N hp (fun x => β (g x)) l v := by
  cases l with
  | fn f cap =>
    simp only [AL.mapId, LR, List.length_map]
    constructor <;> rintro ⟨vs, h1, h2, h3⟩ <;> refine ⟨vs, h1, h2, fun i hi => ?_⟩ <;> have := h3 i hi
    · rw [getD_eq (l := cap.map g) (by simpa using hi), List.getElem_map] at this
      rw [getD_eq (l := cap) hi]; exact this
    · rw [getD_eq (l := cap.map g) (by simpa using hi), List.getElem_map]
      rw [getD_eq (l := cap) hi] at this; exact this
  | _ => exact Iff.rfl
theorem getD_map {γ δ : Type} (f : γ → δ) (l : List γ) (i : Nat) (d : γ) : (l.map f).getD i (f d) = f (l.getD i d) := by
  simp only [List.getD, List.getElem?_map]
  cases l[i]? <;> rfl
theorem LR_mapIds {P : Program} {N : Nat → Prop} {hp : Array Obj} {β : GM} (g : Id → Id) {ls : List AL} {vs : Nat → Value} :
    (∀ i, i < (ls.map (AL.mapId g)).length → LR P N hp β ((ls.map (AL.mapId g)).getD i .dead) (vs i)) ↔ ∀ i, i < ls.length → LR P N hp (fun x => β (g x)) (ls.getD i .dead) (vs i) := by
  rw [List.length_map]
  refine forall_congr' fun i => ?_
  rw [show AL.dead = AL.mapId g .dead from rfl, getD_map, LR_mapId]
  exact Iff.rfl
theorem VR_mapId {P : Program} {N : Nat → Prop} {hp : Array Obj} {β : GM} (g : Id → Id) {x : AV} {v : Value} (h : VR P N hp (fun x => β (g x)) x v) : VR P N hp β (x.mapId g) v := by
  cases h with
  | v l v h => exact .v _ _ ((LR_mapId g).2 h)
  | agg ls vs hl h => exact .agg _ _ (by simpa using hl) ((LR_mapIds g).2 h)
  | tup as vs hl h => exact .any _
  | und => exact .any _
  | any v => exact .any v
theorem BoxR_mapId {P : Program} {N : Nat → Prop} {hp : Array Obj} {β : GM} (g : Id → Id) {id : Id} {x : Box} : BoxR P N hp β (g id) (x.mapId g) ↔ BoxR P N hp (fun x => β (g x)) id x := by
  have key : ∀ cs, CellsR P N hp β (g id) (cs.map (AL.mapId g)) ↔ CellsR P N hp (fun x => β (g x)) id cs := by
    intro cs
    unfold CellsR
    refine exists_congr fun h => exists_congr fun b => exists_congr fun c => exists_congr fun ty => exists_congr fun fr => ?_
    rw [LR_mapIds g, List.length_map]
  cases x with
  | cells t cs => exact key cs
  | froz t cs => exact key cs
  | row e es => exact Iff.rfl
theorem isFroz_mapId (g : Id → Id) (x : Box) : (x.mapId g).isFroz = x.isFroz := by cases x <;> rfl

/-- boxes on the way, by the names that the other side will have for them -/
def zOver (r j : Nat) (LB : Id → Option Box) : Id → Option Box
  | .z r' j' x => bif Nat.beq r' r && Nat.beq j' j then (LB x).map (Box.mapId (.z r j)) else none
  | _ => none
theorem zOver_z (r j : Nat) (LB : Id → Option Box) (x : Id) : zOver r j LB (.z r j x) = (LB x).map (Box.mapId (.z r j)) := by simp [zOver]
theorem zOver_some {r j : Nat} {LB : Id → Option Box} {id : Id} {b : Box} (h : zOver r j LB id = some b) : ∃ x y, id = .z r j x ∧ LB x = some y ∧ b = y.mapId (.z r j) := by
  cases id with
  | z r' j' x =>
    simp only [zOver] at h
    cases hb : (Nat.beq r' r && Nat.beq j' j) with
    | false => simp [hb] at h
    | true =>
      simp only [hb, cond_true, Option.map_eq_some_iff] at h
      simp only [Bool.and_eq_true] at hb
      obtain ⟨y, h1, h2⟩ := h
      have := Nat.eq_of_beq_eq_true hb.1; have := Nat.eq_of_beq_eq_true hb.2
      subst_vars
      exact ⟨x, y, rfl, h1, rfl⟩
  | _ => cases h
theorem zOver_upd (r j : Nat) (LB : Id → Option Box) (x : Id) (b : Box) : zOver r j (updB LB x (some b)) = updB (zOver r j LB) (.z r j x) (some (b.mapId (.z r j))) := by
  funext id
  by_cases e : id = .z r j x
  · subst e; rw [updB_same, zOver_z, updB_same]; rfl
  · rw [updB_ne _ _ e]
    cases id with
    | z r' j' x' =>
      simp only [zOver]
      cases hb : (Nat.beq r' r && Nat.beq j' j) with
      | false => rfl
      | true =>
        simp only [Bool.and_eq_true] at hb
        have := Nat.eq_of_beq_eq_true hb.1; have := Nat.eq_of_beq_eq_true hb.2
        subst_vars
        rw [updB_ne]
        rintro rfl; exact e rfl
    | _ => rfl
theorem zOver_none (r j : Nat) : zOver r j (fun _ => none) = fun _ => none := by
  funext id
  cases id with
  | z r' j' x => simp only [zOver]; cases (Nat.beq r' r && Nat.beq j' j) <;> rfl
  | _ => rfl

/-- the names that come ahead of a place -/
def bef (m c : Nat) : Id → Prop
  | .a 0 c' => 0 < m ∨ c' < c
  | .p i => i + 1 < m ∨ (i + 1 = m ∧ 0 < c)
  | .c (.p i) c' => i + 1 < m ∨ (i + 1 = m ∧ c' + 1 < c)
  | _ => False

structure ZS (P : Program) (h0 : Array Obj) (W : Wr) (D : Nat → Prop) (β : GM) (S : Nat → Prop) (st : St) (r j : Nat) (LB : Id → Option Box) (m c : Nat) (a : Act) (w : World) : Prop where
  rel : RelZ P h0 W D β S st (zOver r j LB) a w
  bf : ∀ x, LB x ≠ none → bef m c x
  nm : ∀ x, β (.z r j x) ≠ none → LB x ≠ none
  nf : ∀ x b, LB x = some b → b.isFroz = false
  hr : st.r = r
  sj : S j
  fn : ∀ c, β (.n r j c) = none
abbrev ZN (D : Nat → Prop) (β : GM) (st : St) (r j : Nat) (LB : Id → Option Box) (w : World) : Nat → Prop := NN D β (joint st.boxes (zOver r j LB)) w.heap

/-- the same state but for boxes -/
structure Sib (st st' : St) : Prop where
  t : st'.tmps = st.tmps
  r : st'.r = st.r
  nt : st'.nt = st.nt
  q : st'.q = st.q
theorem Sib.refl (st : St) : Sib st st := ⟨rfl, rfl, rfl, rfl⟩
theorem Sib.setB (st : St) (id : Id) (b : Option Box) : Sib st (st.setB id b) := ⟨rfl, rfl, rfl, rfl⟩
theorem Sib.trans {a b c : St} (h : Sib a b) (h' : Sib b c) : Sib a c := ⟨h'.t.trans h.t, h'.r.trans h.r, h'.nt.trans h.nt, h'.q.trans h.q⟩

section
variable {P : Program} {A : Ann} {h0 : Array Obj} {W : Wr} {D : Nat → Prop} {β : GM} {S : Nat → Prop} {st : St} {r j : Nat} {LB : Id → Option Box} {m c : Nat} {a : Act} {w : World}

theorem Rel.toZS (R : Rel P h0 W D β S st a w) (hj : S j) (hn : ∀ c, β (.n st.r j c) = none) (hf : ∀ x, β (.z st.r j x) = none) : ZS P h0 W D β S st st.r j (fun _ => none) 0 0 a w :=
  ⟨by rw [zOver_none]; exact R.toZ, fun x h => absurd rfl h, fun x h => absurd (hf x) h, fun x b h => (by cases h), rfl, hj, hn⟩

theorem ZS.free (Z : ZS P h0 W D β S st r j LB m c a w) {y : Id} (hy : ¬ bef m c y) : β (.z r j y) = none := by
  cases h : β (.z r j y) with
  | none => rfl
  | some k => exact absurd (Z.bf y (Z.nm y (by rw [h]; simp))) hy

theorem ZS.up (Z : ZS P h0 W D β S st r j LB m c a w) {m' c' : Nat} (h : ∀ z, bef m c z → bef m' c' z) : ZS P h0 W D β S st r j LB m' c' a w :=
  ⟨Z.rel, fun x hx => h x (Z.bf x hx), Z.nm, Z.nf, Z.hr, Z.sj, Z.fn⟩

theorem ZS.send (Z : ZS P h0 W D β S st r j LB m c a w) {id : Id} {x : Box} (hx : st.boxes id = some x) (hx0 : x.isFroz = false) {h : Hdr} (hh : β id = some h) (y : Id) (x' : Box) (hf : x'.isFroz = false)
    (hy : ¬ bef m c y) {m' c' : Nat} (hm : ∀ z, bef m c z → bef m' c' z) (hm' : bef m' c' y)
    (hx' : ∀ β' N, Ext (ZN D β st r j LB w) w.heap β N w.heap β' → β' (.z r j y) = some h → BoxR P N w.heap β' (.z r j y) (x'.mapId (.z r j))) :
    ZS P h0 W D (updB β (.z r j y) (some h)) S (st.setB id none) r j (updB LB y (some x')) m' c' a w ∧
      Ext (ZN D β st r j LB w) w.heap β (ZN D (updB β (.z r j y) (some h)) (st.setB id none) r j (updB LB y (some x')) w) w.heap (updB β (.z r j y) (some h)) := by
  have ho : Old st.r S (.z r j y) := .inr ⟨Z.hr.symm, Z.sj⟩
  obtain ⟨z1, z2⟩ := Z.rel.send hx hx0 (zid := .z r j y) rfl ho (Z.free hy) hh (x'.mapId (.z r j)) (by rw [isFroz_mapId]; exact hf) (fun β' B' e hb => hx' β' _ e hb)
  refine ⟨⟨by rw [zOver_upd]; exact z1, fun z hz => ?_, fun z hz => ?_, fun z b hz => ?_, Z.hr, Z.sj, fun c => by rw [updB_ne _ _ (by simp)]; exact Z.fn c⟩, by show Ext _ _ _ (NN D _ (joint _ (zOver r j _)) _) _ _; rw [zOver_upd]; exact z2⟩
  · by_cases e : z = y
    · subst e; exact hm'
    · rw [updB_ne _ _ e] at hz; exact hm z (Z.bf z hz)
  · by_cases e : z = y
    · subst e; rw [updB_same]; simp
    · rw [updB_ne _ _ e]; rw [updB_ne _ _ (by intro c; cases c; exact e rfl)] at hz; exact Z.nm z hz
  · rcases updB_some _ _ hz with ⟨_, e⟩ | ⟨_, e⟩
    · cases e; exact hf
    · exact Z.nf z b e

theorem ZS.sendNil (Z : ZS P h0 W D β S st r j LB m c a w) {e : TypeId} {ts : List LTy} (hts : leaves P e = some ts) (y : Id)
    (hy : ¬ bef m c y) {m' c' : Nat} (hm : ∀ z, bef m c z → bef m' c' z) (hm' : bef m' c' y) :
    ZS P h0 W D (updB β (.z r j y) (some ⟨none, 0, 0, ts.length⟩)) S st r j (updB LB y (some (.row e []))) m' c' a w ∧
      Ext (ZN D β st r j LB w) w.heap β (ZN D (updB β (.z r j y) (some ⟨none, 0, 0, ts.length⟩)) st r j (updB LB y (some (.row e []))) w) w.heap (updB β (.z r j y) (some ⟨none, 0, 0, ts.length⟩)) := by
  have ho : Old st.r S (.z r j y) := .inr ⟨Z.hr.symm, Z.sj⟩
  obtain ⟨z1, z2⟩ := Z.rel.sendNil (zid := .z r j y) rfl ho (Z.free hy) hts
  refine ⟨⟨by rw [zOver_upd]; exact z1, fun z hz => ?_, fun z hz => ?_, fun z b hz => ?_, Z.hr, Z.sj, fun c => by rw [updB_ne _ _ (by simp)]; exact Z.fn c⟩, by show Ext _ _ _ (NN D _ (joint _ (zOver r j _)) _) _ _; rw [zOver_upd]; exact z2⟩
  · by_cases e : z = y
    · subst e; exact hm'
    · rw [updB_ne _ _ e] at hz; exact hm z (Z.bf z hz)
  · by_cases e : z = y
    · subst e; rw [updB_same]; simp
    · rw [updB_ne _ _ e]; rw [updB_ne _ _ (by intro c; cases c; exact e rfl)] at hz; exact Z.nm z hz
  · rcases updB_some _ _ hz with ⟨_, e⟩ | ⟨_, e⟩
    · cases e; rfl
    · exact Z.nf z b e

theorem ZS.drop (Z : ZS P h0 W D β S st r j LB m c a w) {id : Id} (hn : id.isZ = false) : ZS P h0 W D β S (st.setB id none) r j LB m c a w ∧
    Ext (ZN D β st r j LB w) w.heap β (ZN D β (st.setB id none) r j LB w) w.heap β := by
  obtain ⟨z1, z2⟩ := Z.rel.drop hn
  exact ⟨⟨z1, Z.bf, Z.nm, Z.nf, Z.hr, Z.sj, Z.fn⟩, z2⟩

/-- a row that nobody writes to any more -/
theorem row_RP {N : Nat → Prop} {hp : Array Obj} {h : Hdr} {e : TypeId} {es : List (List PV)} (hr : RowAt P N hp h e es) (hN : ∀ b, h.blk = some b → N b) {v : Value}
    (hv : (h.blk = none ∧ h.len = 0 ∧ ∃ a, v = .slice a 0 0) ∨ ∃ b, h.blk = some b ∧ v = .slice (some ⟨b, 0, none⟩) h.len h.cap) : RP P N hp (.sl e) (.l es) v := by
  obtain ⟨ts, h1, h2, h3, h4, h5, h6⟩ := hr
  rcases hv with ⟨g1, g2, x, rfl⟩ | ⟨b, g1, rfl⟩
  · rw [g2] at h3
    obtain rfl := List.eq_nil_of_length_eq_zero h3.symm
    exact .nil e x
  · rcases h6 with ⟨h6, _⟩ | ⟨b', c, ty, fr, k1, k2, k3, k4, k5⟩
    · rw [g1] at h6; cases h6
    · rw [g1] at k1; cases k1
      rw [h3]
      refine .sl e ts es b 0 h.cap (fun k => c.getD k undef) h5 h1 (hN b g1) h4 (fun k hk => ?_) (fun i k hi hk => k5 i k hi hk)
      have hb : k < c.size := Nat.lt_of_lt_of_le hk (Nat.le_trans (Nat.mul_le_mul_right _ h5) k4)
      rw [Nat.zero_add, cellH_of k2, agetD_eq hb]
      simp [hb]

def sentB (own : TypeId → Bool) (y : Id) (LB : Id → Option Box) (t : LTy) (p : PV) : Id → Option Box :=
  match t with
  | .sl e => bif own e then updB LB y (some (.row e p.toL)) else LB
  | _ => LB
/-- one cell that goes over -/
theorem packK_of0 (Z : ZS P h0 W D β S st r j LB m c a w) {ev : Acc → St → Prop} (E : Ev ev) {fnOk b0 : Bool} {t : LTy} (hp : t.plain = true) {l : AL} {v : Value} (hl : LR P (ZN D β st r j LB w) w.heap β l v)
    {k : PV → List Id → Acc} (h : ev (packK P fnOk (fun _ => b0) t l k) st) {y : Id} (hy : ¬ bef m c y) {m' c' : Nat} (hm : ∀ z, bef m c z → bef m' c' z) (hm' : bef m' c' y) :
    ∃ p st' β', ev (k p []) st' ∧ Sib st st' ∧ ZS P h0 W D β' S st' r j (sentB (fun _ => b0) y LB t p) m' c' a w ∧
      Ext (ZN D β st r j LB w) w.heap β (ZN D β' st' r j (sentB (fun _ => b0) y LB t p) w) w.heap β' ∧
      TL P (ZN D β' st' r j (sentB (fun _ => b0) y LB t p) w) w.heap β' (fun _ => b0) (fun _ => .z r j y) 0 t p v := by
  have plain : ∀ {p : PV}, t ≠ .no → pvL t l = some p → (∀ e, t ≠ .sl e) → ev (k p []) st → ∃ p st' β', ev (k p []) st' ∧ Sib st st' ∧ ZS P h0 W D β' S st' r j (sentB (fun _ => b0) y LB t p) m' c' a w ∧
      Ext (ZN D β st r j LB w) w.heap β (ZN D β' st' r j (sentB (fun _ => b0) y LB t p) w) w.heap β' ∧
      TL P (ZN D β' st' r j (sentB (fun _ => b0) y LB t p) w) w.heap β' (fun _ => b0) (fun _ => .z r j y) 0 t p v := by
    intro p _ hp' hs he
    refine ⟨p, st, β, he, Sib.refl st, ?_⟩
    have := pvL_RP hp' hl
    cases t with
    | sl e => exact absurd rfl (hs e)
    | _ => exact ⟨Z.up hm, Ext.refl _ _ _, this⟩
  cases t with
  | ptr e => cases hp
  | fn => cases hp
  | no => cases hp
  | int kd => obtain ⟨p, hp', he⟩ := E.orFail h; exact plain (by simp) hp' (by simp) he
  | bool => obtain ⟨p, hp', he⟩ := E.orFail h; exact plain (by simp) hp' (by simp) he
  | str => obtain ⟨p, hp', he⟩ := E.orFail h; exact plain (by simp) hp' (by simp) he
  | sl e =>
    cases l with
    | wr id =>
      simp only [packK] at h
      have h := E.getB h
      split at h
      · rename_i e' es hb
        obtain ⟨he, h1⟩ := E.test h
        obtain rfl := Nat.eq_of_beq_eq_true he
        have h := E.setB h1
        have hn := nz_of Z.rel.nz hb
        have hbj : joint st.boxes (zOver r j LB) id = some (.row e es) := by rw [joint_n hn]; exact hb
        obtain ⟨hd, hd1, hd2⟩ := Z.rel.mem.bx id _ hbj
        have hv := hl
        obtain ⟨hd', hv1, hv2⟩ := hv
        rw [hd1] at hv1; cases hv1
        cases b0 with
        | true =>
          obtain ⟨z1, z2⟩ := Z.send hb rfl hd1 y (.row e es) rfl hy hm hm' (fun β' N ex hβ => ⟨hd, hβ, hd2.mono ex.n (fun _ _ => rfl)⟩)
          exact ⟨.l es, st.setB id none, _, h, Sib.setB _ _ _, z1, z2, ⟨⟨hd, updB_same _ _ _, hv2⟩, es, rfl⟩⟩
        | false =>
          obtain ⟨z1, z2⟩ := Z.drop (id := id) hn
          refine ⟨.l es, st.setB id none, β, h, Sib.setB _ _ _, z1.up hm, z2, ?_⟩
          refine row_RP (hd2.mono z2.n (fun _ _ => rfl)) (fun b hb' => ?_) hv2
          have := Z.rel.mem.drop_free hbj hd1 hb'
          rw [← joint_updn hn] at this
          exact this
      · exact absurd h E.fail
    | sl e' es =>
      simp only [packK] at h
      obtain ⟨he, h1⟩ := E.test h
      simp only [Bool.and_eq_true, Bool.not_eq_true'] at he
      obtain rfl := Nat.eq_of_beq_eq_true he.2
      cases b0 with
      | true => cases he.1
      | false => exact ⟨.l es, st, β, h1, Sib.refl st, Z.up hm, Ext.refl _ _ _, hl⟩
    | nils =>
      simp only [packK] at h
      obtain ⟨he, h1⟩ := E.test h
      cases b0 with
      | false => obtain ⟨x, rfl⟩ := hl; exact ⟨.l [], st, β, h1, Sib.refl st, Z.up hm, Ext.refl _ _ _, .nil e x⟩
      | true =>
        simp only [Bool.not_true, Bool.false_or] at he
        cases hts : leaves P e with
        | none => simp [hts] at he
        | some ts =>
          obtain ⟨z1, z2⟩ := Z.sendNil hts y hy hm hm'
          exact ⟨.l [], st, _, h1, Sib.refl st, z1, z2, ⟨⟨_, updB_same _ _ _, .inl ⟨rfl, rfl, hl⟩⟩, [], rfl⟩⟩
    | _ =>
      simp only [packK] at h
      obtain ⟨p, hp', _⟩ := E.orFail h
      simp [pvL] at hp'
theorem packK_of (Z : ZS P h0 W D β S st r j LB m c a w) {ev : Acc → St → Prop} (E : Ev ev) {fnOk : Bool} {own : TypeId → Bool} {t : LTy} (hp : t.plain = true) {l : AL} {v : Value} (hl : LR P (ZN D β st r j LB w) w.heap β l v)
    {k : PV → List Id → Acc} (h : ev (packK P fnOk own t l k) st) {y : Id} (hy : ¬ bef m c y) {m' c' : Nat} (hm : ∀ z, bef m c z → bef m' c' z) (hm' : bef m' c' y) :
    ∃ p st' β', ev (k p []) st' ∧ Sib st st' ∧ ZS P h0 W D β' S st' r j (sentB own y LB t p) m' c' a w ∧
      Ext (ZN D β st r j LB w) w.heap β (ZN D β' st' r j (sentB own y LB t p) w) w.heap β' ∧
      TL P (ZN D β' st' r j (sentB own y LB t p) w) w.heap β' own (fun _ => .z r j y) 0 t p v := by
  cases t with
  | sl e => exact packK_of0 (fnOk := fnOk) (b0 := own e) Z E hp hl (by cases l <;> exact h) hy hm hm'
  | ptr e => cases hp
  | fn => cases hp
  | no => cases hp
  | _ => exact packK_of0 (fnOk := fnOk) (b0 := false) Z E hp hl (by cases l <;> exact h) hy hm hm'
end
end Go.AI
set_option linter.unusedVariables false
set_option linter.unusedSimpArgs false
namespace Go.AI
open Go

theorem TL.mono {P : Program} {N N' : Nat → Prop} {hp hp' : Array Obj} {β β' : GM} (e : Ext N hp β N' hp' β') {own : TypeId → Bool} {mk : Nat → Id} {c : Nat} {t : LTy} {p : PV} {v : Value} (h : TL P N hp β own mk c t p v) :
    TL P N' hp' β' own mk c t p v := by
  cases t with
  | sl e' =>
    simp only [TL] at h ⊢
    revert h
    cases own e' with
    | true =>
      intro h
      rw [if_pos rfl] at h ⊢
      obtain ⟨⟨k, h1, h2⟩, h3⟩ := h; exact ⟨⟨k, e.g _ _ h1, h2⟩, h3⟩
    | false =>
      intro h
      rw [if_neg (by decide)] at h ⊢
      exact RP.mono e.n h
  | _ => exact RP.mono e.n h
theorem TL.congr {P : Program} {N : Nat → Prop} {hp : Array Obj} {β : GM} {own : TypeId → Bool} {mk mk' : Nat → Id} {c c' : Nat} {t : LTy} {p : PV} {v : Value} (hm : mk c = mk' c') (h : TL P N hp β own mk c t p v) :
    TL P N hp β own mk' c' t p v := by
  cases t with
  | sl e => simp only [TL] at h ⊢; rw [← hm]; exact h
  | _ => exact h

theorem Ext.comp {N N' : Nat → Prop} {hp hp' : Array Obj} {β β' : GM} (e : Ext N hp β N' hp' β') (g : Id → Id) : Ext N hp (fun x => β (g x)) N' hp' (fun x => β' (g x)) :=
  ⟨e.n, fun id h hh => e.g _ h hh⟩
theorem ov_append (B : Id → Option Box) : ∀ (l l' : List (Id × Box)), ov B (l ++ l') = ov (ov B l) l' := by
  intro l
  induction l generalizing B with
  | nil => intro l'; rfl
  | cons x l ih => intro l'; exact ih _ l'
theorem ov_cons (B : Id → Option Box) (id : Id) (b : Box) (l : List (Id × Box)) : ov B ((id, b) :: l) = ov (updB B id (some b)) l := rfl

theorem bef_le {m c c' : Nat} (h : c ≤ c') {z : Id} (hz : bef m c z) : bef m c' z := by
  unfold bef at hz ⊢
  split at hz <;> (try simp only) <;> omega
theorem bef_next {m c : Nat} {z : Id} (hz : bef m c z) : bef (m + 1) 0 z := by
  unfold bef at hz ⊢
  split at hz <;> (try simp only) <;> omega

theorem decO_map {own : TypeId → Bool} {mk : Nat → Id} (g : Id → Id) : ∀ (ts : List LTy) (ps : List PV) (c : Nat), (decO own mk ts ps c).map (AL.mapId g) = decO own (fun c => g (mk c)) ts ps c
  | [], _, _ => rfl
  | t :: ts, ps, c => by
    cases t with
    | sl e => cases h : own e <;> simp [decO, h, decO_map g ts, AL.mapId]
    | _ => simp [decO, decO_map g ts, AL.mapId, decL]
theorem rowsO_map {own : TypeId → Bool} {mk : Nat → Id} (g : Id → Id) : ∀ (ts : List LTy) (ps : List PV) (c : Nat), (rowsO own mk ts ps c).map (fun x => (g x.1, x.2.mapId g)) = rowsO own (fun c => g (mk c)) ts ps c
  | [], _, _ => rfl
  | t :: ts, ps, c => by
    cases t with
    | sl e =>
      simp only [rowsO]
      cases own e with
      | true => exact congrArg (List.cons _) (rowsO_map g ts ps (c + 1))
      | false => exact rowsO_map g ts ps (c + 1)
    | _ => exact rowsO_map g ts ps (c + 1)

section
variable {P : Program} {A : Ann} {h0 : Array Obj} {W : Wr} {D : Nat → Prop} {S : Nat → Prop} {r j : Nat} {a : Act} {w : World}

theorem packsK_of {fnOk : Bool} {own : TypeId → Bool} {s m : Nat} {mk : Nat → Id} (hmk : ∀ c, ¬ bef m (s + c) (mk c) ∧ bef m (s + c + 1) (mk c)) {ev : Acc → St → Prop} (E : Ev ev) :
    ∀ (ts : List LTy) (ls : List AL) (vs : List Value) (c0 : Nat) (st : St) (β : GM) (LB : Id → Option Box) (k : List PV → List Id → Acc), ts.all LTy.plain = true → ZS P h0 W D β S st r j LB m (s + c0) a w →
    vs.length = ls.length → (∀ i, i < ls.length → LR P (ZN D β st r j LB w) w.heap β (ls.getD i .dead) (vs.getD i undef)) → ev (packsK P fnOk own ts ls k) st →
    ∃ ps st' β', ev (k ps []) st' ∧ Sib st st' ∧ ps.length = ts.length ∧ ls.length = ts.length ∧ ∀ PS : List PV, (∀ i, i < ps.length → PS.getD (c0 + i) .u = ps.getD i .u) →
      ZS P h0 W D β' S st' r j (ov LB (rowsO own mk ts PS c0)) m (s + c0 + ts.length) a w ∧
      Ext (ZN D β st r j LB w) w.heap β (ZN D β' st' r j (ov LB (rowsO own mk ts PS c0)) w) w.heap β' ∧
      ∀ i, i < ts.length → TL P (ZN D β' st' r j (ov LB (rowsO own mk ts PS c0)) w) w.heap β' own (fun c => .z r j (mk c)) (c0 + i) (ts.getD i .no) (PS.getD (c0 + i) .u) (vs.getD i undef) := by
  intro ts
  induction ts with
  | nil =>
    intro ls vs c0 st β LB k hp Z hl hv h
    cases ls with
    | nil => exact ⟨[], st, β, h, Sib.refl st, rfl, rfl, fun PS _ => ⟨Z, Ext.refl _ _ _, fun i hi => absurd hi (Nat.not_lt_zero _)⟩⟩
    | cons l ls => exact absurd h E.fail
  | cons t ts ih =>
    intro ls vs c0 st β LB k hp Z hl hv h
    cases ls with
    | nil => exact absurd h E.fail
    | cons l ls =>
      cases vs with
      | nil => simp at hl
      | cons v vs =>
        simp only [List.all_cons, Bool.and_eq_true] at hp
        simp only [packsK] at h
        have hv0 : LR P (ZN D β st r j LB w) w.heap β l v := by simpa using hv 0 (by simp)
        obtain ⟨p, st1, β1, h1, sb1, Z1, e1, tl1⟩ := packK_of Z E hp.1 hv0 h (hmk c0).1 (m' := m) (c' := s + c0 + 1) (fun z => bef_le (Nat.le_succ _)) (hmk c0).2
        obtain ⟨ps, st2, β2, h2, sb2, l2, l2', f2⟩ := ih ls vs (c0 + 1) st1 β1 _ _ hp.2 Z1 (by simpa using hl) (fun i hi => by
          have := hv (i + 1) (by simpa using hi)
          exact LR.mono e1 (by simpa using this)) h1
        refine ⟨p :: ps, st2, β2, h2, sb1.trans sb2, by simp [l2], by simp [l2'], fun PS hPS => ?_⟩
        have hp0 : PS.getD c0 .u = p := by simpa using hPS 0 (by simp)
        have hov : ov LB (rowsO own mk (t :: ts) PS c0) = ov (sentB own (mk c0) LB t p) (rowsO own mk ts PS (c0 + 1)) := by
          subst hp0
          cases t with
          | sl e =>
            show ov LB (bif own e then _ else _) = ov (bif own e then _ else _) _
            cases own e <;> rfl
          | _ => rfl
        obtain ⟨g1, g2, g3⟩ := f2 PS (fun i hi => by
          have := hPS (i + 1) (by simpa using hi)
          rw [show c0 + 1 + i = c0 + (i + 1) by omega]; simpa using this)
        rw [hov]
        refine ⟨by rw [show s + c0 + (t :: ts).length = s + (c0 + 1) + ts.length by simp; omega]; exact g1, e1.trans g2, fun i hi => ?_⟩
        cases i with
        | zero =>
          have := TL.mono g2 tl1
          simp only [Nat.add_zero, List.getD_cons_zero]
          rw [hp0]
          exact TL.congr rfl this
        | succ i =>
          have := g3 i (by simpa using hi)
          rw [show c0 + (i + 1) = c0 + 1 + i by omega]
          simpa using this

theorem packV1_of {fnOk : Bool} {own : TypeId → Bool} {ev : Acc → St → Prop} (E : Ev ev) {st : St} {β : GM} {LB : Id → Option Box} {c : Nat} (Z : ZS P h0 W D β S st r j LB 0 c a w) {t : TypeId} {lts : List LTy} (hts : leaves P t = some lts)
    {x : AV} {v : Value} (hx : VR P (ZN D β st r j LB w) w.heap β x v) {ls : List AL} (hls : x.ls = some ls) (hok : okHand P t lts x = true) {k : List PV → List Id → Acc} (h : ev (packsK P fnOk own lts ls k) st) :
    ∃ ps ids st' β', ev (k ps ids) st' ∧ Sib st st' ∧ ps.length = lts.length ∧ ∀ PS : List PV, (∀ i, i < ps.length → PS.getD (c + i) .u = ps.getD i .u) →
      ZS P h0 W D β' S st' r j (ov LB (rowsO own (.a 0) lts PS c)) 0 (c + lts.length) a w ∧
      Ext (ZN D β st r j LB w) w.heap β (ZN D β' st' r j (ov LB (rowsO own (.a 0) lts PS c)) w) w.heap β' ∧
      ∀ kk av n, hand1 P own t lts PS c kk = some (av, n) → n = kk + ids.length ∧ ∀ g : Id → Id, (∀ c, g (.a 0 c) = .z r j (.a 0 c)) → (∀ i, i < ids.length → g (.p (kk + i)) = ids.getD i (.p 0)) →
        VR P (ZN D β' st' r j (ov LB (rowsO own (.a 0) lts PS c)) w) w.heap (fun x => β' (g x)) av v := by
  simp only [okHand, Bool.and_eq_true] at hok
  obtain ⟨ok1, ok2⟩ := hok
  by_cases hpl : lts.all LTy.plain = true
  · have hmk : ∀ c, ¬ bef 0 (0 + c) (.a 0 c) ∧ bef 0 (0 + c + 1) (.a 0 c) := fun c => by simp [bef]
    have hsh : ∃ vs : List Value, vs.length = ls.length ∧ (∀ i, i < ls.length → LR P (ZN D β st r j LB w) w.heap β (ls.getD i .dead) (vs.getD i undef)) ∧ v = valOf P t vs := by
      cases hx with
      | v l v hl =>
        cases hls
        simp only [Bool.not_eq_true'] at ok2
        refine ⟨[v], rfl, fun i hi => ?_, by simp [valOf, ok2]⟩
        have : i = 0 := by simpa using hi
        subst this; exact hl
      | agg ls' vs hl hv =>
        cases hls
        exact ⟨vs, hl, hv, by simp only at ok2; simp [valOf, ok2]⟩
      | tup as vs hl hv => cases hls
      | und => cases hls
      | any v => cases hls
    obtain ⟨vs, hvl, hv, hve⟩ := hsh
    obtain ⟨ps, st1, β1, h1, sb1, l1, l1', f1⟩ := packsK_of (s := 0) hmk E lts ls vs c st β LB k hpl (by rw [Nat.zero_add]; exact Z) hvl hv h
    refine ⟨ps, [], st1, β1, h1, sb1, l1, fun PS hPS => ?_⟩
    obtain ⟨g1, g2, g3⟩ := f1 PS hPS
    rw [Nat.zero_add] at g1
    refine ⟨g1, g2, fun kk av n hh => ?_⟩
    have hh : ∃ v, mkAV P t (decO own (.a 0) lts PS c) = some v ∧ v = av ∧ n = kk := by
      unfold hand1 at hh
      split at hh
      · simp [LTy.plain] at hpl
      · simp [LTy.plain] at hpl
      · rw [hpl, cond_true] at hh
        split at hh
        · rename_i v' hv'; cases hh; exact ⟨_, hv', rfl, rfl⟩
        · cases hh
    obtain ⟨_, hm, rfl, rfl⟩ := hh
    refine ⟨rfl, fun g hg _ => ?_⟩
    rw [hve]
    have hdl : (decO own (.a 0) lts PS c).length = lts.length := decO_length _ _ _
    refine (VR.mk hm (by rw [hdl, hvl, l1']) fun i hi => ?_).1
    have e := decO_map (own := own) (mk := .a 0) g lts PS c
    have := TL.dec (own := own) (mk := fun c => g (.a 0 c)) lts PS c i (by rwa [hdl] at hi) (v := vs.getD i undef) (TL.congr (hg (c + i)).symm (g3 i (by rwa [hdl] at hi)))
    rw [← e, show AL.dead = AL.mapId g .dead from rfl, getD_map, LR_mapId] at this
    exact this
  · have hone : (∃ e, lts = [.ptr e]) ∨ lts = [.fn] := by
      split at ok1
      · exact .inl ⟨_, rfl⟩
      · exact .inr rfl
      · exact absurd ok1 hpl
    have hag : isAggB P t = false := by rcases hone with ⟨e, rfl⟩ | rfl <;> simpa using ok1
    obtain ⟨l, rfl, rfl, hl⟩ : ∃ l, x = .v l ∧ ls = [l] ∧ LR P (ZN D β st r j LB w) w.heap β l v := by
      cases hx with
      | v l v hl => cases hls; exact ⟨l, rfl, rfl, hl⟩
      | agg ls' vs hl hv => simp [hag] at ok2
      | tup as vs hl hv => cases hls
      | und => cases hls
      | any v => cases hls
    rcases hone with ⟨e, rfl⟩ | rfl
    · have hh : ∃ id, l = .ptr id 0 ∧ ev (k [.u] [id]) st := by
        simp only [packsK] at h
        unfold packK at h
        split at h
        · rename_i e' id he
          have h1 := E.getB h
          split at h1
          · obtain ⟨_, h2⟩ := E.test h1; exact ⟨id, rfl, h2⟩
          · exact absurd h1 E.fail
        · rename_i hc; cases hc
        · rename_i hc; cases hc
        · rename_i hc; cases hc
        · rename_i hc; cases hc
        · obtain ⟨p, hp, _⟩ := E.orFail h
          unfold pvL at hp; split at hp <;> first | (cases hp; done) | simp_all
      obtain ⟨id, rfl, h'⟩ := hh
      refine ⟨[.u], [id], st, β, h', Sib.refl st, rfl, fun PS _ => ⟨Z.up fun z => bef_le (Nat.le_add_right _ _), Ext.refl _ _ _, fun kk av n hh => ?_⟩⟩
      cases hh
      refine ⟨rfl, fun g _ hg => .v _ _ ?_⟩
      have := hg 0 (by simp)
      simp only [Nat.add_zero, List.getD_cons_zero] at this
      show PtrV β (g (.p kk)) 0 v
      rw [this]; exact hl
    · have hh : ∃ f cap, l = .fn f cap ∧ ev (k [.f f cap.length] cap) st := by
        simp only [packsK] at h
        unfold packK at h
        split at h
        · rename_i hc; cases hc
        · rename_i f cap he
          obtain ⟨_, h1⟩ := E.test h
          exact ⟨f, cap, rfl, by simpa [packsK] using h1⟩
        · rename_i hc; cases hc
        · rename_i hc; cases hc
        · rename_i hc; cases hc
        · obtain ⟨p, hp, _⟩ := E.orFail h
          unfold pvL at hp; split at hp <;> first | (cases hp; done) | simp_all
      obtain ⟨f, cap, rfl, h'⟩ := hh
      refine ⟨[.f f cap.length], cap, st, β, h', Sib.refl st, rfl, fun PS hPS => ⟨Z.up fun z => bef_le (Nat.le_add_right _ _), Ext.refl _ _ _, fun kk av n hh => ?_⟩⟩
      have hp0 : PS.getD c .u = .f f cap.length := by simpa using hPS 0 (by simp)
      simp only [hand1, hp0] at hh
      cases hh
      refine ⟨rfl, fun g _ hg => .v _ _ ?_⟩
      obtain ⟨vs, g1, g2, g3⟩ := hl
      refine ⟨vs, g1, by simpa using g2, fun i hi => ?_⟩
      have hi' : i < cap.length := by simpa using hi
      have := g3 i hi'
      rw [getD_eq hi, List.getElem_map, List.getElem_range]
      show PtrV β (g (.p (kk + i))) 0 _
      rw [hg i hi']
      exact this

/-- the rows among values -/
def rowsV (P : Program) (own : TypeId → Bool) : List TypeId → List PV → Nat → List (Id × Box)
  | [], _, _ => []
  | t :: ts, ps, c => rowsO own (.a 0) ((leaves P t).getD []) ps c ++ rowsV P own ts ps (c + ((leaves P t).getD []).length)
theorem handV_rows {own : TypeId → Bool} : ∀ (ts : List TypeId) (ps : List PV) (c kk : Nat) (avs : List AV) (ms : List (Id × Box)) (n : Nat), handV P own ts ps c kk = some (avs, ms, n) → ms = rowsV P own ts ps c
  | [], _, _, _, _, _, _, h => by cases h; rfl
  | t :: ts, ps, c, kk, avs, ms, n, h => by
    unfold handV at h
    split at h
    · rename_i lts hl
      split at h
      · split at h
        · rename_i h2
          cases h
          have := handV_rows ts _ _ _ _ _ _ h2
          simp [rowsV, hl, this]
        · cases h
      · cases h
    · cases h

theorem packVsK_of {fnOk : Bool} {own : TypeId → Bool} {ev : Acc → St → Prop} (E : Ev ev) :
    ∀ (ts : List TypeId) (as : List AV) (vs : List Value) (c : Nat) (st : St) (β : GM) (LB : Id → Option Box) (k : List PV → List Id → Acc), ZS P h0 W D β S st r j LB 0 c a w →
    vs.length = as.length → (∀ i, i < as.length → VR P (ZN D β st r j LB w) w.heap β (as.getD i .any) (vs.getD i undef)) → ev (packVsK P fnOk own ts as k) st →
    ∃ ps ids st' β', ev (k ps ids) st' ∧ Sib st st' ∧ as.length = ts.length ∧ ∀ PS : List PV, (∀ i, i < ps.length → PS.getD (c + i) .u = ps.getD i .u) →
      ZS P h0 W D β' S st' r j (ov LB (rowsV P own ts PS c)) 0 (c + ps.length) a w ∧
      Ext (ZN D β st r j LB w) w.heap β (ZN D β' st' r j (ov LB (rowsV P own ts PS c)) w) w.heap β' ∧
      ∀ kk avs ms n, handV P own ts PS c kk = some (avs, ms, n) → n = kk + ids.length ∧ avs.length = ts.length ∧ ∀ g : Id → Id, (∀ c, g (.a 0 c) = .z r j (.a 0 c)) → (∀ i, i < ids.length → g (.p (kk + i)) = ids.getD i (.p 0)) →
        ∀ i, i < ts.length → VR P (ZN D β' st' r j (ov LB (rowsV P own ts PS c)) w) w.heap (fun x => β' (g x)) (avs.getD i .any) (vs.getD i undef) := by
  intro ts
  induction ts with
  | nil =>
    intro as vs c st β LB k Z hl hv h
    cases as with
    | nil => exact ⟨[], [], st, β, h, Sib.refl st, rfl, fun PS _ => ⟨Z, Ext.refl _ _ _, fun kk avs ms n hh => by cases hh; exact ⟨rfl, rfl, fun _ _ _ i hi => absurd hi (Nat.not_lt_zero _)⟩⟩⟩
    | cons l ls => exact absurd h E.fail
  | cons t ts ih =>
    intro as vs c st β LB k Z hl hv h
    cases as with
    | nil => exact absurd h E.fail
    | cons x as =>
      cases vs with
      | nil => simp at hl
      | cons v vs =>
        simp only [packVsK] at h
        obtain ⟨lts, hts, h⟩ := E.orFail h
        obtain ⟨ls, hls, h⟩ := E.orFail h
        obtain ⟨hok, h⟩ := E.test h
        obtain ⟨ps, ids, st1, β1, h1, sb1, l1, f1⟩ := packV1_of E Z hts (by simpa using hv 0 (by simp)) hls hok h
        have base := f1 (List.replicate c .u ++ ps) (fun i hi => by simp [List.getD, List.getElem?_append_right])
        obtain ⟨b1, b2, _⟩ := base
        obtain ⟨ps', ids', st2, β2, h2, sb2, l2, f2⟩ := ih as vs (c + lts.length) st1 β1 _ _ b1 (by simpa using hl) (fun i hi => by
          have := hv (i + 1) (by simpa using hi)
          exact VR.mono b2 (by simpa using this)) h1
        refine ⟨ps ++ ps', ids ++ ids', st2, β2, h2, sb1.trans sb2, by simp [l2], fun PS hPS => ?_⟩
        have ag1 : ∀ i, i < ps.length → PS.getD (c + i) .u = ps.getD i .u := fun i hi => by
          rw [hPS i (by simp; omega)]
          simp [List.getD, List.getElem?_append_left, hi]
        have ag2 : ∀ i, i < ps'.length → PS.getD (c + lts.length + i) .u = ps'.getD i .u := fun i hi => by
          have := hPS (lts.length + i) (by simp; omega)
          rw [show c + lts.length + i = c + (lts.length + i) by omega, this, ← l1]
          simp [List.getD, List.getElem?_append_right]
        have same : rowsO own (.a 0) lts (List.replicate c .u ++ ps) c = rowsO own (.a 0) lts PS c := by
          have key : ∀ (lts' : List LTy) (c' : Nat), c ≤ c' → c' + lts'.length ≤ c + ps.length → rowsO own (.a 0) lts' (List.replicate c .u ++ ps) c' = rowsO own (.a 0) lts' PS c' := by
            intro lts'
            induction lts' with
            | nil => intro c' _ _; rfl
            | cons t' lts' ih' =>
              intro c' h1 h2
              have e1 := ih' (c' + 1) (by omega) (by simp at h2; omega)
              have e2 : (List.replicate c PV.u ++ ps).getD c' .u = PS.getD c' .u := by
                have := ag1 (c' - c) (by simp at h2; omega)
                rw [show c + (c' - c) = c' by omega] at this
                rw [this]
                simp [List.getD, List.getElem?_append_right, h1]
              cases t' with
              | sl e => simp only [rowsO, e1, e2]
              | _ => exact e1
          exact key lts c (Nat.le_refl _) (by omega)
        obtain ⟨g1, g2, g3⟩ := f1 PS ag1
        obtain ⟨k1, k2, k3⟩ := f2 PS ag2
        rw [same] at k1 k2 k3
        have hov : ov LB (rowsV P own (t :: ts) PS c) = ov (ov LB (rowsO own (.a 0) lts PS c)) (rowsV P own ts PS (c + lts.length)) := by
          simp [rowsV, hts, ov_append]
        rw [hov]
        refine ⟨by rw [show c + (ps ++ ps').length = c + lts.length + ps'.length by simp; omega]; exact k1, g2.trans k2, fun kk avs ms n hh => ?_⟩
        unfold handV at hh
        rw [hts] at hh
        simp only at hh
        split at hh
        · rename_i av j' hav
          split at hh
          · rename_i l ms' n' hrest
            cases hh
            obtain ⟨n1, q1⟩ := g3 kk _ _ hav
            obtain ⟨n2, l2', q2⟩ := k3 _ _ _ _ hrest
            refine ⟨by rw [n2, n1]; simp; omega, by simp [l2'], fun g hg1 hg2 i hi => ?_⟩
            cases i with
            | zero =>
              have := q1 g hg1 (fun i hi => by
                rw [hg2 i (by simp; omega)]
                simp [List.getD, List.getElem?_append_left, hi])
              exact VR.mono (k2.comp g) (by simpa using this)
            | succ i =>
              have := q2 g hg1 (fun i hi => by
                have := hg2 (ids.length + i) (by simp; omega)
                rw [n1, show kk + ids.length + i = kk + (ids.length + i) by omega, this]
                simp [List.getD, List.getElem?_append_right]) i (by simpa using hi)
              simpa using this
          · cases hh
        · cases hh
end
end Go.AI
set_option linter.unusedVariables false
set_option linter.unusedSimpArgs false
namespace Go.AI
open Go

theorem ov_comm (y : Id) (v : Option Box) : ∀ (l : List (Id × Box)) (B : Id → Option Box), (∀ x, x ∈ l → x.1 ≠ y) → updB (ov B l) y v = ov (updB B y v) l
  | [], B, _ => rfl
  | (id, b) :: l, B, h => by
    rw [ov_cons, ov_cons, ov_comm y v l _ fun x hx => h x (List.mem_cons_of_mem _ hx)]
    congr 1
    funext z
    have hne : id ≠ y := h (id, b) (List.mem_cons_self ..)
    by_cases e : z = y
    · subst e; rw [updB_same, updB_ne _ _ (Ne.symm hne), updB_same]
    · by_cases e2 : z = id
      · subst e2; rw [updB_ne _ _ e, updB_same, updB_same]
      · rw [updB_ne _ _ e, updB_ne _ _ e2, updB_ne _ _ e2, updB_ne _ _ e]
theorem updB_updB {α : Type} (f : Id → α) (y : Id) (u v : α) : updB (updB f y u) y v = updB f y v := by
  funext z
  by_cases e : z = y
  · subst e; rw [updB_same, updB_same]
  · rw [updB_ne _ _ e, updB_ne _ _ e, updB_ne _ _ e]
theorem ov_ne {y : Id} : ∀ (l : List (Id × Box)) (B : Id → Option Box), (∀ x, x ∈ l → x.1 ≠ y) → ov B l y = B y
  | [], B, _ => rfl
  | (id, b) :: l, B, h => by
    rw [ov_cons, ov_ne l _ fun x hx => h x (List.mem_cons_of_mem _ hx), updB_ne]
    exact fun e => h (id, b) (List.mem_cons_self ..) e.symm
theorem rowsO_key {own : TypeId → Bool} {mk : Nat → Id} : ∀ (ts : List LTy) (ps : List PV) (c : Nat) (x : Id × Box), x ∈ rowsO own mk ts ps c → ∃ c', x.1 = mk c'
  | [], _, _, x, h => by cases h
  | t :: ts, ps, c, x, h => by
    cases t with
    | sl e =>
      simp only [rowsO] at h
      revert h
      cases own e with
      | true =>
        intro h
        rcases List.mem_cons.1 (show x ∈ (mk c, Box.row e (ps.getD c .u).toL) :: rowsO own mk ts ps (c + 1) from h) with rfl | h
        · exact ⟨c, rfl⟩
        · exact rowsO_key ts ps (c + 1) x h
      | false => intro h; exact rowsO_key ts ps (c + 1) x h
    | _ => exact rowsO_key ts ps (c + 1) x h

section
variable {P : Program} {A : Ann} {h0 : Array Obj} {W : Wr} {D : Nat → Prop} {β : GM} {S : Nat → Prop} {st : St} {r j : Nat} {LB : Id → Option Box} {m c : Nat} {a : Act} {w : World}

theorem ZS.recell (Z : ZS P h0 W D β S st r j LB m c a w) {y : Id} {t : TypeId} {cs : List AL} (hy : LB y = some (.cells t cs)) (cs' : List AL)
    (h : CellsR P (ZN D β st r j LB w) w.heap β (.z r j y) (cs'.map (AL.mapId (.z r j)))) :
    ZS P h0 W D β S st r j (updB LB y (some (.cells t cs'))) m c a w ∧ Ext (ZN D β st r j LB w) w.heap β (ZN D β st r j (updB LB y (some (.cells t cs'))) w) w.heap β := by
  have ej : joint st.boxes (zOver r j (updB LB y (some (.cells t cs')))) = updB (joint st.boxes (zOver r j LB)) (.z r j y) (some ((Box.cells t cs').mapId (.z r j))) := by
    rw [zOver_upd, joint_updz rfl]
  have hx : joint st.boxes (zOver r j LB) (.z r j y) = some ((Box.cells t cs).mapId (.z r j)) := by rw [joint_z rfl, zOver_z, hy]; rfl
  obtain ⟨hd, b, ch, ty, fr, h1, h2, h3⟩ := id h
  have e := Z.rel.mem.set_ext hx rfl (x' := (Box.cells t cs').mapId (.z r j)) rfl h1 h2 rfl (fun _ _ => rfl)
  have m' := Z.rel.mem.set hx rfl (x' := (Box.cells t cs').mapId (.z r j)) rfl h1 h2 rfl (fun _ _ => rfl) (BoxR.mono e (fun _ _ _ _ => rfl) (x := .cells t (cs'.map (AL.mapId (.z r j)))) h)
  have hsub : ∀ i x k b, joint st.boxes (zOver r j (updB LB y (some (.cells t cs')))) i = some x → β i = some k → k.blk = some b → ∃ i' x' k', joint st.boxes (zOver r j LB) i' = some x' ∧ β i' = some k' ∧ k'.blk = some b := by
    intro i x k b g1 g2 g3
    rw [ej] at g1
    rcases updB_some _ _ g1 with ⟨rfl, _⟩ | ⟨_, g1⟩
    · exact ⟨_, _, k, hx, g2, g3⟩
    · exact ⟨i, x, k, g1, g2, g3⟩
  refine ⟨⟨⟨by rw [ej]; exact m', Z.rel.fresh, Z.rel.frame.of_sub hsub (fun _ => rfl), by rw [ej]; exact fun t => (Z.rel.tm t).mono e, Z.rel.nt, Z.rel.df, Z.rel.nz, Z.rel.en⟩, fun x hx' => ?_, fun x hx' => ?_, fun x b' hb => ?_, Z.hr, Z.sj, Z.fn⟩, by
    show Ext _ _ _ (NN D β (joint _ _) _) _ _; rw [ej]; exact e⟩
  · by_cases e : x = y
    · subst e; exact Z.bf x (by rw [hy]; simp)
    · rw [updB_ne _ _ e] at hx'; exact Z.bf x hx'
  · by_cases e : x = y
    · subst e; rw [updB_same]; simp
    · rw [updB_ne _ _ e]; exact Z.nm x hx'
  · rcases updB_some _ _ hb with ⟨_, e⟩ | ⟨_, e⟩
    · cases e; rfl
    · exact Z.nf x b' e

/-- a box on its way -/
def boxL (A : Ann) (i : Nat) (t : TypeId) (ts : List LTy) (ps : List PV) : List (Id × Box) := (.p i, .cells t (decO (A.ownT t) (.c (.p i)) ts ps 0)) :: rowsO (A.ownT t) (.c (.p i)) ts ps 0

theorem bxK_of {ev : Acc → St → Prop} (E : Ev ev) {i : Nat} (Z : ZS P h0 W D β S st r j LB (i + 1) 0 a w) {id : Id} {k : BX → Acc} (h : ev (bxK P A id k) st) :
    ∃ t ps ts st' β', ev (k (t, ps)) st' ∧ Sib st st' ∧ leaves P t = some ts ∧ ZS P h0 W D β' S st' r j (ov LB (boxL A i t ts ps)) (i + 2) 0 a w ∧
      Ext (ZN D β st r j LB w) w.heap β (ZN D β' st' r j (ov LB (boxL A i t ts ps)) w) w.heap β' ∧ ∃ hd, β' id = some hd ∧ β' (.z r j (.p i)) = some hd ∧ id.isZ = false ∧ hd.blk ≠ none := by
  unfold bxK at h
  have h := E.getB h
  split at h
  · rename_i t cs hb
    have h := E.setB h
    obtain ⟨ts, hts, h⟩ := E.orFail h
    obtain ⟨hpl, h⟩ := E.test h
    have hn := nz_of Z.rel.nz hb
    have hbj : joint st.boxes (zOver r j LB) id = some (.cells t cs) := by rw [joint_n hn]; exact hb
    obtain ⟨hd, b, ch, ty, fr, h1, h2, h3, h4, h5, h6⟩ := Z.rel.mem.bx id _ hbj
    have hy : ¬ bef (i + 1) 0 (.p i) := by simp [bef]
    obtain ⟨Z1, e1⟩ := Z.send hb rfl h1 (.p i) (.cells t (List.replicate cs.length .dead)) rfl hy (m' := i + 1) (c' := 1) (fun z => bef_le (Nat.zero_le _)) (by simp [bef]) (fun β' N ex hβ => by
      refine ⟨hd, b, ch, ty, fr, hβ, h2, h3, h4, by simpa using h5, fun q hq => ?_⟩
      have hq' : q < cs.length := by simpa using hq
      rw [getD_eq (by simpa using hq'), List.getElem_map, List.getElem_replicate]
      exact (h6 q hq').one)
    have hmk : ∀ c, ¬ bef (i + 1) (1 + c) (.c (.p i) c) ∧ bef (i + 1) (1 + c + 1) (.c (.p i) c) := fun c => ⟨by simp only [bef]; omega, .inr ⟨rfl, by omega⟩⟩
    obtain ⟨ps, st2, β2, g1, sb, l1, l2, f⟩ := packsK_of (s := 1) (own := A.ownT t) hmk E ts cs ch.toList 0 _ _ _ _ hpl Z1 (by simpa using h5) (fun q hq => by rw [arr_getD ch]; exact (h6 q hq).mono e1) h
    obtain ⟨Z2, e2, tl⟩ := f ps (fun q _ => by rw [Nat.zero_add])
    have hne : ∀ x, x ∈ rowsO (A.ownT t) (.c (.p i)) ts ps 0 → x.1 ≠ .p i := fun x hx => by
      obtain ⟨c', e⟩ := rowsO_key _ _ _ _ hx
      rw [e]; intro h; cases h
    have hL2 : ov (updB LB (.p i) (some (.cells t (List.replicate cs.length .dead)))) (rowsO (A.ownT t) (.c (.p i)) ts ps 0) (.p i) = some (.cells t (List.replicate cs.length .dead)) := by
      rw [ov_ne _ _ hne, updB_same]
    have hβ2 : β2 (.z r j (.p i)) = some hd := e2.g _ _ (updB_same _ _ _)
    have hβ2' : β2 id = some hd := by
      have := e1.g _ _ h1
      exact e2.g _ _ this
    obtain ⟨Z3, e3⟩ := Z2.recell hL2 (decO (A.ownT t) (.c (.p i)) ts ps 0) ⟨hd, b, ch, ty, fr, hβ2, h2, h3, h4, by rw [List.length_map, decO_length, h5, l2], fun q hq => by
      rw [List.length_map, decO_length] at hq
      rw [decO_map]
      refine TL.dec (mk := fun c => .z r j (.c (.p i) c)) ts ps 0 q hq (v := ch.getD q undef) ?_
      have := tl q hq
      rwa [arr_getD ch] at this⟩
    rw [ov_comm _ _ _ _ hne, updB_updB] at Z3 e3
    refine ⟨t, ps, ts, st2, β2, g1, ((Sib.setB st id none).trans sb), hts, Z3.up fun z hz => bef_next hz, e1.trans (e2.trans e3), hd, hβ2', hβ2, hn, by rw [h2]; simp⟩
  · exact absurd h E.fail

theorem handB_cons {t : TypeId} {ps : List PV} {bs : List BX} {i : Nat} {ts : List LTy} (hts : leaves P t = some ts) {l : List (Id × Box)} (h : handB P A bs (i + 1) = some l) :
    handB P A ((t, ps) :: bs) i = some (boxL A i t ts ps ++ l) := by
  simp [handB, hts, h, boxL]

theorem bxsK_of {ev : Acc → St → Prop} (E : Ev ev) : ∀ (ids : List Id) (i : Nat) (st : St) (β : GM) (LB : Id → Option Box) (k : List BX → Acc), ZS P h0 W D β S st r j LB (i + 1) 0 a w → ev (bxsK P A ids k) st →
    ∃ bs bl st' β', ev (k bs) st' ∧ Sib st st' ∧ bs.length = ids.length ∧ handB P A bs i = some bl ∧ ZS P h0 W D β' S st' r j (ov LB bl) (i + ids.length + 1) 0 a w ∧
      Ext (ZN D β st r j LB w) w.heap β (ZN D β' st' r j (ov LB bl) w) w.heap β' ∧ ∀ q, q < ids.length → ∃ hd, β' (ids.getD q (.p 0)) = some hd ∧ β' (.z r j (.p (i + q))) = some hd ∧ (ids.getD q (.p 0)).isZ = false ∧ hd.blk ≠ none := by
  intro ids
  induction ids with
  | nil => intro i st β LB k Z h; exact ⟨[], [], st, β, h, Sib.refl st, rfl, rfl, Z, Ext.refl _ _ _, fun q hq => absurd hq (Nat.not_lt_zero _)⟩
  | cons id ids ih =>
    intro i st β LB k Z h
    simp only [bxsK] at h
    obtain ⟨t, ps, ts, st1, β1, h1, sb1, hts, Z1, e1, hd, hb1, hb2, hb3, hb4⟩ := bxK_of E Z h
    obtain ⟨bs, bl, st2, β2, h2, sb2, l2, hb, Z2, e2, f⟩ := ih (i + 1) st1 β1 _ _ Z1 h1
    refine ⟨(t, ps) :: bs, boxL A i t ts ps ++ bl, st2, β2, h2, sb1.trans sb2, by simp [l2], handB_cons hts hb, ?_, ?_, fun q hq => ?_⟩
    · rw [ov_append]; rw [show i + (id :: ids).length + 1 = i + 1 + ids.length + 1 by simp; omega]; exact Z2
    · rw [ov_append]; exact e1.trans e2
    · cases q with
      | zero => exact ⟨hd, e2.g _ _ hb1, e2.g _ _ hb2, hb3, hb4⟩
      | succ q =>
        obtain ⟨hd', c1, c2, c3, c4⟩ := f q (by simpa using hq)
        exact ⟨hd', by simpa using c1, by rw [show i + (q + 1) = i + 1 + q by omega]; exact c2, by simpa using c3, c4⟩
end

/-! ### the other side's names -/
theorem Mem.pull {P : Program} {D : Nat → Prop} {β : GM} {B LB : Id → Option Box} {hp : Array Obj} {g : Id → Id} (inj : ∀ x y, g x = g y → x = y) (m : Mem P D β B hp)
    (hB : ∀ x, B (g x) = (LB x).map (Box.mapId g)) (hout : ∀ id b, B id = some b → ∃ x y, id = g x ∧ LB x = some y ∧ b = y.mapId g) :
    (∀ b, NN D β B hp b ↔ NN D (fun x => β (g x)) LB hp b) ∧ Mem P D (fun x => β (g x)) LB hp := by
  have ho : ∀ b, Owned β B b ↔ Owned (fun x => β (g x)) LB b := by
    intro b
    constructor
    · rintro ⟨id, x, h, h1, h2, h3, h4⟩
      obtain ⟨y, z, rfl, g2, rfl⟩ := hout id x h1
      exact ⟨y, z, h, g2, by rwa [isFroz_mapId] at h2, h3, h4⟩
    · rintro ⟨id, x, h, h1, h2, h3, h4⟩
      exact ⟨g id, x.mapId g, h, by rw [hB, h1]; rfl, by rwa [isFroz_mapId], h3, h4⟩
  have hN : ∀ b, NN D β B hp b ↔ NN D (fun x => β (g x)) LB hp b := fun b => by
    unfold NN; rw [ho b]
  refine ⟨hN, ⟨fun id x hx => ?_, fun i i' y y' k k' b h1 h2 h3 h4 h5 h6 => ?_, fun i y k b h1 h2 h3 => ?_, m.lt⟩⟩
  · have := m.bx (g id) (x.mapId g) (by rw [hB, hx]; rfl)
    rw [BoxR_mapId] at this
    exact BoxR.mono ⟨fun b hb => ⟨(hN b).1 hb, rfl⟩, fun _ _ h => h⟩ (fun _ _ _ _ => rfl) this
  · exact inj _ _ (m.dj (g i) (g i') (y.mapId g) (y'.mapId g) k k' b (by rw [hB, h1]; rfl) (by rw [hB, h2]; rfl) h3 h4 h5 h6)
  · exact m.dD (g i) (y.mapId g) k b (by rw [hB, h1]; rfl) h2 h3

/-- names at the other side -/
def Id.isE : Id → Bool
  | .a 0 _ | .p _ | .c (.p _) _ => true
  | _ => false
theorem bef_isE {m c : Nat} {x : Id} (h : bef m c x) : x.isE = true := by
  unfold bef at h
  split at h <;> first | rfl | exact absurd h id

/-- what lies in memory when something was handed over -/
structure Hand (P : Program) (D : Nat → Prop) (β : GM) (LB : Id → Option Box) (hp : Array Obj) : Prop where
  mem : Mem P D β LB hp
  nm : ∀ x, β x ≠ none → LB x ≠ none
  kd : ∀ x, LB x ≠ none → x.isE = true
  nf : ∀ x b, LB x = some b → b.isFroz = false

theorem ZS.hand {P : Program} {h0 : Array Obj} {W : Wr} {D D' : Nat → Prop} {β : GM} {S : Nat → Prop} {st : St} {r j : Nat} {LB : Id → Option Box} {m c : Nat} {a : Act} {w : World}
    (Z : ZS P h0 W D β S st r j LB m c a w) (hD : ∀ k, D' k → D k ∨ ∃ id x h, st.boxes id = some x ∧ x.isFroz = false ∧ β id = some h ∧ h.blk = some k) :
    Hand P D' (fun x => β (.z r j x)) LB w.heap ∧ ∀ b, ZN D β st r j LB w b → NN D' (fun x => β (.z r j x)) LB w.heap b := by
  have hBz : ∀ i x, zOver r j LB i = some x → joint st.boxes (zOver r j LB) i = some x := fun i x h => by
    obtain ⟨y, z, rfl, _, _⟩ := zOver_some h
    rw [joint_z rfl]; exact h
  obtain ⟨e, mm⟩ := Z.rel.mem.part (B' := zOver r j LB) hBz (D' := D') (fun k hk => by
    rcases hD k hk with h | ⟨id, x, h, h1, h2, h3, h4⟩
    · exact .inl h
    · have hn := nz_of Z.rel.nz h1
      refine .inr ⟨id, x, h, by rw [joint_n hn]; exact h1, h2, ?_, h3, h4⟩
      cases id <;> first | rfl | cases hn)
  obtain ⟨hN, mp⟩ := mm.pull (g := .z r j) (LB := LB) (fun x y h => by cases h; rfl) (fun x => zOver_z r j LB x) (fun id b h => zOver_some h)
  exact ⟨⟨mp, Z.nm, fun x hx => bef_isE (Z.bf x hx), Z.nf⟩, fun b hb => (hN b).1 (e.n b hb).1⟩
end Go.AI
set_option linter.unusedVariables false
set_option linter.unusedSimpArgs false
namespace Go.AI
open Go

open Classical in
noncomputable def mrg (β β2 : GM) (B2 : Id → Option Box) (g : Id → Id) : GM := fun id => if h : ∃ x, B2 x ≠ none ∧ g x = id then β2 (Classical.choose h) else β id

section
variable {β β2 : GM} {B2 : Id → Option Box} {g : Id → Id}
theorem mrg_g (inj : ∀ x y, B2 x ≠ none → B2 y ≠ none → g x = g y → x = y) {x : Id} (hx : B2 x ≠ none) : mrg β β2 B2 g (g x) = β2 x := by
  have h : ∃ y, B2 y ≠ none ∧ g y = g x := ⟨x, hx, rfl⟩
  unfold mrg
  rw [dif_pos h]
  have := Classical.choose_spec h
  rw [inj _ _ this.1 hx this.2]
theorem mrg_o {id : Id} (h : ¬ ∃ x, B2 x ≠ none ∧ g x = id) : mrg β β2 B2 g id = β id := by
  unfold mrg
  rw [dif_neg h]
end

section
variable {P : Program} {A : Ann} {h0 : Array Obj} {W : Wr} {D Dc : Nat → Prop} {β β2 : GM} {S : Nat → Prop} {st : St} {r j : Nat} {LB B2 B' : Id → Option Box} {m c : Nat} {a : Act} {w w' : World} {g : Id → Id}

def sentBlk (β : GM) (r j : Nat) (LB : Id → Option Box) (k : Nat) : Prop := ∃ x y h, LB x = some y ∧ β (.z r j x) = some h ∧ h.blk = some k
def heldBlk (D : Nat → Prop) (β : GM) (B : Id → Option Box) (k : Nat) : Prop := D k ∨ ∃ id x h, B id = some x ∧ x.isFroz = false ∧ β id = some h ∧ h.blk = some k

theorem ZS.merge (Z : ZS P h0 W D β S st r j LB m c a w) (H : Hand P (heldBlk D β st.boxes) β2 B2 w'.heap) (en : Env w w') (hsz : w.heap.size ≤ w'.heap.size)
    (hsame : ∀ b, b < w.heap.size → ¬ sentBlk β r j LB b → w'.heap[b]? = w.heap[b]?)
    (hown : ∀ x y h k, B2 x = some y → β2 x = some h → h.blk = some k → k < w.heap.size → sentBlk β r j LB k)
    (inj : ∀ x y, B2 x ≠ none → B2 y ≠ none → g x = g y → x = y) (hg : ∀ x, B2 x ≠ none → (∃ c, g x = .n r j c) ∨ ((g x).isZ = false ∧ β (g x) = β2 x))
    (hgone : ∀ x, B2 x ≠ none → st.boxes (g x) = none)
    (hB1 : ∀ x y, B2 x = some y → B' (g x) = some (y.mapId g)) (hB2 : ∀ id, (¬ ∃ x, B2 x ≠ none ∧ g x = id) → B' id = st.boxes id) :
    ∃ β', Rel P h0 W D β' S { st with boxes := B' } a w' ∧ ∀ x v, VR P (NN (heldBlk D β st.boxes) β2 B2 w'.heap) w'.heap β2 x v → VR P (NN D β' B' w'.heap) w'.heap β' (x.mapId g) v := by
  let β' := mrg β β2 B2 g
  have hgz : ∀ x, B2 x ≠ none → (g x).isZ = false := fun x hx => by
    rcases hg x hx with ⟨c, e⟩ | ⟨e, _⟩
    · rw [e]; rfl
    · exact e
  have kg : ∀ {x}, B2 x ≠ none → β' (g x) = β2 x := fun hx => mrg_g inj hx
  have up : ∀ id h, β id = some h → β' id = some h := fun id h hh => by
    by_cases e : ∃ x, B2 x ≠ none ∧ g x = id
    · obtain ⟨x, hx, rfl⟩ := e
      rw [kg hx]
      rcases hg x hx with ⟨c, e⟩ | ⟨_, e⟩
      · rw [e, Z.fn c] at hh; cases hh
      · rw [← e]; exact hh
    · show mrg β β2 B2 g id = _; rw [mrg_o e]; exact hh
  have oldB : ∀ {id x}, st.boxes id = some x → joint st.boxes (zOver r j LB) id = some x := fun {id x} h => by rw [joint_n (nz_of Z.rel.nz h)]; exact h
  have sentB : ∀ {x y}, LB x = some y → joint st.boxes (zOver r j LB) (.z r j x) = some (y.mapId (.z r j)) := fun {x y} h => by rw [joint_z rfl, zOver_z, h]; rfl
  have split : ∀ {id y}, B' id = some y → (∃ x y0, B2 x = some y0 ∧ g x = id ∧ y = y0.mapId g) ∨ ((¬ ∃ x, B2 x ≠ none ∧ g x = id) ∧ st.boxes id = some y) := fun {id y} h => by
    by_cases e : ∃ x, B2 x ≠ none ∧ g x = id
    · obtain ⟨x, hx, rfl⟩ := e
      cases hy : B2 x with
      | none => exact absurd hy hx
      | some y0 => rw [hB1 x y0 hy] at h; cases h; exact .inl ⟨x, y0, hy, rfl, rfl⟩
    · exact .inr ⟨e, by rw [hB2 id e] at h; exact h⟩
  have nn : ∀ {x y}, B2 x = some y → B2 x ≠ none := fun h => by rw [h]; simp
  have hdr : ∀ {id x}, st.boxes id = some x → ∃ h, β id = some h := fun h => Z.rel.mem.hdr (oldB h)
  -- blocks of the caller's boxes are not written
  have nosent : ∀ {id x h k}, st.boxes id = some x → β id = some h → h.blk = some k → ¬ sentBlk β r j LB k := by
    rintro id x h k h1 h2 h3 ⟨x', y', h', g1, g2, g3⟩
    have := Z.rel.mem.dj id (.z r j x') x _ h h' k (oldB h1) (sentB g1) h2 g2 h3 g3
    subst this
    rw [Z.rel.nz] at h1; cases h1
  have oldlt : ∀ {id x h k}, st.boxes id = some x → β id = some h → h.blk = some k → k < w.heap.size := fun h1 h2 h3 => (Z.rel.mem.bx _ _ (oldB h1)).blk_lt h2 h3
  -- Owned
  have ow : ∀ {b}, Owned β' B' b → (∃ id x h, st.boxes id = some x ∧ x.isFroz = false ∧ β id = some h ∧ h.blk = some b) ∨ Owned β2 B2 b := by
    rintro b ⟨id, y, h, h1, h2, h3, h4⟩
    rcases split h1 with ⟨x, y0, e1, rfl, rfl⟩ | ⟨e1, e2⟩
    · rw [kg (nn e1)] at h3
      exact .inr ⟨x, y0, h, e1, by rwa [isFroz_mapId] at h2, h3, h4⟩
    · have : β' id = β id := mrg_o e1
      rw [this] at h3
      exact .inl ⟨id, y, h, e2, h2, h3, h4⟩
  have n2 : ∀ b, NN (heldBlk D β st.boxes) β2 B2 w'.heap b → NN D β' B' w'.heap b := by
    rintro b ⟨h1, h2, h3⟩
    refine ⟨h1, fun hd => h2 (.inl hd), fun ho => ?_⟩
    rcases ow ho with h | h
    · exact h2 (.inr h)
    · exact h3 h
  have e1 : Ext (ZN D β st r j LB w) w.heap β (NN D β' B' w'.heap) w'.heap β' := by
    refine ⟨fun b ⟨h1, h2, h3⟩ => ?_, up⟩
    have ns : ¬ sentBlk β r j LB b := by
      rintro ⟨x, y, h, g1, g2, g3⟩
      exact h3 ⟨.z r j x, _, h, sentB g1, by rw [isFroz_mapId]; exact Z.nf x y g1, g2, g3⟩
    refine ⟨⟨Nat.lt_of_lt_of_le h1 hsz, h2, fun ho => ?_⟩, hsame b h1 ns⟩
    rcases ow ho with ⟨id, x, h, g1, g2, g3, g4⟩ | ⟨x, y, h, g1, g2, g3, g4⟩
    · exact h3 ⟨id, x, h, oldB g1, g2, g3, g4⟩
    · exact ns (hown x y h b g1 g3 g4 h1)
  have lr2 : ∀ {l v}, LR P (NN (heldBlk D β st.boxes) β2 B2 w'.heap) w'.heap β2 l v → LR P (NN D β' B' w'.heap) w'.heap (fun x => β' (g x)) l v := fun h =>
    LR.mono ⟨fun b hb => ⟨n2 b hb, rfl⟩, fun id k hk => by rw [kg (H.nm id (by rw [hk]; simp))]; exact hk⟩ h
  have vr2 : ∀ x v, VR P (NN (heldBlk D β st.boxes) β2 B2 w'.heap) w'.heap β2 x v → VR P (NN D β' B' w'.heap) w'.heap β' (x.mapId g) v := fun x v h =>
    VR_mapId g (VR.mono ⟨fun b hb => ⟨n2 b hb, rfl⟩, fun id k hk => by rw [kg (H.nm id (by rw [hk]; simp))]; exact hk⟩ h)
  refine ⟨β', ⟨⟨fun id y hy => ?_, fun i i' y y' k k' b h1 h2 h3 h4 h5 h6 => ?_, fun id y h k h1 h2 h3 hd => ?_, fun k hk => Nat.lt_of_lt_of_le (Z.rel.mem.lt k hk) hsz⟩, fun r' i hi => ?_,
    ⟨Nat.le_trans Z.rel.frame.sz hsz, fun b h1 h2 => ?_, fun id y h k h1 h2 h3 h4 => ?_, fun i h hh => ?_⟩, fun t => (Z.rel.tm t).mono e1, Z.rel.nt, Z.rel.df, fun r' i x => ?_, Z.rel.en.trans en⟩, vr2⟩
  · rcases split hy with ⟨x, y0, h1, rfl, rfl⟩ | ⟨h1, h2⟩
    · rw [BoxR_mapId]
      exact BoxR.mono ⟨fun b hb => ⟨n2 b hb, rfl⟩, fun id k hk => by rw [kg (H.nm id (by rw [hk]; simp))]; exact hk⟩ (fun _ _ _ _ => rfl) (H.mem.bx x y0 h1)
    · exact (Z.rel.mem.bx id y (oldB h2)).mono e1 fun h k g1 g2 => hsame k (oldlt h2 g1 g2) (nosent h2 g1 g2)
  · rcases split h1 with ⟨x, y0, c1, rfl, rfl⟩ | ⟨c1, c2⟩ <;> rcases split h2 with ⟨x', y0', d1, rfl, rfl⟩ | ⟨d1, d2⟩
    · rw [kg (nn c1)] at h3; rw [kg (nn d1)] at h4
      rw [H.mem.dj x x' y0 y0' k k' b c1 d1 h3 h4 h5 h6]
    · have : β' i' = β i' := mrg_o d1
      rw [this] at h4; rw [kg (nn c1)] at h3
      exact absurd (hown x y0 k b c1 h3 h5 (oldlt d2 h4 h6)) (nosent d2 h4 h6)
    · have : β' i = β i := mrg_o c1
      rw [this] at h3; rw [kg (nn d1)] at h4
      exact absurd (hown x' y0' k' b d1 h4 h6 (oldlt c2 h3 h5)) (nosent c2 h3 h5)
    · have e : β' i = β i := mrg_o c1
      have e' : β' i' = β i' := mrg_o d1
      rw [e] at h3; rw [e'] at h4
      exact Z.rel.mem.dj i i' y y' k k' b (oldB c2) (oldB d2) h3 h4 h5 h6
  · rcases split h1 with ⟨x, y0, c1, rfl, rfl⟩ | ⟨c1, c2⟩
    · rw [kg (nn c1)] at h2
      exact H.mem.dD x y0 h k c1 h2 h3 (.inl hd)
    · have : β' id = β id := mrg_o c1
      rw [this] at h2
      exact Z.rel.mem.dD id y h k (oldB c2) h2 h3 hd
  · have fr := Z.rel.fresh r' i hi
    have key : ∀ id, β id = none → (∀ c, id ≠ .n r j c) → β' id = none := fun id h1 h2 => by
      by_cases e : ∃ x, B2 x ≠ none ∧ g x = id
      · obtain ⟨x, hx, rfl⟩ := e
        rcases hg x hx with ⟨c, e⟩ | ⟨_, e⟩
        · exact absurd e (h2 c)
        · rw [kg hx, ← e]; exact h1
      · show mrg β β2 B2 g id = _; rw [mrg_o e]; exact h1
    have hne : ∀ c c', Id.n r' i c ≠ .n r j c' := by
      intro c c' e
      cases e
      rcases hi with h | ⟨_, h⟩
      · rw [Z.hr] at h; exact Nat.lt_irrefl _ h
      · exact h Z.sj
    exact ⟨fun c => key _ (fr.1 c) (hne c), fun x => key _ (fr.2 x) (fun c => by simp)⟩
  · have ns : ¬ sentBlk β r j LB b := by
      rintro ⟨x, y, h, g1, g2, g3⟩
      exact h2 (Z.rel.frame.own (.z r j x) _ h b (sentB g1) g2 g3 h1)
    rw [hsame b (Nat.lt_of_lt_of_le h1 Z.rel.frame.sz) ns]
    exact Z.rel.frame.same b h1 h2
  · rcases split h1 with ⟨x, y0, c1, rfl, rfl⟩ | ⟨c1, c2⟩
    · rw [kg (nn c1)] at h2
      obtain ⟨x', y', h', g1, g2, g3⟩ := hown x y0 h k c1 h2 h3 (Nat.lt_of_lt_of_le h4 Z.rel.frame.sz)
      exact Z.rel.frame.own (.z r j x') _ h' k (sentB g1) g2 g3 h4
    · have : β' id = β id := mrg_o c1
      rw [this] at h2
      exact Z.rel.frame.own id y h k (oldB c2) h2 h3 h4
  · by_cases e : ∃ x, B2 x ≠ none ∧ g x = .p i
    · obtain ⟨x, hx, e⟩ := e
      rcases hg x hx with ⟨c, e'⟩ | ⟨_, e'⟩
      · rw [e] at e'; cases e'
      · refine Z.rel.frame.pn i h ?_
        rw [← e, e', ← kg hx, e]; exact hh
    · have : β' (.p i) = β (.p i) := mrg_o e
      rw [this] at hh; exact Z.rel.frame.pn i h hh
  · show B' _ = none
    rw [hB2]
    · exact Z.rel.nz r' i x
    · rintro ⟨y, hy, e⟩
      have := hgz y hy
      rw [e] at this; cases this
end
end Go.AI
set_option linter.unusedVariables false
set_option linter.unusedSimpArgs false
namespace Go.AI
open Go

def oneR : List Value → Value
  | [x] => x
  | rs => .tuple rs.toArray

def blkOf (β : GM) (LB : Id → Option Box) (k : Nat) : Prop := ∃ x y h, LB x = some y ∧ β x = some h ∧ h.blk = some k

/-- what lies there when a call is done -/
def Post (P : Program) (A : Ann) (f : FuncId) (fn : Func) (D : Nat → Prop) (β0 : GM) (LB : Id → Option Box) (hp : Array Obj) (tys : List TypeId) (res : Res) (v : Value) (hp' : Array Obj) : Prop :=
  ∃ β2 bl2, handB P A res.2 0 = some bl2 ∧ res.2.map (·.1) = tys ++ newTs P fn.resultTypes.toList ∧
    Hand P D β2 (ov (fun _ => none) (rowsV P (A.ownR f) fn.resultTypes.toList res.1 0 ++ bl2)) hp' ∧ hp.size ≤ hp'.size ∧ (∀ b, b < hp.size → ¬ blkOf β0 LB b → hp'[b]? = hp[b]?) ∧
    (∀ x y h k, ov (fun _ => none) (rowsV P (A.ownR f) fn.resultTypes.toList res.1 0 ++ bl2) x = some y → β2 x = some h → h.blk = some k → k < hp.size → blkOf β0 LB k) ∧
    (∀ i, i < tys.length → β2 (.p i) = β0 (.p i)) ∧
    ∃ rs : List Value, v = oneR rs ∧ ∀ avs ms n, handV P (A.ownR f) fn.resultTypes.toList res.1 0 tys.length = some (avs, ms, n) → avs.length = rs.length ∧
      ∀ i, i < rs.length → VR P (NN D β2 (ov (fun _ => none) (rowsV P (A.ownR f) fn.resultTypes.toList res.1 0 ++ bl2)) hp') hp' β2 (avs.getD i .any) (rs.getD i undef)

def CallOk (P : Program) (A : Ann) (call : CallF) : Prop :=
  ∀ f ps bs res, call f ps bs = some res → ∃ fn avs ms n bl, P.funcs[f]? = some fn ∧ handV P (A.ownA f) fn.params.toList ps 0 0 = some (avs, ms, n) ∧ handB P A bs 0 = some bl ∧ n + fn.nfree = bs.length ∧
    ∀ (D : Nat → Prop) (β0 : GM) (w : World) (vs fvs : List Value), Hand P D β0 (ov (fun _ => none) (ms ++ bl)) w.heap → vs.length = avs.length →
      (∀ i, i < avs.length → VR P (NN D β0 (ov (fun _ => none) (ms ++ bl)) w.heap) w.heap β0 (avs.getD i .any) (vs.getD i undef)) →
      fvs.length = fn.nfree → (∀ x, x < fn.nfree → PtrV β0 (.p (n + x)) 0 (fvs.getD x undef)) →
      ∀ (o : Oper) (a : Act) (next : Act → World → Prop) (Q : Exit → Act → World → Prop),
        (∀ v w', Post P A f fn D β0 (ov (fun _ => none) (ms ++ bl)) w.heap (bs.map (·.1)) res v w'.heap → Env w w' → next (a.put o.dst v) w') → o.upon P a next Q ((callFunc f (vs ++ fvs).toArray).run P w)

theorem noPrim {P : Program} {A : Ann} (h : A.prim = fun _ _ _ => none) : CallOk P A A.prim := fun f ps bs res e => by rw [h] at e; cases e
/-! ### lists of boxes -/
theorem ov_mem : ∀ (l : List (Id × Box)) (B : Id → Option Box) (x : Id) (b : Box), ov B l x = some b → (x, b) ∈ l ∨ B x = some b
  | [], B, x, b, h => .inr h
  | (id, c) :: l, B, x, b, h => by
    rw [ov_cons] at h
    rcases ov_mem l _ x b h with h | h
    · exact .inl (List.mem_cons_of_mem _ h)
    · rcases updB_some _ _ h with ⟨rfl, e⟩ | ⟨_, e⟩
      · cases e; exact .inl (List.mem_cons_self ..)
      · exact .inr e
theorem memI_iff (id : Id) : ∀ l : List Id, memI id l = true ↔ id ∈ l
  | [] => by simp [memI]
  | x :: l => by simp [memI, memI_iff id l, Id.beq_iff]
theorem nodupI_iff : ∀ l : List Id, nodupI l = true ↔ l.Nodup
  | [] => by simp [nodupI]
  | x :: l => by
    have := memI_iff x l
    simp only [nodupI, Bool.and_eq_true, Bool.not_eq_true', nodupI_iff l, List.nodup_cons]
    constructor
    · rintro ⟨h1, h2⟩; exact ⟨fun h => (by rw [this.2 h] at h1; cases h1), h2⟩
    · rintro ⟨h1, h2⟩
      refine ⟨?_, h2⟩
      cases hb : memI x l
      · rfl
      · exact absurd (this.1 hb) h1
theorem ov_key : ∀ (l : List (Id × Box)) (B : Id → Option Box) (x : Id) (b : Box), (l.map (·.1)).Nodup → (x, b) ∈ l → ov B l x = some b
  | [], B, x, b, _, h => by cases h
  | (id, c) :: l, B, x, b, hn, h => by
    simp only [List.map_cons, List.nodup_cons] at hn
    rw [ov_cons]
    rcases List.mem_cons.1 h with e | h
    · cases e
      rw [ov_ne, updB_same]
      intro y hy e
      exact hn.1 (e ▸ List.mem_map_of_mem hy)
    · exact ov_key l _ x b hn.2 h
theorem ov_isSome : ∀ (l : List (Id × Box)) (B : Id → Option Box) (x : Id), (∃ b, (x, b) ∈ l) ∨ B x ≠ none → ov B l x ≠ none
  | [], B, x, h => by
    rcases h with ⟨b, h⟩ | h
    · cases h
    · exact h
  | (id, c) :: l, B, x, h => by
    rw [ov_cons]
    refine ov_isSome l _ x ?_
    by_cases e : x = id
    · subst e; right; rw [updB_same]; simp
    · rcases h with ⟨b, h⟩ | h
      · rcases List.mem_cons.1 h with h | h
        · cases h; exact absurd rfl e
        · exact .inl ⟨b, h⟩
      · right; rw [updB_ne _ _ e]; exact h
theorem inj_of_nodup {γ δ : Type} (f : γ → δ) : ∀ {l : List γ}, (l.map f).Nodup → ∀ x y, x ∈ l → y ∈ l → f x = f y → x = y
  | [], _, x, _, h, _, _ => by cases h
  | z :: l, hn, x, y, hx, hy, e => by
    simp only [List.map_cons, List.nodup_cons] at hn
    rcases List.mem_cons.1 hx with e1 | hx <;> rcases List.mem_cons.1 hy with e2 | hy
    · rw [e1, e2]
    · rw [e1] at e; exact absurd (e ▸ List.mem_map_of_mem hy) hn.1
    · rw [e2] at e; exact absurd (e ▸ List.mem_map_of_mem hx) hn.1
    · exact inj_of_nodup f hn.2 x y hx hy e
theorem retag_self : ∀ (tys : List TypeId) (bs : List BX) (pre : List BX), bs.map (·.1) = tys → retag tys (pre ++ bs) pre.length = bs
  | [], bs, pre, h => by
    cases bs with
    | nil => rfl
    | cons b bs => simp at h
  | t :: ts, bs, pre, h => by
    cases bs with
    | nil => simp at h
    | cons b bs =>
      simp only [List.map_cons, List.cons.injEq] at h
      have ih := retag_self ts bs (pre ++ [b]) h.2
      simp only [List.append_assoc, List.singleton_append, List.length_append, List.length_cons, List.length_nil, Nat.zero_add] at ih
      simp only [retag, ih]
      obtain ⟨t', ps⟩ := b
      simp only at h
      obtain ⟨rfl, _⟩ := h
      simp [List.getD]

section
variable {α : Type} (call : CallF) (K : St → Option α)
theorem run_setBsK : ∀ (l : List (Id × Box)) (k : Acc) (st : St) {res : α}, (setBsK l k).run call st K = some res → k.run call { st with boxes := ov st.boxes l } K = some res
  | [], k, st, res, h => h
  | (id, b) :: l, k, st, res, h => by
    simp only [setBsK] at h
    exact run_setBsK l k _ (run_setB _ _ _ h)
end
theorem oneV_VR {P : Program} {N : Nat → Prop} {hp : Array Obj} {β : GM} {as : List AV} {rs : List Value} (hl : rs.length = as.length) (h : ∀ i, i < as.length → VR P N hp β (as.getD i .any) (rs.getD i undef)) :
    VR P N hp β (oneV as) (oneR rs) := by
  match as, rs, hl with
  | [], [], _ => exact .tup [] [] rfl (fun i hi => absurd hi (Nat.not_lt_zero _))
  | [a], [r], _ =>
    have := h 0 (by simp)
    exact this
  | a :: b :: as, r :: s :: rs, hl => exact .tup _ _ hl h

section
variable {α : Type} {P : Program} {A : Ann} {F : FuncId} {h0 : Array Obj} {W : Wr} {D : Nat → Prop} {β : GM} {S : Nat → Prop} {st : St} {a : Act} {w : World} {call : CallF} {K : St → Option α} {res : α}
  {o : Oper} {j : Nat} {Q : Exit → Act → World → Prop}

/-- the names of what was handed over, at this side -/
def gS (r j : Nat) (ids : List Id) : Id → Id
  | .p i => if i < ids.length then ids.getD i (.p 0) else .z r j (.p i)
  | x => .z r j x

theorem callK_of (R : Rel P h0 W D β S st a w) (hj : S j) (hn : ∀ c, β (.n st.r j c) = none) (hz : ∀ x, β (.z st.r j x) = none) (hc : CallOk P A call) {f : FuncId} {cap : List Id} {fvs : List Value}
    (hfl : fvs.length = cap.length) (hfv : ∀ i, i < cap.length → PtrV β (cap.getD i (.p 0)) 0 (fvs.getD i undef)) {as : List AV} {vs : List Value} (hl : vs.length = as.length)
    (hv : ∀ i, i < as.length → VR P (NN D β st.boxes w.heap) w.heap β (as.getD i .any) (vs.getD i undef))
    (h : (callK P A st.r j f cap as fun v => putK o.dst v .done).run call st K = some res) :
    o.upon P a (Good P h0 W D S st.r st.q K res) Q ((callFunc f (vs ++ fvs).toArray).run P w) := by
  unfold callK at h
  obtain ⟨fn, hfn, h⟩ := run_orFail _ _ _ h
  have E := Ev.run call K res
  have Z0 := R.toZS hj hn hz
  have hN0 : ZN D β st st.r j (fun _ => none) w = NN D β st.boxes w.heap := by
    show NN D β (joint st.boxes (zOver st.r j fun _ => none)) w.heap = _
    rw [zOver_none, joint_none R.nz]
  obtain ⟨ps, ids, st1, β1, h1, sb1, l1, f1⟩ := packVsK_of E fn.params.toList as vs 0 st β _ _ Z0 hl (by rw [hN0]; exact hv) h
  obtain ⟨Z1, e1, vals⟩ := f1 ps (fun i _ => by rw [Nat.zero_add])
  rw [hN0] at e1
  obtain ⟨hnf, h1⟩ := run_test _ _ _ h1
  have hnf := Nat.eq_of_beq_eq_true hnf
  obtain ⟨bs, bl, st2, β2, h2, sb2, lbs, hbl, Z2, e2, f2⟩ := bxsK_of E (ids ++ cap) 0 st1 β1 _ _ (Z1.up fun z hz => bef_next hz) h1
  rw [← ov_append] at Z2 e2
  simp only [Acc.run] at h2
  cases hq : (!st2.q || bs.isEmpty) with
  | false => simp [hq] at h2
  | true =>
  simp only [hq, cond_true, Option.bind_eq_some_iff] at h2
  obtain ⟨rr, hr, h2⟩ := h2
  obtain ⟨fn', avs, ms, n, bl', c1, c2, c3, c4, c5⟩ := hc _ _ _ _ hr
  rw [hfn] at c1; cases c1
  rw [hbl] at c3; cases c3
  have hms := handV_rows _ _ _ _ _ _ _ c2
  subst hms
  obtain ⟨n1, n2, n3⟩ := vals 0 avs _ n c2
  rw [Nat.zero_add] at n1
  obtain ⟨Hd, hNN⟩ := Z2.hand (D' := heldBlk D β2 st2.boxes) (fun k hk => hk)
  have hgS : (fun x => β2 (gS st.r j (ids ++ cap) x)) = fun x => β2 (.z st.r j x) := by
    funext x
    cases x with
    | p i =>
      simp only [gS]
      split
      · rename_i hi
        obtain ⟨hd, k1, k2, _⟩ := f2 i hi
        rw [k1, ← k2, Nat.zero_add]
      · rfl
    | _ => rfl
  have hcap : ∀ x, x < cap.length → ∃ hd, β2 (cap.getD x (.p 0)) = some hd ∧ β2 (.z st.r j (.p (n + x))) = some hd := fun x hx => by
    obtain ⟨hd, k1, k2, _⟩ := f2 (ids.length + x) (by simp; omega)
    refine ⟨hd, ?_, by rw [n1]; simpa using k2⟩
    have : (ids ++ cap).getD (ids.length + x) (.p 0) = cap.getD x (.p 0) := by simp [List.getD, List.getElem?_append_right]
    rw [← this]; exact k1
  refine c5 (heldBlk D β2 st2.boxes) (fun x => β2 (.z st.r j x)) w vs fvs Hd (by rw [n2, hl, l1]) (fun i hi => ?_) (by rw [hfl, hnf]) (fun x hx => ?_) o a _ Q ?_
  · have := n3 (gS st.r j (ids ++ cap)) (fun c => rfl) (fun i hi => by
      rw [Nat.zero_add]
      show (if i < (ids ++ cap).length then _ else _) = _
      rw [if_pos (by simp; omega)]
      simp [List.getD, List.getElem?_append_left, hi]) i (by rwa [n2] at hi)
    have := VR.mono (e2.comp (gS st.r j (ids ++ cap))) this
    rw [hgS] at this
    exact VR.mono ⟨fun b hb => ⟨hNN b hb, rfl⟩, fun _ _ h => h⟩ this
  · rw [hnf] at hx
    obtain ⟨hd, b, p1, p2, p3⟩ := hfv x hx
    obtain ⟨hd', q1, q2⟩ := hcap x hx
    have := e2.g _ _ (e1.g _ _ p1)
    rw [q1] at this
    obtain rfl := Option.some.inj this
    exact ⟨_, b, q2, p2, p3⟩
  · intro v w' hp en
    obtain ⟨β3, bl2, d1, d2, H, hsz, hsame, hown, hpn, rs, rfl, hrs⟩ := hp
    have hbsl : bs.length = (ids ++ cap).length := lbs
    unfold backK at h2
    obtain ⟨⟨vs2, ms2, n2'⟩, g1, h2⟩ := run_orFail _ _ _ h2
    obtain ⟨bl3, g2, h2⟩ := run_orFail _ _ _ h2
    have hrt : retag (bs.map (·.1) ++ newTs P fn.resultTypes.toList) rr.2 0 = rr.2 := retag_self _ rr.2 [] d2
    rw [hrt, d1] at g2; cases g2
    obtain ⟨hnd, h2⟩ := run_test _ _ _ h2
    have h2 := run_setBsK _ _ _ _ _ h2
    have hms2 := handV_rows _ _ _ _ _ _ _ g1
    subst hms2
    rw [nodupI_iff] at hnd
    have hkn : (List.map (fun x => gT st.r j (ids ++ cap) x.1) (rowsV P (A.ownR f) fn.resultTypes.toList rr.1 0 ++ bl2)) = List.map (gT st.r j (ids ++ cap)) (List.map (·.1) (rowsV P (A.ownR f) fn.resultTypes.toList rr.1 0 ++ bl2)) := by
      rw [List.map_map]; rfl
    rw [hkn] at hnd
    generalize hLE : rowsV P (A.ownR f) fn.resultTypes.toList rr.1 0 ++ bl2 = LE at *
    have hin : ∀ {x}, ov (fun _ => none) LE x ≠ none → ∃ b, (x, b) ∈ LE := fun {x} hx => by
      cases hb : ov (fun _ => none) LE x with
      | none => exact absurd hb hx
      | some b =>
        rcases ov_mem _ _ _ _ hb with h | h
        · exact ⟨b, h⟩
        · cases h
    have hout : ∀ {x b}, (x, b) ∈ LE → ov (fun _ => none) LE x ≠ none := fun h => ov_isSome _ _ _ (.inl ⟨_, h⟩)
    have key : ∀ {x b}, (x, b) ∈ LE → x ∈ LE.map (·.1) := fun h => List.mem_map_of_mem (f := (·.1)) h
    have hpi : ∀ i, i < (ids ++ cap).length → β3 (.p i) = β2 ((ids ++ cap).getD i (.p 0)) := fun i hi => by
      rw [hpn i (by rw [List.length_map, hbsl]; exact hi)]
      obtain ⟨hd, k1, k2, _⟩ := f2 i hi
      rw [Nat.zero_add] at k2
      exact k2.trans k1.symm
    obtain ⟨β', R', vr⟩ := Z2.merge (w' := w') (β2 := β3) (B2 := ov (fun _ => none) LE) (g := gT st.r j (ids ++ cap)) (B' := ov st2.boxes (LE.map fun x => (gT st.r j (ids ++ cap) x.1, x.2.mapId (gT st.r j (ids ++ cap)))))
      H en hsz hsame hown (fun x y hx hy e => by
        obtain ⟨b, hx⟩ := hin hx
        obtain ⟨b', hy⟩ := hin hy
        exact inj_of_nodup _ hnd x y (key hx) (key hy) e)
      (fun x hx => by
        have hk := H.kd x hx
        unfold Id.isE at hk
        split at hk
        · exact .inl ⟨_, rfl⟩
        · rename_i i
          simp only [gT]
          cases hb : Nat.blt i (ids ++ cap).length with
          | false => exact .inl ⟨0, rfl⟩
          | true =>
            have hi : i < (ids ++ cap).length := by simpa [Nat.blt_eq] using hb
            obtain ⟨hd, k1, k2, k3, _⟩ := f2 i hi
            exact .inr ⟨k3, (hpi i hi).symm⟩
        · exact .inl ⟨_, rfl⟩
        · cases hk)
      (fun x hx => by
        have hnn : ∀ c, st2.boxes (.n st.r j c) = none := fun c => by
          cases hb : st2.boxes (.n st.r j c) with
          | none => rfl
          | some y =>
            obtain ⟨hd, e⟩ := Z2.rel.mem.hdr (id := .n st.r j c) (x := y) (by rw [joint_n rfl]; exact hb)
            rw [Z2.fn] at e; cases e
        have hk := H.kd x hx
        unfold Id.isE at hk
        split at hk
        · exact hnn _
        · rename_i i
          simp only [gT]
          cases hb : Nat.blt i (ids ++ cap).length with
          | false => exact hnn _
          | true =>
            have hi : i < (ids ++ cap).length := by simpa [Nat.blt_eq] using hb
            obtain ⟨hd, k1, k2, k3, k4⟩ := f2 i hi
            simp only [cond_true]
            cases hb2 : st2.boxes ((ids ++ cap).getD i (.p 0)) with
            | none => rfl
            | some y =>
              exfalso
              have hLB := Z2.nm (.p i) (by rw [Nat.zero_add] at k2; rw [k2]; simp)
              cases hLB' : ov (fun _ => none) (rowsV P (A.ownA f) fn.params.toList ps 0 ++ bl) (.p i) with
              | none => exact hLB hLB'
              | some y' =>
                cases hbk : hd.blk with
                | none => exact k4 hbk
                | some k =>
                  rw [Nat.zero_add] at k2
                  have := Z2.rel.mem.dj ((ids ++ cap).getD i (.p 0)) (.z st.r j (.p i)) y (y'.mapId (.z st.r j)) hd hd k (by rw [joint_n k3]; exact hb2) (by rw [joint_z rfl, zOver_z, hLB']; rfl) k1 k2 hbk hbk
                  rw [this] at k3; cases k3
        · exact hnn _
        · cases hk)
      (fun x y hy => by
        rcases ov_mem _ _ _ _ hy with h | h
        · refine ov_key _ _ _ _ ?_ (List.mem_map_of_mem (f := fun x : Id × Box => (gT st.r j (ids ++ cap) x.1, x.2.mapId (gT st.r j (ids ++ cap)))) h)
          rw [List.map_map]
          rw [List.map_map] at hnd
          exact hnd
        · cases h)
      (fun id hid => by
        refine ov_ne _ _ fun x hx e => ?_
        obtain ⟨⟨y, b⟩, hy, rfl⟩ := List.mem_map.1 hx
        exact hid ⟨y, hout hy, e⟩)
    have sb := sb1.trans sb2
    obtain ⟨q1, q2⟩ := hrs _ _ _ (by rw [List.length_map, hbsl]; exact g1)
    have hVR : VR P (NN D β' (ov st2.boxes (LE.map fun x => (gT st.r j (ids ++ cap) x.1, x.2.mapId (gT st.r j (ids ++ cap))))) w'.heap) w'.heap β' (oneV (vs2.map (AV.mapId (gT st.r j (ids ++ cap))))) (oneR rs) := by
      refine oneV_VR (by rw [List.length_map, q1]) fun i hi => ?_
      rw [List.length_map] at hi
      rw [show AV.any = AV.mapId (gT st.r j (ids ++ cap)) .any from rfl, getD_map]
      exact vr _ _ (q2 i (by rw [← q1]; exact hi))
    have := R'.good_put (d := o.dst) hVR h2
    rw [show ({ st2 with boxes := ov st2.boxes (LE.map fun x => (gT st.r j (ids ++ cap) x.1, x.2.mapId (gT st.r j (ids ++ cap)))) } : St).r = st.r from sb.r, show ({ st2 with boxes := ov st2.boxes (LE.map fun x => (gT st.r j (ids ++ cap) x.1, x.2.mapId (gT st.r j (ids ++ cap)))) } : St).q = st.q from sb.q] at this
    exact this

theorem op_call (R : Rel P h0 W D β S st a w) (hj : S j) (hn : ∀ c, β (.n st.r j c) = none) (hz : ∀ x, β (.z st.r j x) = none) (hc : CallOk P A call) {c : Call} {x : Operand} (ho : o.op = .call c) (hcc : c.callee = .value x)
    (h : (opK P A F o st.r j).run call st K = some res) : o.wp P a w (Good P h0 W D S st.r st.q K res) Q := by
  simp only [opK, ho, hcc, run_evK] at h
  have hx := R.ev x
  split at h
  · rename_i f cap hf
    rw [run_evsK] at h
    rw [hf] at hx
    obtain ⟨fvs, e1, e2, e3⟩ := hx.leaf
    have := callK_of (Q := Q) R hj hn hz hc e2 e3 (as := c.args.toList.map st.ev) (vs := c.args.toList.map a.eval) (by simp) (fun i hi => R.evs _ i (by simpa using hi)) h
    unfold Oper.wp
    have he : (execOp a.eval o).run P w = (callFunc f (c.args.toList.map a.eval ++ fvs).toArray).run P w := by
      have e4 : (c.args.toList.map a.eval ++ fvs).toArray = c.args.map a.eval ++ fvs.toArray := by
        apply Array.ext'
        simp
      rw [e4]
      simp only [execOp, ho, resolve, hcc, e1, Deferred.ofValue, Sem.run_bind, Sem.run_pure, Result.andThen_ok, invoke]
      simp
    rw [he]
    exact this
  · simp [Acc.run] at h
end
end Go.AI
set_option linter.unusedVariables false
set_option linter.unusedSimpArgs false
namespace Go.AI
open Go

theorem rowsO_false {mk : Nat → Id} : ∀ (ts : List LTy) (ps : List PV) (c : Nat), rowsO (fun _ => false) mk ts ps c = []
  | [], _, _ => rfl
  | t :: ts, ps, c => by cases t <;> exact rowsO_false ts ps (c + 1)
theorem TL_false {P : Program} {N : Nat → Prop} {hp : Array Obj} {β : GM} {mk : Nat → Id} {c : Nat} {t : LTy} {p : PV} {v : Value} (h : TL P N hp β (fun _ => false) mk c t p v) : RP P N hp t p v := by
  cases t <;> exact h

section
variable {α : Type} {P : Program} {A : Ann} {F : FuncId} {h0 : Array Obj} {W : Wr} {D : Nat → Prop} {β : GM} {S : Nat → Prop} {st : St} {a : Act} {w : World} {call : CallF} {K : St → Option α} {res : α}
  {o : Oper} {j : Nat} {Q : Exit → Act → World → Prop}

theorem setB_none_self (hid : st.boxes = st.boxes) {id : Id} (h : st.boxes id = none) (x : Option Box) : (st.setB id x).setB id none = st := by
  have : (updB (updB st.boxes id x) id none) = st.boxes := by
    funext i
    by_cases e : i = id
    · subst e; rw [updB_same, h]
    · rw [updB_ne _ _ e, updB_ne _ _ e]
  show { st with boxes := updB (updB st.boxes id x) id none } = st
  rw [this]
theorem Rel.no_box (R : Rel P h0 W D β S st a w) {id : Id} (h : β id = none) : st.boxes id = none := by
  cases hb : st.boxes id with
  | none => rfl
  | some x => obtain ⟨hd, e⟩ := R.mem.hdr hb; rw [h] at e; cases e

/-- a part of a list: as the interpreter has it, as it lies -/
theorem fillEK_of (hj : S j) {e : TypeId} {ts : List LTy} (hts : leaves P e = some ts) : ∀ (parts : List (Nat × AV)) (vals : List (Nat × Value)) (es : List (List PV)) (c : Array Value) (st : St) (β : GM) (k : List (List PV) → Acc), Rel P h0 W D β S st a w →
    (∀ c, β (.n st.r j c) = none) → (∀ x, β (.z st.r j x) = none) → vals.length = parts.length →
    (∀ i, i < parts.length → (parts.getD i (0, .any)).1 = (vals.getD i (0, undef)).1 ∧ VR P (NN D β st.boxes w.heap) w.heap β (parts.getD i (0, .any)).2 (vals.getD i (0, undef)).2) →
    c.size = es.length * ts.length → (∀ i, i < es.length → (es.getD i []).length = ts.length) →
    (∀ i k, i < es.length → k < ts.length → RP P (NN D β st.boxes w.heap) w.heap (ts.getD k .no) ((es.getD i []).getD k .u) (c.getD (i * ts.length + k) undef)) →
    (fillEK P e es parts k).run call st K = some res →
    ∃ es' st' β' c', (k es').run call st' K = some res ∧ Sib st st' ∧ Rel P h0 W D β' S st' a w ∧ (∀ c, β' (.n st.r j c) = none) ∧ Instr.fill (fun i => some (i * ts.length, ts.length)) c vals = some c' ∧ es'.length = es.length ∧
      c'.size = es'.length * ts.length ∧ (∀ i, i < es'.length → (es'.getD i []).length = ts.length) ∧
      (∀ i k, i < es'.length → k < ts.length → RP P (NN D β' st'.boxes w.heap) w.heap (ts.getD k .no) ((es'.getD i []).getD k .u) (c'.getD (i * ts.length + k) undef))
  | [], vals, es, c, st, β, k, R, hn, hz, hl, hv, hs, hlen, hrp, h => by
    cases vals with
    | nil => exact ⟨es, st, β, c, h, Sib.refl st, R, hn, rfl, rfl, hs, hlen, hrp⟩
    | cons => simp at hl
  | (i, v) :: rest, vals, es, c, st, β, k, R, hn, hz, hl, hv, hs, hlen, hrp, h => by
    cases vals with
    | nil => simp at hl
    | cons x vals =>
      obtain ⟨i', u⟩ := x
      obtain ⟨e1, e2⟩ := hv 0 (by simp)
      simp only [List.getD_cons_zero] at e1 e2
      subst e1
      simp only [fillEK] at h
      obtain ⟨ts', hts', h⟩ := run_orFail _ _ _ h
      rw [hts] at hts'; cases hts'
      obtain ⟨ls, hls, h⟩ := run_orFail _ _ _ h
      obtain ⟨hpl, h⟩ := run_test _ _ _ h
      obtain ⟨us, u1, u2, u3, u4⟩ := e2.cells hls
      have Z0 := R.toZS hj hn hz
      have hN0 : ZN D β st st.r j (fun _ => none) w = NN D β st.boxes w.heap := by
        show NN D β (joint st.boxes (zOver st.r j fun _ => none)) w.heap = _
        rw [zOver_none, joint_none R.nz]
      have hmk : ∀ c, ¬ bef 0 (0 + c) (.a 0 c) ∧ bef 0 (0 + c + 1) (.a 0 c) := fun c => by simp [bef]
      obtain ⟨ps, st1, β1, h1, sb1, l1, l1', f1⟩ := packsK_of (s := 0) hmk (Ev.run call K res) ts ls us 0 st β _ _ hpl Z0 u2 (by rw [hN0]; exact u3) h
      obtain ⟨Z1, ex1, tl⟩ := f1 ps (fun i _ => by rw [Nat.zero_add])
      rw [rowsO_false] at Z1 ex1 tl
      have hN1 : ZN D β1 st1 st.r j (ov (fun _ => none) []) w = NN D β1 st1.boxes w.heap := by
        show NN D β1 (joint st1.boxes (zOver st.r j fun _ => none)) w.heap = _
        rw [zOver_none, joint_none Z1.rel.nz]
      rw [hN0, hN1] at ex1
      have R1 : Rel P h0 W D β1 S st1 a w := by
        have := Z1.rel
        rw [show ov (fun _ => none) ([] : List (Id × Box)) = fun _ => none from rfl, zOver_none] at this
        exact this.toRel
      obtain ⟨hbi, h1⟩ := run_test _ _ _ h1
      have hbi : i < es.length := by simpa [Nat.blt_eq] using hbi
      have hus : us.length = ts.length := by omega
      have hbound : (i + 1) * ts.length ≤ es.length * ts.length := Nat.mul_le_mul_right _ hbi
      rw [Nat.succ_mul] at hbound
      have hle : i * ts.length + us.length ≤ c.size := by rw [hus, hs]; exact hbound
      have hget : ∀ q, (es.set i ps).getD q [] = if q = i then ps else es.getD q [] := fun q => by
        simp only [List.getD, List.getElem?_set]
        by_cases hq : i = q
        · subst hq; simp [hbi]
        · rw [if_neg hq, if_neg (Ne.symm hq)]
      obtain ⟨es', st', β', c', g1, g2, g3, g4, g5, g6, g7, g8, g9⟩ := fillEK_of hj hts rest vals (es.set i ps) (putArr c (i * ts.length) us) st1 β1 k R1 (fun c => by rw [sb1.r]; exact Z1.fn c)
        (fun x => by
          rw [sb1.r]
          cases hb : β1 (.z st.r j x) with
          | none => rfl
          | some hd => exact absurd rfl (Z1.nm x (by rw [hb]; simp)))
        (by simpa using hl) (fun k hk => by
          have := hv (k + 1) (by simpa using hk)
          simp only [List.getD_cons_succ] at this
          exact ⟨this.1, this.2.mono ex1⟩)
        (by rw [putArr_size _ _ _ hle, hs, List.length_set])
        (fun q hq => by
          rw [hget]
          split
          · exact l1
          · exact hlen q (by simpa using hq))
        (fun q k hq hk => by
          have hq' : q < es.length := by simpa using hq
          have hqk : q * ts.length + k < c.size := by rw [hs]; exact mul_lt hq' hk
          unfold putArr
          rw [toArray_getD, putAt_getD _ _ _ (by simpa using hle), arr_getD c, hget]
          have h3 : q * ts.length + k < i * ts.length ∨ (q = i ∧ i * ts.length ≤ q * ts.length + k ∧ q * ts.length + k < i * ts.length + us.length ∧ q * ts.length + k - i * ts.length = k) ∨ (q ≠ i ∧ i * ts.length + us.length ≤ q * ts.length + k) := by
            rcases Nat.lt_trichotomy q i with h | h | h
            · left
              have := Nat.mul_le_mul_right ts.length h
              rw [Nat.succ_mul] at this; omega
            · subst h; right; left; omega
            · right; right
              have := Nat.mul_le_mul_right ts.length h
              rw [Nat.succ_mul] at this; omega
          rcases h3 with h3 | ⟨rfl, h3, h4, h5⟩ | ⟨h3, h4⟩
          · rw [if_pos h3]
            have : q ≠ i := by rintro rfl; omega
            rw [if_neg this]
            exact (hrp q k hq' hk).mono ex1.n
          · rw [if_pos rfl, if_neg (Nat.not_lt.2 h3), if_pos h4, h5]
            have := TL_false (tl k hk)
            rw [Nat.zero_add, hN1] at this
            exact this
          · rw [if_neg h3, if_neg (by omega : ¬ q * ts.length + k < i * ts.length), if_neg (by omega : ¬ q * ts.length + k < i * ts.length + us.length)]
            exact (hrp q k hq' hk).mono ex1.n)
        h1
      refine ⟨es', st', β', c', g1, sb1.trans g2, g3, fun c => by rw [← sb1.r]; exact g4 c, ?_, by rw [g6, List.length_set], g7, g8, g9⟩
      unfold Instr.fill
      have hcond : ¬ (decide (u.cells.size ≠ ts.length) || decide (i * ts.length + u.cells.size > c.size)) = true := by
        have : u.cells.size = us.length := by rw [u1]; simp
        simp only [Bool.or_eq_true, decide_eq_true_eq]; omega
      have hfold : (u.cells.zipIdx.foldl (fun cs (x : Value × Nat) => cs.setIfInBounds (i * ts.length + x.2) x.1) c) = putArr c (i * ts.length) us := by
        rw [u1]
        have := fold_put us c (i * ts.length) 0 (by omega)
        rw [Nat.add_zero] at this
        rw [← this]
        simp
      simp only at hcond ⊢
      rw [if_neg (by simpa using hcond)]
      rw [← g5, ← hfold]

theorem op_buildSlice (R : Rel P h0 W D β S st a w) (hj : S j) (hn : ∀ c, β (.n st.r j c) = none) (hz : ∀ x, β (.z st.r j x) = none) {t : TypeId} {n : Nat} {parts : Array (Nat × Operand)} (ho : o.op = .buildSlice t n parts)
    (h : (opK P A F o st.r j).run call st K = some res) : o.wp P a w (Good P h0 W D S st.r st.q K res) Q := by
  simp only [opK, ho, run_evsK] at h
  obtain ⟨e, he, h⟩ := run_orFail _ _ _ h
  obtain ⟨z, hz', h⟩ := run_orFail _ _ _ h
  obtain ⟨hnb, h⟩ := run_test _ _ _ h
  have hnb := Nat.le_of_ble_eq_true hnb
  obtain ⟨p1, p2⟩ := parts_VR R parts
  obtain ⟨ts, i, zv, z1, z2, z3, z4, z5, z6⟩ := zeroP_of (N := NN D β st.boxes w.heap) (hp := w.heap) hz'
  have hu := sliceElem_of he
  obtain ⟨lc, hlc⟩ : ∃ lc : Array Value, lc = if n * ts.length = 0 then (#[] : Array Value) else zv.cells := ⟨_, rfl⟩
  obtain ⟨cs, hcs⟩ : ∃ cs : Array Value, cs = (Array.range (n * ts.length)).map (lc[· % lc.size]!) := ⟨_, rfl⟩
  have hsz : cs.size = n * ts.length := by rw [hcs]; simp
  obtain ⟨es', st', β', c', g1, g2, g3, g4, g5, g6, g7, g8, g9⟩ := fillEK_of hj z1 _ _ (List.replicate n z) cs st β _ R hn hz p1 p2 (by rw [hsz, List.length_replicate]) (fun i hi => by rw [getD_eq hi, List.getElem_replicate]; exact z5)
    (fun i k hi hk => by
      have hi' : i < n := by simpa using hi
      have hlt : i * ts.length + k < cs.size := by rw [hsz]; exact mul_lt (by omega) hk
      have hne : n * ts.length ≠ 0 := by omega
      have hlc' : lc = zv.cells := by rw [hlc, if_neg hne]
      have hmod : (i * ts.length + k) % lc.size = k := by
        rw [hlc', z4, Nat.add_comm, Nat.add_mul_mod_self_right]; exact Nat.mod_eq_of_lt hk
      rw [getD_eq hi, List.getElem_replicate, agetD_eq hlt]
      simp only [hcs, Array.getElem_map, Array.getElem_range, hmod]
      rw [hlc', getBang _ _ (by rw [z4]; exact hk) undef]
      exact z6 k hk) h
  rw [List.length_replicate] at g6
  have hrow : (newRow e c').run P w = .ok ⟨w.heap.size, 0, none⟩ (w.alloc (.cells c' e)) := rfl
  have hexec : (execOp a.eval o).run P w = .ok (.value (.slice (some ⟨w.heap.size, 0, none⟩) n n)) (w.alloc (.cells c' e)) := by
    simp only [execOp, ho, Instr.buildSlice, Sem.run_bind, run_underlying hu, Result.andThen_ok, run_sizeOf z1]
    rw [z5] at hnb
    rw [Sem.run_ite, if_neg (by omega)]
    by_cases hne : n * ts.length = 0
    · rw [if_pos hne] at hlc
      rw [if_pos hne]
      rw [hcs, hlc] at g5
      simp only [Sem.run_bind, Sem.run_pure, Result.andThen_ok, g5, hrow]
    · rw [if_neg hne] at hlc
      rw [if_neg hne]
      rw [hcs, hlc] at g5
      simp only [Sem.run_bind, run_zeroValue' z2 z3, Sem.run_pure, Result.andThen_ok, g5, hrow]
  obtain ⟨R', hv⟩ := g3.newRow (w' := w.alloc (.cells c' e)) (by rw [g2.r]; exact g4 0 : β' (.n st'.r j 0) = none) (nid_ok hj 0) z1 es' n c' e (0, 0) (unfro00 _) g8 (by omega) (by rw [g7, g6]; exact Nat.le_refl _) g9 rfl ⟨rfl, rfl⟩
  rw [g6] at R' hv
  rw [← g2.r, ← g2.q]
  obtain ⟨bw, g1⟩ : ∃ bw : Bool, (bif bw then Acc.setB (.n st.r j 0) (some (.row e es')) (putK o.dst (.v (.wr (.n st.r j 0))) .done) else putK o.dst (.v (.sl e es')) .done).run call st' K = some res := ⟨_, g1⟩
  cases bw with
  | true =>
    rw [cond_true] at g1
    have g1 := run_setB _ _ _ g1
    rw [← g2.r] at g1
    exact wp_val (v := .slice (some ⟨w.heap.size, 0, none⟩) n n) hexec (R'.good_put (.v (.wr _) _ hv) g1)
  | false =>
    rw [cond_false] at g1
    have hb := (g3.no_box (id := .n st'.r j 0) (by rw [g2.r]; exact g4 0))
    have R2 := R'.drop (.n st'.r j 0)
    have hx : (st'.setB (.n st'.r j 0) (some (.row e es'))).boxes (.n st'.r j 0) = some (.row e es') := updB_same st'.boxes _ _
    obtain ⟨hd, hd1, hd2⟩ := R'.mem.bx _ _ hx
    have eh : hd = ⟨some w.heap.size, n, n, ts.length⟩ := by
      rw [updB_same] at hd1; exact (Option.some.inj hd1).symm
    have hRP : RP P (NN D (updB β' (.n st'.r j 0) (some ⟨some w.heap.size, n, n, ts.length⟩)) ((st'.setB (.n st'.r j 0) (some (.row e es'))).setB (.n st'.r j 0) none).boxes (w.alloc (.cells c' e)).heap) (w.alloc (.cells c' e)).heap (.sl e) (.l es') (.slice (some ⟨w.heap.size, 0, none⟩) n n) := by
      refine row_RP (h := hd) (hd2.mono (R'.mem.drop_ext _).n (fun _ _ => rfl)) (fun b hb' => R'.mem.drop_free hx hd1 hb') (.inr ⟨w.heap.size, by rw [eh], by rw [eh]⟩)
    rw [setB_none_self rfl hb] at R2 hRP
    exact wp_val (v := .slice (some ⟨w.heap.size, 0, none⟩) n n) hexec (R2.good_put (.v (.sl e es') _ hRP) g1)
end
end Go.AI
