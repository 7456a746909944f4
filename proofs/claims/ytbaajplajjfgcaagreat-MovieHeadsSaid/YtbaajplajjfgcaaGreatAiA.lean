/- The interpreter's soundness, first part: what a value of the interpreter has to do with one of the model. -/
import Derived.Test.YtbaajplajjfgcaaGreatAiDefs
import Derived.Laws.World
import Derived.Laws.Cells
namespace Go.AI
open Go

theorem Id.beq_iff : ∀ (a b : Id), a.beq b = true ↔ a = b := by
  intro a
  induction a with
  | c x k ih =>
    intro b
    cases b <;> simp [Id.beq, ih]
  | z r i x ih =>
    intro b
    cases b <;> simp [Id.beq, ih]
  | _ => intro b; cases b <;> simp [Id.beq]
theorem Id.beq_self (a : Id) : a.beq a = true := (Id.beq_iff a a).2 rfl
theorem Id.beq_false {a b : Id} (h : a ≠ b) : a.beq b = false := by
  cases hb : a.beq b
  · rfl
  · exact absurd ((Id.beq_iff a b).1 hb) h
instance : DecidableEq Id := fun a b => decidable_of_iff _ (Id.beq_iff a b)

/-! ### cells of a heap -/
def cellH (hp : Array Obj) (b o : Nat) : Option Value :=
  match hp[b]? with
  | some (.cells c _ _) => c[o]?
  | _ => none
theorem cell_cellH (w : World) (b o : Nat) : w.cell? ⟨b, o, none⟩ = cellH w.heap b o := by
  unfold World.cell? cellH
  cases w.heap[b]? with
  | none => rfl
  | some x => cases x <;> simp
theorem cellH_congr {hp hp' : Array Obj} {b : Nat} (h : hp'[b]? = hp[b]?) (o : Nat) : cellH hp' b o = cellH hp b o := by
  unfold cellH; rw [h]
theorem cellH_of {hp : Array Obj} {b : Nat} {c : Array Value} {t : TypeId} {fr : Nat × Nat} (h : hp[b]? = some (.cells c t fr)) (o : Nat) : cellH hp b o = c[o]? := by
  unfold cellH; rw [h]

/-- where a box lies: its block, how many elements, room, cells an element -/
structure Hdr where
  blk : Option Nat
  len : Nat
  cap : Nat
  sz : Nat
abbrev GM := Id → Option Hdr

inductive RP (P : Program) (N : Nat → Prop) (hp : Array Obj) : LTy → PV → Value → Prop
  | int (k : IntKind) (n : Int) : RP P N hp (.int k) (.i n) (.int k n)
  | bool (b : Bool) : RP P N hp .bool (.b b) (.bool b)
  | str (s : ByteArray) : RP P N hp .str (.s s.data.toList) (.string s)
  | nil (e : TypeId) (a : Option Addr) : RP P N hp (.sl e) (.l []) (.slice a 0 0)
  | sl (e : TypeId) (ts : List LTy) (es : List (List PV)) (b o cap : Nat) (vs : Nat → Value) (hc : es.length ≤ cap) (hl : leaves P e = some ts) (hN : N b)
      (h1 : ∀ i, i < es.length → (es.getD i []).length = ts.length)
      (h2 : ∀ j, j < es.length * ts.length → cellH hp b (o + j) = some (vs j))
      (h3 : ∀ i j, i < es.length → j < ts.length → RP P N hp (ts.getD j .no) ((es.getD i []).getD j .u) (vs (i * ts.length + j))) :
      RP P N hp (.sl e) (.l es) (.slice (some ⟨b, o, none⟩) es.length cap)

theorem RP.mono {P : Program} {N N' : Nat → Prop} {hp hp' : Array Obj} (hn : ∀ b, N b → N' b ∧ hp'[b]? = hp[b]?) {t : LTy} {p : PV} {v : Value} (h : RP P N hp t p v) :
    RP P N' hp' t p v := by
  induction h with
  | int k n => exact .int k n
  | bool b => exact .bool b
  | str s => exact .str s
  | nil e a => exact .nil e a
  | sl e ts es b o cap vs hc hl hN h1 h2 _ ih =>
    exact .sl e ts es b o cap vs hc hl (hn b hN).1 h1 (fun j hj => by rw [cellH_congr (hn b hN).2]; exact h2 j hj) ih

/-- a pointer into a box -/
def PtrV (β : GM) (id : Id) (off : Nat) (v : Value) : Prop := ∃ h b, β id = some h ∧ h.blk = some b ∧ v = .pointer (some ⟨b, off, none⟩)
/-- a row's slice -/
def RowV (β : GM) (id : Id) (v : Value) : Prop :=
  ∃ h, β id = some h ∧ ((h.blk = none ∧ h.len = 0 ∧ ∃ a, v = .slice a 0 0) ∨ ∃ b, h.blk = some b ∧ v = .slice (some ⟨b, 0, none⟩) h.len h.cap)
/-- a pointer into a row -/
def RowP (β : GM) (id : Id) (i : Int) (off : Nat) (v : Value) : Prop :=
  ∃ h b, β id = some h ∧ h.blk = some b ∧ v = .pointer (some ⟨b, i.toNat * h.sz + off, none⟩)

def LR (P : Program) (N : Nat → Prop) (hp : Array Obj) (β : GM) : AL → Value → Prop
  | .int k n, v => v = .int k n
  | .bool b, v => v = .bool b
  | .str s, v => ∃ x : ByteArray, v = .string x ∧ x.data.toList = s
  | .sl e es, v => RP P N hp (.sl e) (.l es) v
  | .nils, v => ∃ a, v = .slice a 0 0
  | .ptr id off, v => PtrV β id off v
  | .ep e es i off, v => ∃ ts b o cap, leaves P e = some ts ∧ RP P N hp (.sl e) (.l es) (.slice (some ⟨b, o, none⟩) es.length cap) ∧ 0 ≤ i ∧ i.toNat < es.length ∧
      v = .pointer (some ⟨b, o + i.toNat * ts.length + off, none⟩)
  | .wr id, v => RowV β id v
  | .wp id i off, v => RowP β id i off v
  | .nilp, v => v = .pointer none
  | .fn f cap, v => ∃ vs : List Value, v = .func (.func f) #[] vs.toArray ∧ vs.length = cap.length ∧ ∀ i, i < cap.length → PtrV β (cap.getD i (.p 0)) 0 (vs.getD i undef)
  | .dead, v => v.oneCell' = true

theorem RP.one {P : Program} {N : Nat → Prop} {hp : Array Obj} {t : LTy} {p : PV} {v : Value} (h : RP P N hp t p v) : v.oneCell' = true := by
  cases h <;> rfl
theorem LR.one {P : Program} {N : Nat → Prop} {hp : Array Obj} {β : GM} {l : AL} {v : Value} (h : LR P N hp β l v) : v.oneCell' = true := by
  cases l with
  | int k n => cases h; rfl
  | bool b => cases h; rfl
  | str s => obtain ⟨x, rfl, _⟩ := h; rfl
  | sl e es => exact RP.one h
  | nils => obtain ⟨a, rfl⟩ := h; rfl
  | ptr id off => obtain ⟨_, _, _, _, rfl⟩ := h; rfl
  | ep e es i off => obtain ⟨_, _, _, _, _, _, _, _, rfl⟩ := h; rfl
  | wr id => obtain ⟨h, _, ⟨_, _, _, rfl⟩ | ⟨_, _, rfl⟩⟩ := h <;> rfl
  | wp id i off => obtain ⟨_, _, _, _, rfl⟩ := h; rfl
  | nilp => cases h; rfl
  | fn f cap => obtain ⟨_, rfl, _⟩ := h; rfl
  | dead => exact h

inductive VR (P : Program) (N : Nat → Prop) (hp : Array Obj) (β : GM) : AV → Value → Prop
  | v (l : AL) (v : Value) (h : LR P N hp β l v) : VR P N hp β (.v l) v
  | agg (ls : List AL) (vs : List Value) (hl : vs.length = ls.length) (h : ∀ i, i < ls.length → LR P N hp β (ls.getD i .dead) (vs.getD i undef)) : VR P N hp β (.agg ls) (.agg vs.toArray)
  | tup (as : List AV) (vs : List Value) (hl : vs.length = as.length) (h : ∀ i, i < as.length → VR P N hp β (as.getD i .any) (vs.getD i undef)) : VR P N hp β (.tup as) (.tuple vs.toArray)
  | und : VR P N hp β .und undef
  | any (v : Value) : VR P N hp β .any v

/-- what may become of the heap -/
structure Ext (N : Nat → Prop) (hp : Array Obj) (β : GM) (N' : Nat → Prop) (hp' : Array Obj) (β' : GM) : Prop where
  n : ∀ b, N b → N' b ∧ hp'[b]? = hp[b]?
  g : ∀ id h, β id = some h → β' id = some h
theorem Ext.refl (N : Nat → Prop) (hp : Array Obj) (β : GM) : Ext N hp β N hp β := ⟨fun _ h => ⟨h, rfl⟩, fun _ _ h => h⟩
theorem Ext.trans {N N' N'' : Nat → Prop} {hp hp' hp'' : Array Obj} {β β' β'' : GM} (h : Ext N hp β N' hp' β') (h' : Ext N' hp' β' N'' hp'' β'') : Ext N hp β N'' hp'' β'' :=
  ⟨fun b hb => let ⟨x, y⟩ := h.n b hb; let ⟨x', y'⟩ := h'.n b x; ⟨x', y'.trans y⟩, fun id k hk => h'.g id k (h.g id k hk)⟩

theorem PtrV.mono {β β' : GM} (h : ∀ id k, β id = some k → β' id = some k) {id : Id} {off : Nat} {v : Value} (hv : PtrV β id off v) : PtrV β' id off v := by
  obtain ⟨k, b, h1, h2, h3⟩ := hv; exact ⟨k, b, h _ _ h1, h2, h3⟩
theorem LR.mono {P : Program} {N N' : Nat → Prop} {hp hp' : Array Obj} {β β' : GM} (e : Ext N hp β N' hp' β') {l : AL} {v : Value} (h : LR P N hp β l v) : LR P N' hp' β' l v := by
  cases l with
  | int k n => exact h
  | bool b => exact h
  | str s => exact h
  | sl t es => exact RP.mono e.n h
  | nils => exact h
  | ptr id off => exact PtrV.mono e.g h
  | ep t es i off => obtain ⟨ts, b, o, cap, h1, h2, h3, h4, h5⟩ := h; exact ⟨ts, b, o, cap, h1, RP.mono e.n h2, h3, h4, h5⟩
  | wr id => obtain ⟨k, h1, h2⟩ := h; exact ⟨k, e.g _ _ h1, h2⟩
  | wp id i off => obtain ⟨k, b, h1, h2, h3⟩ := h; exact ⟨k, b, e.g _ _ h1, h2, h3⟩
  | nilp => exact h
  | fn f cap => obtain ⟨vs, h1, h2, h3⟩ := h; exact ⟨vs, h1, h2, fun i hi => PtrV.mono e.g (h3 i hi)⟩
  | dead => exact h
theorem VR.mono {P : Program} {N N' : Nat → Prop} {hp hp' : Array Obj} {β β' : GM} (e : Ext N hp β N' hp' β') {a : AV} {v : Value} (h : VR P N hp β a v) : VR P N' hp' β' a v := by
  induction h with
  | v l v h => exact .v l v (h.mono e)
  | agg ls vs hl h => exact .agg ls vs hl fun i hi => (h i hi).mono e
  | tup as vs hl _ ih => exact .tup as vs hl ih
  | und => exact .und
  | any v => exact .any v

/-! ### boxes -/
def unfro (c : Array Value) (fr : Nat × Nat) : Prop := ∀ o, o < c.size → ¬ (fr.1 ≤ o ∧ o < fr.2)

def CellsR (P : Program) (N : Nat → Prop) (hp : Array Obj) (β : GM) (id : Id) (cs : List AL) : Prop :=
  ∃ h b c ty fr, β id = some h ∧ h.blk = some b ∧ hp[b]? = some (.cells c ty fr) ∧ unfro c fr ∧ c.size = cs.length ∧ ∀ i, i < cs.length → LR P N hp β (cs.getD i .dead) (c.getD i undef)
def RowAt (P : Program) (N : Nat → Prop) (hp : Array Obj) (h : Hdr) (e : TypeId) (es : List (List PV)) : Prop :=
  ∃ ts, leaves P e = some ts ∧ h.sz = ts.length ∧ h.len = es.length ∧ (∀ i, i < es.length → (es.getD i []).length = ts.length) ∧ es.length ≤ h.cap ∧
    ((h.blk = none ∧ h.cap = 0) ∨ ∃ b c ty fr, h.blk = some b ∧ hp[b]? = some (.cells c ty fr) ∧ unfro c fr ∧ h.cap * ts.length ≤ c.size ∧
      ∀ i j, i < es.length → j < ts.length → RP P N hp (ts.getD j .no) ((es.getD i []).getD j .u) (c.getD (i * ts.length + j) undef))
def BoxR (P : Program) (N : Nat → Prop) (hp : Array Obj) (β : GM) (id : Id) : Box → Prop
  | .cells _ cs | .froz _ cs => CellsR P N hp β id cs
  | .row e es => ∃ h, β id = some h ∧ RowAt P N hp h e es

def Box.isFroz : Box → Bool | .froz _ _ => true | _ => false
def Owned (β : GM) (boxes : Id → Option Box) (b : Nat) : Prop := ∃ id x h, boxes id = some x ∧ x.isFroz = false ∧ β id = some h ∧ h.blk = some b
def NN (D : Nat → Prop) (β : GM) (boxes : Id → Option Box) (hp : Array Obj) (b : Nat) : Prop := b < hp.size ∧ ¬ D b ∧ ¬ Owned β boxes b

structure Mem (P : Program) (D : Nat → Prop) (β : GM) (boxes : Id → Option Box) (hp : Array Obj) : Prop where
  bx : ∀ id x, boxes id = some x → BoxR P (NN D β boxes hp) hp β id x
  dj : ∀ id id' x x' h h' k, boxes id = some x → boxes id' = some x' → β id = some h → β id' = some h' → h.blk = some k → h'.blk = some k → id = id'
  dD : ∀ id x h k, boxes id = some x → β id = some h → h.blk = some k → ¬ D k
  lt : ∀ k, D k → k < hp.size

/-- names that no box had yet -/
def Fresh (β : GM) (r : Nat) (S : Nat → Prop) : Prop := ∀ r' i, (r < r' ∨ (r' = r ∧ ¬ S i)) → (∀ c, β (.n r' i c) = none) ∧ ∀ x, β (.z r' i x) = none

/-- blocks that may be written; where the boxes lie that were passed -/
structure Wr where
  w : Nat → Prop
  g : Nat → Option Hdr
  e : World
/-- what else there is stays -/
def Env (w w' : World) : Prop := w'.os = w.os ∧ w'.output = w.output
theorem Env.refl (w : World) : Env w w := ⟨rfl, rfl⟩
theorem Env.trans {w w' w'' : World} (h : Env w w') (k : Env w' w'') : Env w w'' := ⟨k.1.trans h.1, k.2.trans h.2⟩
/-- elder blocks: those of W alone may be written -/
structure Frame (W : Wr) (β : GM) (boxes : Id → Option Box) (h0 hp : Array Obj) : Prop where
  sz : h0.size ≤ hp.size
  same : ∀ b, b < h0.size → ¬ W.w b → hp[b]? = h0[b]?
  own : ∀ id x h k, boxes id = some x → β id = some h → h.blk = some k → k < h0.size → W.w k
  pn : ∀ i h, β (.p i) = some h → W.g i = some h

structure Rel (P : Program) (h0 : Array Obj) (W : Wr) (D : Nat → Prop) (β : GM) (S : Nat → Prop) (st : St) (a : Act) (w : World) : Prop where
  mem : Mem P D β st.boxes w.heap
  fresh : Fresh β st.r S
  frame : Frame W β st.boxes h0 w.heap
  tm : ∀ t, VR P (NN D β st.boxes w.heap) w.heap β (st.tmps t) (a.tmps.getD t undef)
  nt : a.tmps.size = st.nt
  df : a.defers = []
  nz : ∀ r i x, st.boxes (.z r i x) = none
  en : Env W.e w

/-- a name that may be given in region r, by an operation of S -/
def Old (r : Nat) (S : Nat → Prop) : Id → Prop
  | .n r' i _ | .z r' i _ => r' < r ∨ (r' = r ∧ S i)
  | _ => True
def Id.isZ : Id → Bool | .z _ _ _ => true | _ => false
def Id.isP : Id → Bool | .p _ => true | _ => false
def IdOk (r : Nat) (S : Nat → Prop) (id : Id) : Prop := Old r S id ∧ id.isZ = false ∧ id.isP = false
end Go.AI
set_option linter.unusedVariables false
namespace Go.AI
open Go

def updB {α : Type} (f : Id → α) (id : Id) (v : α) : Id → α := fun x => bif x.beq id then v else f x
theorem updB_same {α : Type} (f : Id → α) (id : Id) (v : α) : updB f id v id = v := by simp [updB, Id.beq_self]
theorem updB_ne {α : Type} (f : Id → α) {id id' : Id} (v : α) (h : id' ≠ id) : updB f id v id' = f id' := by simp [updB, Id.beq_false h]
theorem updB_some {α : Type} (f : Id → Option α) {id id' : Id} (v : Option α) {x : α} (h : updB f id v id' = some x) : (id' = id ∧ v = some x) ∨ (id' ≠ id ∧ f id' = some x) := by
  by_cases e : id' = id
  · subst e; rw [updB_same] at h; exact .inl ⟨rfl, h⟩
  · rw [updB_ne f v e] at h; exact .inr ⟨e, h⟩
theorem St.setB_boxes (st : St) (id : Id) (b : Option Box) : (st.setB id b).boxes = updB st.boxes id b := rfl

section
variable {P : Program} {D : Nat → Prop} {β : GM} {B : Id → Option Box} {hp : Array Obj}

theorem CellsR.mono {N N' : Nat → Prop} {hp' : Array Obj} {β' : GM} (e : Ext N hp β N' hp' β') {id : Id} {cs : List AL} (hk : ∀ h k, β id = some h → h.blk = some k → hp'[k]? = hp[k]?)
    (h : CellsR P N hp β id cs) : CellsR P N' hp' β' id cs := by
  obtain ⟨h, b, c, ty, fr, h1, h2, h3, h4, h5, h6⟩ := h
  exact ⟨h, b, c, ty, fr, e.g _ _ h1, h2, (hk h b h1 h2).trans h3, h4, h5, fun i hi => (h6 i hi).mono e⟩
theorem RowAt.mono {N N' : Nat → Prop} {hp' : Array Obj} (hn : ∀ b, N b → N' b ∧ hp'[b]? = hp[b]?) {h : Hdr} {e : TypeId} {es : List (List PV)} (hk : ∀ k, h.blk = some k → hp'[k]? = hp[k]?)
    (hr : RowAt P N hp h e es) : RowAt P N' hp' h e es := by
  obtain ⟨ts, h1, h2, h3, h4, h5, h6⟩ := hr
  refine ⟨ts, h1, h2, h3, h4, h5, ?_⟩
  rcases h6 with h6 | ⟨b, c, ty, fr, g1, g2, g3, g4, g5⟩
  · exact .inl h6
  · exact .inr ⟨b, c, ty, fr, g1, (hk b g1).trans g2, g3, g4, fun i j hi hj => (g5 i j hi hj).mono hn⟩
theorem BoxR.mono {N N' : Nat → Prop} {hp' : Array Obj} {β' : GM} (e : Ext N hp β N' hp' β') {id : Id} {x : Box} (hk : ∀ h k, β id = some h → h.blk = some k → hp'[k]? = hp[k]?)
    (h : BoxR P N hp β id x) : BoxR P N' hp' β' id x := by
  cases x with
  | cells t cs => exact CellsR.mono e hk h
  | froz t cs => exact CellsR.mono e hk h
  | row t es => obtain ⟨k, h1, h2⟩ := h; exact ⟨k, e.g _ _ h1, h2.mono e.n (fun b hb => hk k b h1 hb)⟩

theorem BoxR.hdr {N : Nat → Prop} {id : Id} {x : Box} (h : BoxR P N hp β id x) : ∃ k, β id = some k := by
  cases x with
  | cells t cs => obtain ⟨k, _, _, _, _, h1, _⟩ := h; exact ⟨k, h1⟩
  | froz t cs => obtain ⟨k, _, _, _, _, h1, _⟩ := h; exact ⟨k, h1⟩
  | row t es => obtain ⟨k, h1, _⟩ := h; exact ⟨k, h1⟩
theorem BoxR.blk_lt {N : Nat → Prop} {id : Id} {x : Box} (h : BoxR P N hp β id x) {k : Hdr} {b : Nat} (hk : β id = some k) (hb : k.blk = some b) : b < hp.size := by
  have key : ∀ {o : Obj}, hp[b]? = some o → b < hp.size := fun h => by
    rcases Nat.lt_or_ge b hp.size with h' | h'
    · exact h'
    · simp [Array.getElem?_eq_none h'] at h
  have cr : ∀ {cs : List AL}, CellsR P N hp β id cs → b < hp.size := by
    rintro cs ⟨k', b', c, ty, fr, h1, h2, h3, _⟩
    rw [hk] at h1; cases h1; rw [hb] at h2; cases h2; exact key h3
  cases x with
  | cells t cs => exact cr h
  | froz t cs => exact cr h
  | row t es =>
    obtain ⟨k', h1, ts, _, _, _, _, _, h6⟩ := h
    rw [hk] at h1; cases h1
    rcases h6 with ⟨h6, _⟩ | ⟨b', c, ty, fr, g1, g2, _⟩
    · rw [hb] at h6; cases h6
    · rw [hb] at g1; cases g1; exact key g2

/-- more boxes, in new blocks -/
theorem Mem.add_ext (m : Mem P D β B hp) {hp' : Array Obj} (hs : hp.size ≤ hp'.size) (hh : ∀ b, b < hp.size → hp'[b]? = hp[b]?) {id : Id} (hid : β id = none) (x : Box) (h : Hdr)
    (hb : ∀ k, h.blk = some k → hp.size ≤ k) : Ext (NN D β B hp) hp β (NN D (updB β id (some h)) (updB B id (some x)) hp') hp' (updB β id (some h)) := by
  refine ⟨fun b ⟨h1, h2, h3⟩ => ⟨⟨Nat.lt_of_lt_of_le h1 hs, h2, ?_⟩, hh b h1⟩, fun i k hk => ?_⟩
  · rintro ⟨i, y, g, g1, g2, g3, g4⟩
    by_cases e : i = id
    · subst e; rw [updB_same] at g3; cases g3; exact absurd (hb b g4) (by omega)
    · rw [updB_ne _ _ e] at g1 g3; exact h3 ⟨i, y, g, g1, g2, g3, g4⟩
  · rw [updB_ne]; exact hk
    rintro rfl; rw [hid] at hk; cases hk
theorem Mem.add (m : Mem P D β B hp) {hp' : Array Obj} (hs : hp.size ≤ hp'.size) (hh : ∀ b, b < hp.size → hp'[b]? = hp[b]?) {id : Id} (hid : β id = none) (x : Box) (h : Hdr)
    (hb : ∀ k, h.blk = some k → hp.size ≤ k)
    (hx : BoxR P (NN D (updB β id (some h)) (updB B id (some x)) hp') hp' (updB β id (some h)) id x) : Mem P D (updB β id (some h)) (updB B id (some x)) hp' := by
  have e := m.add_ext hs hh hid x h hb
  refine ⟨fun i y hy => ?_, fun i i' y y' g g' k h1 h2 h3 h4 h5 h6 => ?_, fun i y g k h1 h2 h3 hd => ?_, fun k hk => Nat.lt_of_lt_of_le (m.lt k hk) hs⟩
  · rcases updB_some _ _ hy with ⟨rfl, hy'⟩ | ⟨hi, hy'⟩
    · obtain rfl := Option.some.inj hy'; exact hx
    · exact (m.bx i y hy').mono e fun g k h1 h2 => hh k ((m.bx i y hy').blk_lt h1 h2)
  · rcases updB_some _ _ h1 with ⟨rfl, h1'⟩ | ⟨hi, h1'⟩ <;> rcases updB_some _ _ h2 with ⟨rfl, h2'⟩ | ⟨hi', h2'⟩
    · rfl
    · rw [updB_same] at h3; cases h3; rw [updB_ne _ _ hi'] at h4
      have := (m.bx i' y' h2').blk_lt h4 h6; have := hb k h5; omega
    · rw [updB_same] at h4; cases h4; rw [updB_ne _ _ hi] at h3
      have := (m.bx i y h1').blk_lt h3 h5; have := hb k h6; omega
    · rw [updB_ne _ _ hi] at h3; rw [updB_ne _ _ hi'] at h4
      exact m.dj i i' y y' g g' k h1' h2' h3 h4 h5 h6
  · rcases updB_some _ _ h1 with ⟨rfl, h1'⟩ | ⟨hi, h1'⟩
    · rw [updB_same] at h2; cases h2; have := hb k h3; have := m.lt k hd; omega
    · rw [updB_ne _ _ hi] at h2; exact m.dD i y g k h1' h2 h3 hd

/-- a box is gone: nobody writes to its block any more -/
theorem Mem.drop_ext (m : Mem P D β B hp) (id : Id) : Ext (NN D β B hp) hp β (NN D β (updB B id none) hp) hp β := by
  refine ⟨fun b ⟨h1, h2, h3⟩ => ⟨⟨h1, h2, ?_⟩, rfl⟩, fun _ _ h => h⟩
  rintro ⟨i, y, g, g1, g2, g3, g4⟩
  rcases updB_some _ _ g1 with ⟨_, h⟩ | ⟨_, h⟩
  · cases h
  · exact h3 ⟨i, y, g, h, g2, g3, g4⟩
theorem Mem.drop (m : Mem P D β B hp) (id : Id) : Mem P D β (updB B id none) hp := by
  have e := m.drop_ext id
  refine ⟨fun i y hy => ?_, fun i i' y y' g g' k h1 h2 h3 h4 h5 h6 => ?_, fun i y g k h1 h2 h3 hd => ?_, m.lt⟩
  · rcases updB_some _ _ hy with ⟨_, h⟩ | ⟨_, h⟩
    · cases h
    · exact (m.bx i y h).mono e fun _ _ _ _ => rfl
  · rcases updB_some _ _ h1 with ⟨_, h⟩ | ⟨_, h1⟩
    · cases h
    rcases updB_some _ _ h2 with ⟨_, h⟩ | ⟨_, h2⟩
    · cases h
    exact m.dj i i' y y' g g' k h1 h2 h3 h4 h5 h6
  · rcases updB_some _ _ h1 with ⟨_, h⟩ | ⟨_, h1⟩
    · cases h
    exact m.dD i y g k h1 h2 h3 hd
/-- the block of a row that is dropped is nobody's -/
theorem Mem.drop_free (m : Mem P D β B hp) {id : Id} {x : Box} (hx : B id = some x) {h : Hdr} {k : Nat} (hh : β id = some h) (hk : h.blk = some k) : NN D β (updB B id none) hp k := by
  refine ⟨(m.bx id x hx).blk_lt hh hk, m.dD id x h k hx hh hk, ?_⟩
  rintro ⟨i, y, g, g1, _, g3, g4⟩
  rcases updB_some _ _ g1 with ⟨_, h⟩ | ⟨hi, h⟩
  · cases h
  · exact hi (m.dj i id y x g _ k h hx g3 hh g4 hk)

/-- a box is written for the last time -/
theorem Mem.froz_ext (m : Mem P D β B hp) {id : Id} {t : TypeId} {cs : List AL} (_ : B id = some (.cells t cs)) :
    Ext (NN D β B hp) hp β (NN D β (updB B id (some (.froz t cs))) hp) hp β := by
  refine ⟨fun b ⟨h1, h2, h3⟩ => ⟨⟨h1, h2, ?_⟩, rfl⟩, fun _ _ h => h⟩
  rintro ⟨i, y, g, g1, g2, g3, g4⟩
  rcases updB_some _ _ g1 with ⟨_, h⟩ | ⟨_, h⟩
  · cases h; cases g2
  · exact h3 ⟨i, y, g, h, g2, g3, g4⟩
theorem Mem.froz (m : Mem P D β B hp) {id : Id} {t : TypeId} {cs : List AL} (hid : B id = some (.cells t cs)) : Mem P D β (updB B id (some (.froz t cs))) hp := by
  have e := m.froz_ext hid
  have back : ∀ {i y}, updB B id (some (.froz t cs)) i = some y → ∃ y', B i = some y' := by
    intro i y h
    rcases updB_some _ _ h with ⟨rfl, _⟩ | ⟨_, h⟩
    · exact ⟨_, hid⟩
    · exact ⟨_, h⟩
  refine ⟨fun i y hy => ?_, fun i i' y y' g g' k h1 h2 h3 h4 h5 h6 => ?_, fun i y g k h1 h2 h3 hd => ?_, m.lt⟩
  · rcases updB_some _ _ hy with ⟨rfl, h⟩ | ⟨_, h⟩
    · obtain rfl := Option.some.inj h; exact BoxR.mono e (x := .froz t cs) (fun _ _ _ _ => rfl) (show BoxR P _ hp β i (.cells t cs) from m.bx i _ hid)
    · exact (m.bx i y h).mono e fun _ _ _ _ => rfl
  · obtain ⟨z, hz⟩ := back h1; obtain ⟨z', hz'⟩ := back h2
    exact m.dj i i' z z' g g' k hz hz' h3 h4 h5 h6
  · obtain ⟨z, hz⟩ := back h1; exact m.dD i z g k hz h2 h3 hd
theorem Mem.froz_free (m : Mem P D β B hp) {id : Id} {t : TypeId} {cs : List AL} (hid : B id = some (.cells t cs)) {h : Hdr} {k : Nat} (hh : β id = some h) (hk : h.blk = some k) :
    NN D β (updB B id (some (.froz t cs))) hp k := by
  refine ⟨(m.bx id _ hid).blk_lt hh hk, m.dD id _ h k hid hh hk, ?_⟩
  rintro ⟨i, y, g, g1, g2, g3, g4⟩
  rcases updB_some _ _ g1 with ⟨_, h⟩ | ⟨hi, h⟩
  · cases h; cases g2
  · exact hi (m.dj i id y _ g _ k h hid g3 hh g4 hk)
theorem Mem.isfroz_free (m : Mem P D β B hp) {id : Id} {t : TypeId} {cs : List AL} (hid : B id = some (.froz t cs)) {h : Hdr} {k : Nat} (hh : β id = some h) (hk : h.blk = some k) :
    NN D β B hp k := by
  refine ⟨(m.bx id _ hid).blk_lt hh hk, m.dD id _ h k hid hh hk, ?_⟩
  rintro ⟨i, y, g, g1, g2, g3, g4⟩
  have hi := m.dj i id y _ g _ k g1 hid g3 hh g4 hk
  subst hi; rw [hid] at g1; cases g1; cases g2

/-- a box is written: its block turns -/
theorem Mem.set_ext (m : Mem P D β B hp) {id : Id} {x x' : Box} (hx : B id = some x) (hx0 : x.isFroz = false) (hf : x'.isFroz = false) {h : Hdr} {k : Nat} (hh : β id = some h) (hk : h.blk = some k)
    {hp' : Array Obj} (hs : hp'.size = hp.size) (ho : ∀ b, b ≠ k → hp'[b]? = hp[b]?) :
    Ext (NN D β B hp) hp β (NN D β (updB B id (some x')) hp') hp' β := by
  refine ⟨fun b ⟨h1, h2, h3⟩ => ⟨⟨hs ▸ h1, h2, ?_⟩, ho b ?_⟩, fun _ _ h => h⟩
  · rintro ⟨i, y, g, g1, g2, g3, g4⟩
    rcases updB_some _ _ g1 with ⟨rfl, _⟩ | ⟨_, e⟩
    · exact h3 ⟨i, x, g, hx, hx0, g3, g4⟩
    · exact h3 ⟨i, y, g, e, g2, g3, g4⟩
  · rintro rfl; exact h3 ⟨id, x, h, hx, hx0, hh, hk⟩
theorem Mem.set (m : Mem P D β B hp) {id : Id} {x x' : Box} (hx : B id = some x) (hx0 : x.isFroz = false) (hf : x'.isFroz = false) {h : Hdr} {k : Nat} (hh : β id = some h) (hk : h.blk = some k)
    {hp' : Array Obj} (hs : hp'.size = hp.size) (ho : ∀ b, b ≠ k → hp'[b]? = hp[b]?)
    (hx' : BoxR P (NN D β (updB B id (some x')) hp') hp' β id x') : Mem P D β (updB B id (some x')) hp' := by
  have e := m.set_ext hx hx0 hf hh hk hs ho
  have back : ∀ {i y}, updB B id (some x') i = some y → ∃ y', B i = some y' := by
    intro i y h
    rcases updB_some _ _ h with ⟨rfl, _⟩ | ⟨_, h⟩
    · exact ⟨_, hx⟩
    · exact ⟨_, h⟩
  refine ⟨fun i y hy => ?_, fun i i' y y' g g' k h1 h2 h3 h4 h5 h6 => ?_, fun i y g k h1 h2 h3 hd => ?_, fun k hk => hs ▸ m.lt k hk⟩
  · rcases updB_some _ _ hy with ⟨rfl, h⟩ | ⟨hi, h⟩
    · obtain rfl := Option.some.inj h; exact hx'
    · refine (m.bx i y h).mono e fun g b g1 g2 => ho b ?_
      rintro rfl; exact hi (m.dj i id y x g _ b h hx g1 hh g2 hk)
  · obtain ⟨z, hz⟩ := back h1; obtain ⟨z', hz'⟩ := back h2
    exact m.dj i i' z z' g g' k hz hz' h3 h4 h5 h6
  · obtain ⟨z, hz⟩ := back h1; exact m.dD i z g k hz h2 h3 hd

/-- a box gets another name, another header over the same block; the block may turn -/
theorem Mem.move_ext (m : Mem P D β B hp) {id id' : Id} {x : Box} (hx : B id = some x) (hx0 : x.isFroz = false) (hid' : β id' = none) {h h' : Hdr} (hh : β id = some h) (hk : h'.blk = h.blk) (x' : Box) (hf : x'.isFroz = false)
    {hp' : Array Obj} (hs : hp'.size = hp.size) (ho : ∀ b, h.blk ≠ some b → hp'[b]? = hp[b]?) :
    Ext (NN D β B hp) hp β (NN D (updB β id' (some h')) (updB (updB B id none) id' (some x')) hp') hp' (updB β id' (some h')) := by
  refine ⟨fun b ⟨h1, h2, h3⟩ => ⟨⟨hs ▸ h1, h2, ?_⟩, ho b fun e => h3 ⟨id, x, h, hx, hx0, hh, e⟩⟩, fun i k e => ?_⟩
  · rintro ⟨i, y, g, g1, g2, g3, g4⟩
    rcases updB_some _ _ g1 with ⟨rfl, e⟩ | ⟨hi, e⟩
    · rw [updB_same] at g3; cases g3; exact h3 ⟨id, x, h, hx, hx0, hh, hk ▸ g4⟩
    · rcases updB_some _ _ e with ⟨_, e⟩ | ⟨_, e⟩
      · cases e
      · rw [updB_ne _ _ hi] at g3; exact h3 ⟨i, y, g, e, g2, g3, g4⟩
  · rw [updB_ne]; exact e
    rintro rfl; rw [hid'] at e; cases e
theorem Mem.move (m : Mem P D β B hp) {id id' : Id} {x : Box} (hx : B id = some x) (hx0 : x.isFroz = false) (hid' : β id' = none) {h h' : Hdr} (hh : β id = some h) (hk : h'.blk = h.blk) (x' : Box) (hf : x'.isFroz = false)
    {hp' : Array Obj} (hs : hp'.size = hp.size) (ho : ∀ b, h.blk ≠ some b → hp'[b]? = hp[b]?)
    (hx' : BoxR P (NN D (updB β id' (some h')) (updB (updB B id none) id' (some x')) hp') hp' (updB β id' (some h')) id' x') :
    Mem P D (updB β id' (some h')) (updB (updB B id none) id' (some x')) hp' := by
  have e := m.move_ext hx hx0 hid' hh hk x' hf hs ho
  have back : ∀ {i y g k}, updB (updB B id none) id' (some x') i = some y → updB β id' (some h') i = some g → g.blk = some k →
      (i = id' ∧ h.blk = some k) ∨ (i ≠ id' ∧ i ≠ id ∧ B i = some y ∧ β i = some g) := by
    intro i y g k h1 h2 h3
    rcases updB_some _ _ h1 with ⟨rfl, _⟩ | ⟨hi, e⟩
    · rw [updB_same] at h2; cases h2; exact .inl ⟨rfl, hk ▸ h3⟩
    · rcases updB_some _ _ e with ⟨_, e⟩ | ⟨hi2, e⟩
      · cases e
      · rw [updB_ne _ _ hi] at h2; exact .inr ⟨hi, hi2, e, h2⟩
  refine ⟨fun i y hy => ?_, fun i i' y y' g g' k h1 h2 h3 h4 h5 h6 => ?_, fun i y g k h1 h2 h3 hd => ?_, fun k hk => hs ▸ m.lt k hk⟩
  · rcases updB_some _ _ hy with ⟨rfl, e'⟩ | ⟨hi, e'⟩
    · obtain rfl := Option.some.inj e'; exact hx'
    · rcases updB_some _ _ e' with ⟨_, e'⟩ | ⟨hi2, e'⟩
      · cases e'
      · exact (m.bx i y e').mono e fun g k g1 g2 => ho k fun c => hi2 (m.dj i id y x g h k e' hx g1 hh g2 c)
  · rcases back h1 h3 h5 with ⟨rfl, a1⟩ | ⟨a1, a2, a3, a4⟩ <;> rcases back h2 h4 h6 with ⟨rfl, b1⟩ | ⟨b1, b2, b3, b4⟩
    · rfl
    · exact absurd (m.dj i' id y' x g' h k b3 hx b4 hh h6 a1) b2
    · exact absurd (m.dj i id y x g h k a3 hx a4 hh h5 b1) a2
    · exact m.dj i i' y y' g g' k a3 b3 a4 b4 h5 h6
  · rcases back h1 h2 h3 with ⟨rfl, a1⟩ | ⟨a1, a2, a3, a4⟩
    · exact m.dD id x h k hx hh a1 hd
    · exact m.dD i y g k a3 a4 h3 hd
end
end Go.AI
set_option linter.unusedVariables false
namespace Go.AI
open Go

theorem leavesF_under {P : Program} {d : Nat} {t : TypeId} {l : List LTy} (h : leavesF P d t = some l) : ∃ u, P.underlying t = some u := by
  cases d with
  | zero => simp [leavesF] at h
  | succ d =>
    unfold leavesF at h
    cases hu : P.underlying t with
    | none => simp [hu] at h
    | some u => exact ⟨u, rfl⟩
theorem leaves_of {P : Program} {t : TypeId} {ts : List LTy} (h : leaves P t = some ts) : leavesF P 12 t = some ts ∧ ∃ i, P.info? t = some i ∧ i.size = ts.length := by
  unfold leaves at h
  cases h1 : leavesF P 12 t with
  | none => simp [h1] at h
  | some l =>
    cases h2 : P.info? t with
    | none => simp [h1, h2] at h
    | some i =>
      simp only [h1, h2] at h
      cases hb : Nat.beq i.size l.length with
      | false => simp [hb] at h
      | true =>
        simp only [hb, cond_true, Option.some.injEq] at h
        subst h
        exact ⟨rfl, i, rfl, Nat.eq_of_beq_eq_true hb⟩
theorem run_sizeOf {P : Program} {t : TypeId} {ts : List LTy} (h : leaves P t = some ts) (w : World) : (sizeOf t).run P w = .ok ts.length w := by
  obtain ⟨_, i, h1, h2⟩ := leaves_of h
  simp [sizeOf, typeInfo, h1, h2]
theorem run_isAgg {P : Program} {t : TypeId} {ts : List LTy} (h : leaves P t = some ts) (w : World) : (isAgg t).run P w = .ok (isAggB P t) w := by
  obtain ⟨u, hu⟩ := leavesF_under (leaves_of h).1
  unfold isAgg isAggB
  rw [Sem.run_bind, run_underlying hu w, hu]
  cases u <;> simp [Result.andThen]

theorem getD_eq {α : Type} {l : List α} {i : Nat} {d : α} (h : i < l.length) : l.getD i d = l[i] := by simp [List.getD, h]
theorem agetD_eq {α : Type} {l : Array α} {i : Nat} {d : α} (h : i < l.size) : l.getD i d = l[i] := by simp [Array.getD, h]
theorem toArray_getD {α : Type} (l : List α) (i : Nat) (d : α) : l.toArray.getD i d = l.getD i d := by
  by_cases h : i < l.length
  · rw [agetD_eq (by simpa using h), getD_eq h]; simp
  · simp [List.getD, h]

/-- a value made of cells, as a type has it -/
def valOf (P : Program) (t : TypeId) (vs : List Value) : Value := if isAggB P t then .agg vs.toArray else vs.getD 0 undef

theorem run_loadVar {P : Program} {t : TypeId} {ts : List LTy} (h : leaves P t = some ts) (w : World) (b o : Nat) (vs : List Value) (hl : vs.length = ts.length)
    (hc : ∀ i, i < vs.length → cellH w.heap b (o + i) = some (vs.getD i undef)) (h1 : isAggB P t = false → ts.length = 1) :
    (loadVar t ⟨b, o, none⟩).run P w = .ok (valOf P t vs) w := by
  have hadd : ∀ i, (⟨b, o, none⟩ : Addr).add i = ⟨b, o + i, none⟩ := by intro i; unfold Addr.add; split <;> simp_all
  have hcell : ∀ i, i < vs.length → w.cell? ((⟨b, o, none⟩ : Addr).add i) = some (vs.getD i undef) := by
    intro i hi; rw [hadd, cell_cellH]; exact hc i hi
  unfold loadVar valOf
  rw [Sem.run_bind, run_isAgg h w, Result.andThen_ok]
  cases ha : isAggB P t with
  | true =>
    have := run_loadCells (P := P) w ⟨b, o, none⟩ vs.length (fun i => vs.getD i undef) hcell
    simp only [if_true, Sem.run_bind, run_sizeOf h w, Result.andThen_ok, ← hl, this, Sem.run_pure]
    congr 3
    apply List.ext_getElem
    · simp
    · intro i h1 h2; simp [List.getD, h2]
  | false =>
    have h0 := hcell 0 (by rw [hl, h1 ha]; exact Nat.one_pos)
    have : (⟨b, o, none⟩ : Addr).add 0 = ⟨b, o, none⟩ := rfl
    rw [this] at h0
    simp [h0]

def putArr (c : Array Value) (o : Nat) (vs : List Value) : Array Value := (putAt c.toList o vs).toArray
theorem putAt_length {α : Type} (cs : List α) (o : Nat) (ls : List α) (h : o + ls.length ≤ cs.length) : (putAt cs o ls).length = cs.length := by
  simp [putAt]; omega
theorem putAt_getElem? {α : Type} (cs : List α) (o : Nat) (ls : List α) (h : o + ls.length ≤ cs.length) (i : Nat) :
    (putAt cs o ls)[i]? = if i < o then cs[i]? else if i < o + ls.length then ls[i - o]? else cs[i]? := by
  unfold putAt
  by_cases h1 : i < o
  · rw [if_pos h1, List.append_assoc, List.getElem?_append_left (by simp; omega), List.getElem?_take_of_lt h1]
  · rw [if_neg h1]
    by_cases h2 : i < o + ls.length
    · rw [if_pos h2, List.append_assoc, List.getElem?_append_right (by simp; omega), List.getElem?_append_left (by simp; omega)]
      congr 1; simp; omega
    · rw [if_neg h2, List.getElem?_append_right (by simp; omega), List.getElem?_drop]
      congr 1; simp; omega
theorem putAt_getD {α : Type} (cs : List α) (o : Nat) (ls : List α) (h : o + ls.length ≤ cs.length) (i : Nat) (d : α) :
    (putAt cs o ls).getD i d = if i < o then cs.getD i d else if i < o + ls.length then ls.getD (i - o) d else cs.getD i d := by
  simp only [List.getD, putAt_getElem? cs o ls h]; split <;> (try split) <;> rfl
theorem putArr_size (c : Array Value) (o : Nat) (vs : List Value) (h : o + vs.length ≤ c.size) : (putArr c o vs).size = c.size := by
  simp [putArr, putAt_length c.toList o vs (by simpa using h)]

/-- a store of cells into a block -/
theorem run_storeCells {P : Program} (b o : Nat) (ty : TypeId) (fr : Nat × Nat) : ∀ (vs : List Value) (i : Nat) (c : Array Value) (w : World), w.heap[b]? = some (.cells c ty fr) → unfro c fr →
    o + i + vs.length ≤ c.size → (∀ v, v ∈ vs → v.oneCell' = true) →
    ∃ w', (storeCells ⟨b, o, none⟩ vs i).run P w = .ok () w' ∧ w'.heap.size = w.heap.size ∧ (∀ k, k ≠ b → w'.heap[k]? = w.heap[k]?) ∧ w'.heap[b]? = some (.cells (putArr c (o + i) vs) ty fr) ∧ Env w w' := by
  intro vs
  induction vs with
  | nil =>
    intro i c w hb hu hs hv
    refine ⟨w, by simp [storeCells], rfl, fun _ _ => rfl, ?_⟩
    exact ⟨by rw [hb]; congr 2; simp [putArr, putAt], Env.refl w⟩
  | cons v vs ih =>
    intro i c w hb hu hs hv
    simp only [List.length_cons] at hs
    have hadd : (⟨b, o, none⟩ : Addr).add i = ⟨b, o + i, none⟩ := by unfold Addr.add; split <;> simp_all
    have hcell : w.cell? ⟨b, o + i, none⟩ = some (c[o + i]'(by omega)) := by rw [cell_cellH, cellH_of hb]; simp
    have hfz : w.frozen? ⟨b, o + i, none⟩ = false := by
      unfold World.frozen?; simp only [hb]
      have := hu (o + i) (by omega)
      simp only [Bool.and_eq_false_iff, decide_eq_false_iff_not]
      by_cases h : fr.1 ≤ o + i
      · exact .inr fun h' => this ⟨h, h'⟩
      · exact .inl h
    have hset : (w.setCell ⟨b, o + i, none⟩ v).heap[b]? = some (.cells (c.setIfInBounds (o + i) v) ty fr) := by
      simp [World.setCell, Array.getElem?_modify, hb]
    obtain ⟨w', h1, h2, h3, h4, h5⟩ := ih (i + 1) (c.setIfInBounds (o + i) v) (w.setCell ⟨b, o + i, none⟩ v) hset
      (fun k hk => hu k (by simpa using hk)) (by simp; omega) (fun x hx => hv x (List.mem_cons_of_mem _ hx))
    refine ⟨w', ?_, by rw [h2]; simp, fun k hk => ?_, ?_, Env.trans ⟨rfl, rfl⟩ h5⟩
    · simp only [storeCells, Sem.run_bind, hadd, run_store P w _ v .plain (hv v (List.mem_cons_self ..)), hcell, hfz, Bool.false_eq_true, if_false, Result.andThen_ok]
      exact h1
    · rw [h3 k hk]
      simp [World.setCell, Array.getElem?_modify, Ne.symm hk]
    · rw [h4]; congr 2
      unfold putArr
      congr 1
      apply List.ext_getElem?
      intro k
      rw [putAt_getElem? _ _ _ (by simp; omega), putAt_getElem? _ _ _ (by simp; omega)]
      simp only [Array.toList_setIfInBounds, List.getElem?_set, List.length_cons]
      by_cases e : k = o + i
      · subst e
        rw [if_pos (by omega), if_pos rfl, if_pos (by simp; omega), if_neg (by omega), if_pos (by omega)]; simp
      · by_cases e1 : k < o + i
        · rw [if_pos (by omega), if_neg (Ne.symm e), if_pos e1]
        · rw [if_neg (by omega), if_neg e1]
          by_cases e2 : k < o + i + (vs.length + 1)
          · rw [if_pos (by omega), if_pos e2]
            rw [show k - (o + i) = (k - (o + (i + 1))) + 1 by omega, List.getElem?_cons_succ]
          · rw [if_neg (by omega), if_neg e2, if_neg (Ne.symm e)]

theorem run_storeVar {P : Program} {t : TypeId} {ts : List LTy} (h : leaves P t = some ts) {w : World} {b o : Nat} {ty : TypeId} {fr : Nat × Nat} {c : Array Value} (hb : w.heap[b]? = some (.cells c ty fr))
    (hu : unfro c fr) {v : Value} {vs : List Value} (hv : v.cells = vs.toArray) (hl : vs.length = ts.length) (ho : o + vs.length ≤ c.size) (h1 : ∀ v, v ∈ vs → v.oneCell' = true) :
    ∃ w', (storeVar t ⟨b, o, none⟩ v).run P w = .ok () w' ∧ w'.heap.size = w.heap.size ∧ (∀ k, k ≠ b → w'.heap[k]? = w.heap[k]?) ∧ w'.heap[b]? = some (.cells (putArr c o vs) ty fr) ∧ Env w w' := by
  obtain ⟨w', g1, g2, g3, g4, g5⟩ := run_storeCells (P := P) b o ty fr vs 0 c w hb hu (by omega) h1
  refine ⟨w', ?_, g2, g3, g4, g5⟩
  unfold storeVar
  simp only [Sem.run_bind, run_sizeOf h w, Result.andThen_ok, hv, List.size_toArray, hl, ne_eq, not_true_eq_false, if_false]
  exact g1
end Go.AI
set_option linter.unusedVariables false
namespace Go.AI
open Go

/-! ### operands -/
def St.ev (st : St) : Operand → AV
  | .tmp t => st.tmps t
  | .const (.agg cs) => bif cs.toList.all Value.oneCell' then .agg (cs.toList.map ofConst) else .any
  | .const v => bif v.oneCell' then .v (ofConst v) else .any
  | .func f => .v (.fn f [])
  | .global _ => .any
section
variable {α : Type} (call : CallF) (st : St) (K : St → Option α)
theorem run_evK (o : Operand) (k : AV → Acc) : (evK o k).run call st K = (k (st.ev o)).run call st K := by
  cases o with
  | tmp t => rfl
  | const v => cases v <;> rfl
  | global g => rfl
  | func f => rfl
theorem run_evsK : ∀ (os : List Operand) (k : List AV → Acc), (evsK os k).run call st K = (k (os.map st.ev)).run call st K
  | [], k => rfl
  | o :: os, k => by simp only [evsK, run_evK, run_evsK os, List.map_cons]
theorem run_orFail {β : Type} {o : Option β} {k : β → Acc} {res : α} (h : (orFail o k).run call st K = some res) : ∃ x, o = some x ∧ (k x).run call st K = some res := by
  cases o with
  | none => simp [orFail, Acc.run] at h
  | some x => exact ⟨x, rfl, h⟩
theorem run_test {b : Bool} {k : Acc} {res : α} (h : (Acc.test b k).run call st K = some res) : b = true ∧ k.run call st K = some res := by
  cases b with
  | false => simp [Acc.run] at h
  | true => exact ⟨rfl, h⟩
theorem run_getB {id : Id} {k : Option Box → Acc} : (Acc.getB id k).run call st K = (k (st.boxes id)).run call st K := rfl
theorem run_setB {id : Id} {b : Option Box} {k : Acc} {res : α} (h : (Acc.setB id b k).run call st K = some res) : k.run call (st.setB id b) K = some res := by
  simp only [Acc.run] at h
  cases hb : (!st.q || id.fresh st.r) with
  | false => simp [hb] at h
  | true => simpa [hb] using h
end

theorem LR_ofConst (P : Program) (N : Nat → Prop) (hp : Array Obj) (β : GM) (v : Value) (h : v.oneCell' = true) : LR P N hp β (ofConst v) v := by
  unfold ofConst
  split
  · rfl
  · rfl
  · exact ⟨_, rfl, rfl⟩
  · exact ⟨none, rfl⟩
  · rfl
  · exact h

section
variable {P : Program} {h0 : Array Obj} {W : Wr} {D : Nat → Prop} {β : GM} {S : Nat → Prop} {st : St} {a : Act} {w : World}

theorem Rel.ev (R : Rel P h0 W D β S st a w) (o : Operand) : VR P (NN D β st.boxes w.heap) w.heap β (st.ev o) (a.eval o) := by
  cases o with
  | tmp t => exact R.tm t
  | global g => exact .any _
  | func f => exact .v _ _ ⟨[], rfl, rfl, fun i hi => absurd hi (Nat.not_lt_zero _)⟩
  | const v =>
    have key : ∀ v : Value, VR P (NN D β st.boxes w.heap) w.heap β (bif v.oneCell' then .v (ofConst v) else .any) v := by
      intro v
      cases h : v.oneCell' with
      | true => exact .v _ _ (LR_ofConst _ _ _ _ v h)
      | false => exact .any _
    show VR _ _ _ _ (st.ev (.const v)) v
    unfold St.ev
    split
    · rename_i h; cases h
    · rename_i cs h
      cases h
      cases hb : cs.toList.all Value.oneCell' with
      | false => exact .any _
      | true =>
        have := VR.agg (P := P) (N := NN D β st.boxes w.heap) (hp := w.heap) (β := β) (cs.toList.map ofConst) cs.toList (by simp) (fun i hi => by
          have hi' : i < cs.toList.length := by simpa using hi
          rw [getD_eq hi, getD_eq hi', List.getElem_map]
          exact LR_ofConst _ _ _ _ _ (List.all_eq_true.1 hb _ (List.getElem_mem hi')))
        simpa using this
    · rename_i h; cases h; exact key _
    · rename_i h; cases h
    · rename_i h; cases h
theorem Rel.evs (R : Rel P h0 W D β S st a w) (os : List Operand) : ∀ i, i < os.length → VR P (NN D β st.boxes w.heap) w.heap β ((os.map st.ev).getD i .any) ((os.map a.eval).getD i undef) := by
  intro i hi
  rw [getD_eq (by simpa using hi), getD_eq (by simpa using hi), List.getElem_map, List.getElem_map]
  exact R.ev _

theorem VR.cells {N : Nat → Prop} {hp : Array Obj} {x : AV} {v : Value} (h : VR P N hp β x v) {ls : List AL} (hl : x.ls = some ls) :
    ∃ vs : List Value, v.cells = vs.toArray ∧ vs.length = ls.length ∧ (∀ i, i < ls.length → LR P N hp β (ls.getD i .dead) (vs.getD i undef)) ∧ ∀ u, u ∈ vs → u.oneCell' = true := by
  have one : ∀ {ls : List AL} {vs : List Value}, vs.length = ls.length → (∀ i, i < ls.length → LR P N hp β (ls.getD i .dead) (vs.getD i undef)) → ∀ u, u ∈ vs → u.oneCell' = true := by
    intro ls vs h1 h2 u hu
    obtain ⟨i, hi, rfl⟩ := List.mem_iff_getElem.1 hu
    have := (h2 i (h1 ▸ hi)).one
    rwa [getD_eq hi] at this
  cases h with
  | v l v h =>
    cases hl
    have h2 : ∀ i, i < [l].length → LR P N hp β ([l].getD i .dead) ([v].getD i undef) := by
      intro i hi
      have : i = 0 := by simpa using hi
      subst this; exact h
    refine ⟨[v], ?_, rfl, h2, one rfl h2⟩
    have := h.one
    cases v <;> first | rfl | (simp [Value.oneCell'] at this)
  | agg ls' vs hl' h => cases hl; exact ⟨vs, rfl, hl', h, one hl' h⟩
  | tup as vs hl' h => cases hl
  | und => cases hl
  | any v => cases hl
theorem VR.leaf {N : Nat → Prop} {hp : Array Obj} {l : AL} {v : Value} (h : VR P N hp β (.v l) v) : LR P N hp β l v := by cases h; assumption
theorem VR.mk {N : Nat → Prop} {hp : Array Obj} {t : TypeId} {ls : List AL} {x : AV} (h : mkAV P t ls = some x) {vs : List Value} (hl : vs.length = ls.length)
    (hv : ∀ i, i < ls.length → LR P N hp β (ls.getD i .dead) (vs.getD i undef)) : VR P N hp β x (valOf P t vs) ∧ (isAggB P t = false → ls.length = 1) := by
  unfold mkAV at h
  unfold valOf
  cases ha : isAggB P t with
  | true => simp only [ha, cond_true, Option.some.injEq] at h; subst h; exact ⟨.agg ls vs hl hv, fun h => by cases h⟩
  | false =>
    simp only [ha, cond_false] at h
    split at h
    · cases h; exact ⟨.v _ _ (by simpa using hv 0 (by simp)), fun _ => rfl⟩
    · cases h

/-- the heap turns beneath a state -/
theorem Rel.step (R : Rel P h0 W D β S st a w) {B' : Id → Option Box} {β' : GM} {w' : World} (m : Mem P D β' B' w'.heap)
    (e : Ext (NN D β st.boxes w.heap) w.heap β (NN D β' B' w'.heap) w'.heap β') (fr : Frame W β' B' h0 w'.heap) (fh : Fresh β' st.r S) (hz : ∀ r i x, B' (.z r i x) = none) (en : Env w w') :
    Rel P h0 W D β' S { st with boxes := B' } a w' :=
  ⟨m, fh, fr, fun t => (R.tm t).mono e, R.nt, R.df, hz, R.en.trans en⟩
theorem Rel.world (R : Rel P h0 W D β S st a w) {w' : World} (h : w'.heap = w.heap) (en : Env w w') : Rel P h0 W D β S st a w' :=
  ⟨h ▸ R.mem, R.fresh, h ▸ R.frame, fun t => by rw [h]; exact R.tm t, R.nt, R.df, R.nz, R.en.trans en⟩
theorem Rel.weaken (R : Rel P h0 W D β S st a w) {S' : Nat → Prop} (h : ∀ i, S i → S' i) : Rel P h0 W D β S' st a w :=
  ⟨R.mem, fun r i hi => R.fresh r i (hi.imp id fun ⟨x, y⟩ => ⟨x, fun z => y (h i z)⟩), R.frame, R.tm, R.nt, R.df, R.nz, R.en⟩

theorem Rel.set (R : Rel P h0 W D β S st a w) (d : Nat) {x : AV} {v : Value} (h : VR P (NN D β st.boxes w.heap) w.heap β x v) (hd : d < st.nt) :
    Rel P h0 W D β S (st.set d x) (a.put (some d) v) w := by
  refine ⟨R.mem, R.fresh, R.frame, fun t => ?_, ?_, R.df, R.nz, R.en⟩
  · show VR _ _ _ _ (bif Nat.beq t d then x else st.tmps t) ((a.tmps.setIfInBounds d v).getD t undef)
    by_cases e : t = d
    · subst e
      have : t < a.tmps.size := by rw [R.nt]; exact hd
      simp [Array.getD, this]; exact h
    · have hb : Nat.beq t d = false := by
        cases hb : Nat.beq t d
        · rfl
        · exact absurd (Nat.eq_of_beq_eq_true hb) e
      rw [hb, cond_false]
      have := R.tm t
      have e2 : (a.tmps.setIfInBounds d v).getD t undef = a.tmps.getD t undef := by
        simp only [Array.getD_eq_getD_getElem?, Array.getElem?_setIfInBounds]
        rw [if_neg (Ne.symm e)]
      rw [e2]; exact this
  · show (a.tmps.setIfInBounds d v).size = st.nt
    simpa using R.nt

theorem pn_upd {β : GM} {id : Id} {h : Option Hdr} (hp : id.isP = false) (i : Nat) : updB β id h (.p i) = β (.p i) := by
  rw [updB_ne]
  rintro rfl; cases hp
theorem Frame.add (f : Frame W β st.boxes h0 w.heap) {hp' : Array Obj} (hs : w.heap.size ≤ hp'.size) (hh : ∀ b, b < w.heap.size → hp'[b]? = w.heap[b]?) {id : Id} {x : Box} {h : Hdr}
    (hb : ∀ k, h.blk = some k → w.heap.size ≤ k) (hip : id.isP = false) : Frame W (updB β id (some h)) (updB st.boxes id (some x)) h0 hp' := by
  refine ⟨Nat.le_trans f.sz hs, fun b h1 h2 => (hh b (Nat.lt_of_lt_of_le h1 f.sz)).trans (f.same b h1 h2), fun i y g k h1 h2 h3 h4 => ?_, fun i h => by rw [pn_upd hip]; exact f.pn i h⟩
  rcases updB_some _ _ h1 with ⟨rfl, _⟩ | ⟨hi, e⟩
  · rw [updB_same] at h2; cases h2; have := hb k h3; have := f.sz; omega
  · rw [updB_ne _ _ hi] at h2; exact f.own i y g k e h2 h3 h4
theorem Fresh.upd' {r : Nat} (f : Fresh β r S) {id : Id} {h : Option Hdr} (hid : Old r S id) : Fresh (updB β id h) r S := by
  intro r' i hh
  have ne : ∀ c, Id.n r' i c ≠ id := by
    rintro c rfl
    rcases hid with h1 | ⟨h1, h2⟩ <;> rcases hh with h3 | ⟨h3, h4⟩
    · omega
    · omega
    · omega
    · exact h4 h2
  have ne2 : ∀ x, Id.z r' i x ≠ id := by
    rintro x rfl
    rcases hid with h1 | ⟨h1, h2⟩ <;> rcases hh with h3 | ⟨h3, h4⟩
    · omega
    · omega
    · omega
    · exact h4 h2
  exact ⟨fun c => by rw [updB_ne _ _ (ne c)]; exact (f r' i hh).1 c, fun x => by rw [updB_ne _ _ (ne2 x)]; exact (f r' i hh).2 x⟩
theorem Fresh.upd {r : Nat} (f : Fresh β r S) {id : Id} {h : Option Hdr} (hid : IdOk r S id) : Fresh (updB β id h) r S := f.upd' hid.1
theorem ne_z {id : Id} (h : id.isZ = false) (r i : Nat) (x : Id) : Id.z r i x ≠ id := by rintro rfl; cases h

/-- a new box -/
theorem Rel.add (R : Rel P h0 W D β S st a w) {w' : World} (hs : w.heap.size ≤ w'.heap.size) (hh : ∀ b, b < w.heap.size → w'.heap[b]? = w.heap[b]?) (en : Env w w') {id : Id} (hid : β id = none)
    (hS : IdOk st.r S id) (x : Box) (h : Hdr) (hb : ∀ k, h.blk = some k → w.heap.size ≤ k)
    (hx : BoxR P (NN D (updB β id (some h)) (updB st.boxes id (some x)) w'.heap) w'.heap (updB β id (some h)) id x) :
    Rel P h0 W D (updB β id (some h)) S (st.setB id (some x)) a w' :=
  R.step (R.mem.add hs hh hid x h hb hx) (R.mem.add_ext hs hh hid x h hb) (R.frame.add hs hh hb hS.2.2) (R.fresh.upd hS) (fun r i y => (updB_ne st.boxes (some x) (ne_z hS.2.1 r i y)).trans (R.nz r i y)) en
theorem updB_nz (hz : ∀ r i x, st.boxes (.z r i x) = none) {id : Id} {x : Box} (hx : st.boxes id = some x) (y : Option Box) (r i : Nat) (u : Id) : updB st.boxes id y (.z r i u) = none := by
  rw [updB_ne]; exact hz r i u
  rintro rfl; rw [hz] at hx; cases hx
theorem Rel.drop (R : Rel P h0 W D β S st a w) (id : Id) : Rel P h0 W D β S (st.setB id none) a w := by
  refine R.step (R.mem.drop id) (R.mem.drop_ext id) ⟨R.frame.sz, R.frame.same, fun i y g k h1 h2 h3 h4 => ?_, R.frame.pn⟩ R.fresh (fun r i u => by
    by_cases e : Id.z r i u = id
    · subst e; exact updB_same st.boxes _ _
    · exact (updB_ne st.boxes none e).trans (R.nz r i u)) (Env.refl w)
  rcases updB_some _ _ h1 with ⟨_, e⟩ | ⟨_, e⟩
  · cases e
  · exact R.frame.own i y g k e h2 h3 h4
theorem Rel.froz (R : Rel P h0 W D β S st a w) {id : Id} {t : TypeId} {cs : List AL} (hid : st.boxes id = some (.cells t cs)) : Rel P h0 W D β S (st.setB id (some (.froz t cs))) a w := by
  refine R.step (R.mem.froz hid) (R.mem.froz_ext hid) ⟨R.frame.sz, R.frame.same, fun i y g k h1 h2 h3 h4 => ?_, R.frame.pn⟩ R.fresh (updB_nz R.nz hid _) (Env.refl w)
  rcases updB_some _ _ h1 with ⟨rfl, _⟩ | ⟨_, e⟩
  · exact R.frame.own i _ g k hid h2 h3 h4
  · exact R.frame.own i y g k e h2 h3 h4
theorem Rel.upd (R : Rel P h0 W D β S st a w) {id : Id} {x x' : Box} (hx : st.boxes id = some x) (hx0 : x.isFroz = false) (hf : x'.isFroz = false) {h : Hdr} {k : Nat} (hh : β id = some h) (hk : h.blk = some k)
    {w' : World} (en : Env w w') (hs : w'.heap.size = w.heap.size) (ho : ∀ b, b ≠ k → w'.heap[b]? = w.heap[b]?)
    (hx' : BoxR P (NN D β (updB st.boxes id (some x')) w'.heap) w'.heap β id x') : Rel P h0 W D β S (st.setB id (some x')) a w' := by
  refine R.step (R.mem.set hx hx0 hf hh hk hs ho hx') (R.mem.set_ext hx hx0 hf hh hk hs ho)
    ⟨hs ▸ R.frame.sz, fun b h1 h2 => (ho b ?_).trans (R.frame.same b h1 h2), fun i y g k' h1 h2 h3 h4 => ?_, R.frame.pn⟩ R.fresh (updB_nz R.nz hx _) en
  · rintro rfl; exact h2 (R.frame.own id x h b hx hh hk h1)
  · rcases updB_some _ _ h1 with ⟨rfl, _⟩ | ⟨_, e⟩
    · exact R.frame.own i x g k' hx h2 h3 h4
    · exact R.frame.own i y g k' e h2 h3 h4
theorem Rel.move (R : Rel P h0 W D β S st a w) {id id' : Id} {x : Box} (hx : st.boxes id = some x) (hx0 : x.isFroz = false) (hid' : β id' = none)
    (hS : IdOk st.r S id') {h h' : Hdr} (hh : β id = some h) (hk : h'.blk = h.blk) (x' : Box) (hf : x'.isFroz = false)
    {w' : World} (en : Env w w') (hs : w'.heap.size = w.heap.size) (ho : ∀ b, h.blk ≠ some b → w'.heap[b]? = w.heap[b]?)
    (hx' : BoxR P (NN D (updB β id' (some h')) (updB (updB st.boxes id none) id' (some x')) w'.heap) w'.heap (updB β id' (some h')) id' x') :
    Rel P h0 W D (updB β id' (some h')) S ((st.setB id none).setB id' (some x')) a w' := by
  refine R.step (B' := updB (updB st.boxes id none) id' (some x')) (R.mem.move hx hx0 hid' hh hk x' hf hs ho hx') (R.mem.move_ext hx hx0 hid' hh hk x' hf hs ho)
    ⟨hs ▸ R.frame.sz, fun b h1 h2 => (ho b ?_).trans (R.frame.same b h1 h2), fun i y g k h1 h2 h3 h4 => ?_, fun i h => by rw [pn_upd hS.2.2]; exact R.frame.pn i h⟩ (R.fresh.upd hS) (fun r i u => (updB_ne (updB st.boxes id none) (some x') (ne_z hS.2.1 r i u)).trans (updB_nz R.nz hx _ r i u)) en
  · exact fun e => h2 (R.frame.own id x h b hx hh e h1)
  · rcases updB_some _ _ h1 with ⟨rfl, _⟩ | ⟨hi, e⟩
    · rw [updB_same] at h2; cases h2; exact R.frame.own id x h k hx hh (hk ▸ h3) h4
    · rcases updB_some _ _ e with ⟨_, e⟩ | ⟨_, e⟩
      · cases e
      · rw [updB_ne _ _ hi] at h2; exact R.frame.own i y g k e h2 h3 h4
end

/-! ### what an operation has to bring about -/
def Good {α : Type} (P : Program) (h0 : Array Obj) (W : Wr) (D : Nat → Prop) (S : Nat → Prop) (r : Nat) (q : Bool) (K : St → Option α) (res : α) (a : Act) (w : World) : Prop :=
  ∃ st β, Rel P h0 W D β S st a w ∧ st.r = r ∧ st.q = q ∧ K st = some res

section
variable {α : Type} {P : Program} {h0 : Array Obj} {W : Wr} {D : Nat → Prop} {β : GM} {S : Nat → Prop} {st : St} {a : Act} {w : World} {call : CallF} {K : St → Option α} {res : α}
theorem Rel.good_put (R : Rel P h0 W D β S st a w) {d : Option Tmp} {x : AV} {v : Value} (hx : VR P (NN D β st.boxes w.heap) w.heap β x v)
    (h : (putK d x .done).run call st K = some res) : Good P h0 W D S st.r st.q K res (a.put d v) w := by
  cases d with
  | none => exact ⟨st, β, R, rfl, rfl, h⟩
  | some d =>
    simp only [putK, Acc.run] at h
    cases hb : Nat.blt d st.nt with
    | false => simp [hb] at h
    | true =>
      simp only [hb, cond_true] at h
      exact ⟨st.set d x, β, R.set d hx (by simpa [Nat.blt_eq] using hb), rfl, rfl, h⟩
end
theorem wp_val {P : Program} {o : Oper} {a : Act} {w w' : World} {next : Act → World → Prop} {Q : Exit → Act → World → Prop} {v : Value}
    (h : (execOp a.eval o).run P w = .ok (.value v) w') (hn : next (a.put o.dst v) w') : o.wp P a w next Q := by
  unfold Oper.wp; rw [h]; exact hn
/-- what runs programs of steps -/
structure Ev (ev : Acc → St → Prop) : Prop where
  getT : ∀ {t k st}, ev (.getT t k) st → ev (k (st.tmps t)) st
  getB : ∀ {id k st}, ev (.getB id k) st → ev (k (st.boxes id)) st
  setB : ∀ {id b k st}, ev (.setB id b k) st → ev k (st.setB id b)
  test : ∀ {b k st}, ev (.test b k) st → b = true ∧ ev k st
  fail : ∀ {st}, ¬ ev .fail st
theorem Ev.orFail {ev : Acc → St → Prop} (E : Ev ev) {γ : Type} {o : Option γ} {k : γ → Acc} {st : St} (h : ev (Go.AI.orFail o k) st) : ∃ x, o = some x ∧ ev (k x) st := by
  cases o with
  | none => exact absurd h E.fail
  | some x => exact ⟨x, rfl, h⟩
theorem Ev.run {α : Type} (call : CallF) (K : St → Option α) (res : α) : Ev fun x st => x.run call st K = some res :=
  ⟨fun h => h, fun h => h, fun h => run_setB _ _ _ h, fun h => run_test _ _ _ h, fun h => by simp [Acc.run] at h⟩
theorem Ev.fin (res : Res) : Ev fun x st => finish.finA x st = some res := by
  refine ⟨fun h => h, fun h => h, fun h => h, fun {b k st} h => ?_, fun h => by simp [finish.finA] at h⟩
  cases b with
  | false => simp [finish.finA] at h
  | true => exact ⟨rfl, h⟩
end Go.AI
set_option linter.unusedVariables false
namespace Go.AI
open Go

section
variable {α : Type} {P : Program} {A : Ann} {F : FuncId} {h0 : Array Obj} {W : Wr} {D : Nat → Prop} {β : GM} {S : Nat → Prop} {st : St} {a : Act} {w : World} {call : CallF} {K : St → Option α} {res : α}
  {o : Oper} {j : Nat} {Q : Exit → Act → World → Prop}

theorem op_move (R : Rel P h0 W D β S st a w) {x : Operand} (ho : o.op = .move x ∨ o.op = .assign x) (h : (evK x fun v => putK o.dst v .done).run call st K = some res) :
    o.wp P a w (Good P h0 W D S st.r st.q K res) Q := by
  rw [run_evK] at h
  refine wp_val (v := a.eval x) (w' := w) ?_ (R.good_put (R.ev x) h)
  rcases ho with ho | ho <;> simp [execOp, ho]

theorem op_pick (R : Rel P h0 W D β S st a w) {c x y : Operand} (ho : o.op = .pick c x y) (h : (opK P A F o st.r j).run call st K = some res) :
    o.wp P a w (Good P h0 W D S st.r st.q K res) Q := by
  simp only [opK, ho, run_evK] at h
  have hc := R.ev c
  split at h
  case h_2 => simp [Acc.run] at h
  rename_i t e
  rw [e] at hc
  have hv : a.eval c = .bool t := hc.leaf
  simp only [Acc.run] at h
  cases t with
  | true =>
    simp only [cond_true, run_evK] at h
    exact wp_val (v := a.eval x) (w' := w) (by simp [execOp, ho, hv, asBool]) (R.good_put (R.ev x) h)
  | false =>
    simp only [cond_false, run_evK] at h
    exact wp_val (v := a.eval y) (w' := w) (by simp [execOp, ho, hv, asBool]) (R.good_put (R.ev y) h)

theorem zeroL_of {e : TypeId} {z : List AL} (h : zeroL P e = some z) : ∃ i zv, P.info? e = some i ∧ i.zero = some zv ∧ (∀ u, u ∈ zv.cells.toList → u.oneCell' = true) ∧ z = zv.cells.toList.map ofConst := by
  unfold zeroL at h
  cases h1 : P.info? e with
  | none => simp [h1] at h
  | some i =>
    simp only [h1] at h
    cases h2 : i.zero with
    | none => simp [h2] at h
    | some zv =>
      simp only [h2] at h
      cases hb : zv.cells.toList.all Value.oneCell' with
      | false => simp [hb] at h
      | true =>
        simp only [hb, cond_true, Option.some.injEq] at h
        exact ⟨i, zv, rfl, h2, fun u hu => List.all_eq_true.1 hb u hu, h.symm⟩
theorem run_zeroValue' {e : TypeId} {i : TypeInfo} {zv : Value} (h1 : P.info? e = some i) (h2 : i.zero = some zv) (w : World) : (zeroValue e).run P w = .ok zv w := by
  simp [zeroValue, typeInfo, h1, h2]
theorem zeroL_LR {N : Nat → Prop} {hp : Array Obj} {β : GM} {zs : List Value} (h : ∀ u, u ∈ zs → u.oneCell' = true) (i : Nat) (hi : i < zs.length) :
    LR P N hp β ((zs.map ofConst).getD i .dead) (zs.getD i undef) := by
  rw [getD_eq (by simpa using hi), getD_eq hi, List.getElem_map]
  exact LR_ofConst _ _ _ _ _ (h _ (List.getElem_mem hi))

theorem unfro00 (c : Array Value) : unfro c (0, 0) := fun o _ h => by omega

/-- a new variable -/
theorem Rel.var (R : Rel P h0 W D β S st a w) (hj : S j) (hf : ∀ c, β (.n st.r j c) = none) (e : TypeId) {ls : List AL} {vs : List Value} (hl : vs.length = ls.length)
    (hv : ∀ i, i < ls.length → LR P (NN D β st.boxes w.heap) w.heap β (ls.getD i .dead) (vs.getD i undef)) (c : Nat) :
    Rel P h0 W D (updB β (.n st.r j c) (some ⟨some w.heap.size, 0, 0, 0⟩)) S (st.setB (.n st.r j c) (some (.cells e ls))) a (w.alloc (.cells vs.toArray e)) := by
  have hs : w.heap.size ≤ (w.alloc (.cells vs.toArray e)).heap.size := by simp
  have hh : ∀ b, b < w.heap.size → (w.alloc (.cells vs.toArray e)).heap[b]? = w.heap[b]? := fun b hb => by
    show (w.heap.push _)[b]? = _; rw [Array.getElem?_push, if_neg (Nat.ne_of_lt hb)]
  have hb : ∀ k, (⟨some w.heap.size, 0, 0, 0⟩ : Hdr).blk = some k → w.heap.size ≤ k := fun k hk => by cases hk; exact Nat.le_refl _
  have ex := R.mem.add_ext hs hh (hf c) (.cells e ls) ⟨some w.heap.size, 0, 0, 0⟩ hb
  refine R.add hs hh ⟨rfl, rfl⟩ (hf c) ⟨.inr ⟨rfl, hj⟩, rfl, rfl⟩ _ _ hb ?_
  refine ⟨_, w.heap.size, vs.toArray, e, (0, 0), updB_same _ _ _, rfl, ?_, unfro00 _, by simpa using hl, fun i hi => ?_⟩
  · show (w.heap.push _)[w.heap.size]? = _; simp
  · rw [toArray_getD]; exact (hv i hi).mono ex

theorem ptr_self {N : Nat → Prop} {hp : Array Obj} {β : GM} {id : Id} {b : Nat} {l c s : Nat} (off : Nat) : LR P N hp (updB β id (some ⟨some b, l, c, s⟩)) (.ptr id off) (.pointer (some ⟨b, off, none⟩)) :=
  ⟨_, b, updB_same _ _ _, rfl, rfl⟩

theorem op_alloc (R : Rel P h0 W D β S st a w) (hj : S j) (hf : ∀ c, β (.n st.r j c) = none) {e : TypeId} (ho : o.op = .alloc e) (h : (opK P A F o st.r j).run call st K = some res) :
    o.wp P a w (Good P h0 W D S st.r st.q K res) Q := by
  simp only [opK, ho] at h
  obtain ⟨z, hz, h⟩ := run_orFail _ _ _ h
  have h := run_setB _ _ _ h
  obtain ⟨i, zv, h1, h2, h3, rfl⟩ := zeroL_of hz
  have R' := R.var hj hf e (ls := zv.cells.toList.map ofConst) (vs := zv.cells.toList) (by simp) (fun i hi => zeroL_LR h3 i (by simpa using hi)) 0
  refine wp_val (v := .pointer (some ⟨w.heap.size, 0, none⟩)) (w' := w.alloc (.cells zv.cells.toList.toArray e)) ?_ (R'.good_put (.v _ _ (ptr_self 0)) h)
  simp [execOp, ho, Instr.alloc, run_zeroValue' h1 h2, newVar, newRow]

theorem op_box (R : Rel P h0 W D β S st a w) (hj : S j) (hf : ∀ c, β (.n st.r j c) = none) {e : TypeId} {x : Operand} (ho : o.op = .box e x) (h : (opK P A F o st.r j).run call st K = some res) :
    o.wp P a w (Good P h0 W D S st.r st.q K res) Q := by
  simp only [opK, ho, run_evK] at h
  obtain ⟨ls, hls, h⟩ := run_orFail _ _ _ h
  obtain ⟨ts, hts, h⟩ := run_orFail _ _ _ h
  obtain ⟨_, h⟩ := run_test _ _ _ h
  have h := run_setB _ _ _ h
  obtain ⟨vs, h1, h2, h3, h4⟩ := (R.ev x).cells hls
  have R' := R.var hj hf e h2 h3 0
  refine wp_val (v := .pointer (some ⟨w.heap.size, 0, none⟩)) (w' := w.alloc (.cells vs.toArray e)) ?_ (R'.good_put (.v _ _ (ptr_self 0)) h)
  simp [execOp, ho, Instr.box, newVar, newRow, h1]

theorem op_nilCheck (R : Rel P h0 W D β S st a w) {x : Operand} (ho : o.op = .nilCheck x) (h : (opK P A F o st.r j).run call st K = some res) :
    o.wp P a w (Good P h0 W D S st.r st.q K res) Q := by
  simp only [opK, ho, run_evK] at h
  have hx := R.ev x
  split at h
  case h_2 => simp [Acc.run] at h
  rename_i id n e
  rw [e] at hx
  obtain ⟨_, b, _, _, hv⟩ := hx.leaf
  refine wp_val (v := a.eval x) (w' := w) ?_ (R.good_put hx h)
  simp [execOp, ho, hv]

theorem op_extract (R : Rel P h0 W D β S st a w) {x : Operand} {i : Nat} (ho : o.op = .extract x i) (h : (opK P A F o st.r j).run call st K = some res) :
    o.wp P a w (Good P h0 W D S st.r st.q K res) Q := by
  simp only [opK, ho, run_evK] at h
  have hx := R.ev x
  split at h
  case h_2 => simp [Acc.run] at h
  rename_i vs e
  rw [e] at hx
  obtain ⟨av, hav, h⟩ := run_orFail _ _ _ h
  generalize hu : a.eval x = u at hx
  cases hx with
  | tup as us hl hh =>
    obtain ⟨hi, rfl⟩ := List.getElem?_eq_some_iff.1 hav
    have := hh i hi
    rw [getD_eq hi, getD_eq (hl ▸ hi)] at this
    refine wp_val (v := us[i]'(hl ▸ hi)) (w' := w) ?_ (R.good_put this h)
    simp [execOp, ho, hu, Instr.extract, hl ▸ hi]

theorem run_intBits (k : IntKind) (op : BinOp) (h : op = .and ∨ op = .or ∨ op = .xor ∨ op = .andNot) (x y : Int) (w : World) : (Op.intBits op k x y).run P w = .ok (.int k (bitsOp op k x y)) w := by
  rcases h with rfl | rfl | rfl | rfl <;> simp [Op.intBits, bitsOp]

theorem int_leaf {N : Nat → Prop} {hp : Array Obj} {k : IntKind} {n : Int} {v : Value} (h : VR P N hp β (.v (.int k n)) v) : v = .int k n := h.leaf
theorem bool_leaf {N : Nat → Prop} {hp : Array Obj} {n : Bool} {v : Value} (h : VR P N hp β (.v (.bool n)) v) : v = .bool n := h.leaf
theorem str_leaf {N : Nat → Prop} {hp : Array Obj} {s : List UInt8} {v : Value} (h : VR P N hp β (.v (.str s)) v) : ∃ x : ByteArray, v = .string x ∧ x.data.toList = s := h.leaf

theorem op_unOp (R : Rel P h0 W D β S st a w) {op : UnOp} {t : TypeId} {x : Operand} (ho : o.op = .unOp op t x) (h : (opK P A F o st.r j).run call st K = some res) :
    o.wp P a w (Good P h0 W D S st.r st.q K res) Q := by
  simp only [opK, ho, run_evK] at h
  obtain ⟨l, hl, h⟩ := run_orFail _ _ _ h
  have hx := R.ev x
  unfold un at hl
  split at hl
  · rename_i k n e
    rw [e] at hx; cases hl
    refine wp_val (v := .int k (k.wrap (0 - n))) (w' := w) ?_ (R.good_put (.v (.int k _) _ rfl) h)
    simp [execOp, ho, int_leaf hx, Op.unary, Op.intArith]
  · rename_i k n e
    rw [e] at hx; cases hl
    refine wp_val (v := .int k (bitsOp .xor k (if k.signed then -1 else k.max) n)) (w' := w) ?_ (R.good_put (.v (.int k _) _ rfl) h)
    simp only [execOp, ho, int_leaf hx, Op.unary, Sem.run_bind, run_intBits k .xor (by simp), Result.andThen_ok, Sem.run_pure]
  · rename_i b e
    rw [e] at hx; cases hl
    refine wp_val (v := .bool (!b)) (w' := w) ?_ (R.good_put (.v (.bool _) _ rfl) h)
    simp [execOp, ho, bool_leaf hx, Op.unary]
  · cases hl

theorem op_makeFunc (R : Rel P h0 W D β S st a w) {fn : Fn} {first captured : Array Operand} (ho : o.op = .makeFunc fn first captured) (h : (opK P A F o st.r j).run call st K = some res) :
    o.wp P a w (Good P h0 W D S st.r st.q K res) Q := by
  cases fn with
  | func f =>
    simp only [opK, ho] at h
    obtain ⟨hf, h⟩ := run_test _ _ _ h
    rw [run_evsK] at h
    obtain ⟨ids, hids, h⟩ := run_orFail _ _ _ h
    have key : ∀ (os : List Operand) (ids : List Id), capsOf (os.map st.ev) = some ids → (os.map a.eval).length = ids.length ∧ ∀ i, i < ids.length → PtrV β (ids.getD i (.p 0)) 0 ((os.map a.eval).getD i undef) := by
      intro os
      induction os with
      | nil => intro ids h; cases h; exact ⟨rfl, fun i hi => absurd hi (Nat.not_lt_zero _)⟩
      | cons o os ih =>
        intro ids h
        have hv := R.ev o
        simp only [List.map_cons] at h ⊢
        unfold capsOf at h
        split at h
        · rename_i e; cases e
        · rename_i id vs e
          injection e with e1 e2
          subst e2
          split at h
          · rename_i l hl
            cases h
            obtain ⟨h1, h2⟩ := ih l hl
            refine ⟨by simp at h1; simp [h1], fun i hi => ?_⟩
            cases i with
            | zero => rw [e1] at hv; exact hv.leaf
            | succ i => exact h2 i (by simpa using hi)
          · cases h
        · cases h
    obtain ⟨k1, k2⟩ := key _ _ hids
    have hfe : first = #[] := by simpa using hf
    refine wp_val (v := .func (.func f) #[] (captured.map a.eval)) (w' := w) ?_ (R.good_put (.v (.fn f ids) _ ⟨captured.toList.map a.eval, by simp [← Array.toList_map], k1, k2⟩) h)
    simp [execOp, ho, Instr.makeFunc, hfe]
  | _ => simp only [opK, ho, Acc.run] at h; cases h

theorem addOff_LR {N : Nat → Prop} {hp : Array Obj} {l l' : AL} {k : Nat} (h : addOff l k = some l') {v : Value} (hl : LR P N hp β l v) :
    ∃ b off, v = .pointer (some ⟨b, off, none⟩) ∧ LR P N hp β l' (.pointer (some ⟨b, off + k, none⟩)) := by
  unfold addOff at h
  split at h
  · cases h
    obtain ⟨hd, b, h1, h2, rfl⟩ := hl
    exact ⟨b, _, rfl, hd, b, h1, h2, rfl⟩
  · cases h
    obtain ⟨ts, b, o, cap, h1, h2, h3, h4, rfl⟩ := hl
    exact ⟨b, _, rfl, ts, b, o, cap, h1, h2, h3, h4, by simp [Nat.add_assoc]⟩
  · cases h
    obtain ⟨hd, b, h1, h2, rfl⟩ := hl
    exact ⟨b, _, rfl, hd, b, h1, h2, by simp [Nat.add_assoc]⟩
  · cases h
theorem addr_add (b o k : Nat) : (⟨b, o, none⟩ : Addr).add k = ⟨b, o + k, none⟩ := by unfold Addr.add; split <;> simp_all

theorem op_fieldAddr (R : Rel P h0 W D β S st a w) {s : TypeId} {x : Operand} {f : Nat} (ho : o.op = .fieldAddr s x f) (h : (opK P A F o st.r j).run call st K = some res) :
    o.wp P a w (Good P h0 W D S st.r st.q K res) Q := by
  simp only [opK, ho, run_evK] at h
  have hx := R.ev x
  split at h
  case h_2 => simp [Acc.run] at h
  rename_i l e
  rw [e] at hx
  obtain ⟨fd, hfd, h⟩ := run_orFail _ _ _ h
  obtain ⟨l', hl', h⟩ := run_orFail _ _ _ h
  obtain ⟨i, hi, h⟩ := run_orFail _ _ _ h
  obtain ⟨hz, h⟩ := run_test _ _ _ h
  obtain ⟨b, off, hv, hl⟩ := addOff_LR hl' hx.leaf
  have hz' : i.size ≠ 0 := by
    intro e; rw [e] at hz; simp at hz
  unfold fieldOf at hfd
  split at hfd
  · rename_i fs hu
    refine wp_val (v := .pointer (some ⟨b, off + fd.offset, none⟩)) (w' := w) ?_ (R.good_put (.v _ _ hl) h)
    simp only [execOp, ho, hv, Instr.fieldAt, Sem.run_bind, run_underlying hu, Result.andThen_ok, hfd, Instr.sureAddr, Sem.run_pure, fieldPlace, sizeOf, typeInfo, hi, run_program, Sem.run_ite, hz', if_false, addr_add]
  · cases hfd

theorem cutAt_length {α : Type} (cs : List α) (o n : Nat) (h : o + n ≤ cs.length) : (cutAt cs o n).length = n := by simp [cutAt]; omega
theorem cutAt_getD {α : Type} (cs : List α) (o n : Nat) (h : o + n ≤ cs.length) (i : Nat) (hi : i < n) (d : α) : (cutAt cs o n).getD i d = cs.getD (o + i) d := by
  simp [cutAt, List.getD, List.getElem?_take_of_lt hi]

theorem LR_cut {N : Nat → Prop} {hp : Array Obj} {ls : List AL} {vs : List Value} (hl : vs.length = ls.length) (h : ∀ i, i < ls.length → LR P N hp β (ls.getD i .dead) (vs.getD i undef)) {o n : Nat} (ho : o + n ≤ ls.length) :
    (cutAt vs o n).length = (cutAt ls o n).length ∧ ∀ i, i < (cutAt ls o n).length → LR P N hp β ((cutAt ls o n).getD i .dead) ((cutAt vs o n).getD i undef) := by
  have e := cutAt_length ls o n ho
  refine ⟨by rw [e, cutAt_length vs o n (hl ▸ ho)], fun i hi => ?_⟩
  rw [e] at hi
  rw [cutAt_getD ls o n ho i hi, cutAt_getD vs o n (hl ▸ ho) i hi]
  exact h _ (by omega)

/-- a part of an aggregate -/
theorem run_part {t : TypeId} {ts : List LTy} (ht : leaves P t = some ts) (vs : List Value) (o : Nat) (ho : o + ts.length ≤ vs.length) (h1 : isAggB P t = false → ts.length = 1) (w : World) :
    (part t vs.toArray o).run P w = .ok (valOf P t (cutAt vs o ts.length)) w := by
  unfold part valOf
  rw [Sem.run_bind, run_isAgg ht w, Result.andThen_ok]
  cases ha : isAggB P t with
  | true =>
    simp only [if_true, Sem.run_bind, run_sizeOf ht w, Result.andThen_ok, Sem.run_pure]
    congr 2
    simp only [List.extract_toArray, List.extract_eq_take_drop]
    simp [cutAt]
  | false =>
    have h1' := h1 ha
    have hlt : o < vs.length := by omega
    have : (cutAt vs o ts.length).getD 0 undef = vs[o] := by rw [cutAt_getD vs o _ ho 0 (by omega), getD_eq (by omega)]; rfl
    rw [this]
    simp [hlt]

theorem op_field (R : Rel P h0 W D β S st a w) {s : TypeId} {x : Operand} {f : Nat} (ho : o.op = .field s x f) (h : (opK P A F o st.r j).run call st K = some res) :
    o.wp P a w (Good P h0 W D S st.r st.q K res) Q := by
  simp only [opK, ho, run_evK] at h
  have hx := R.ev x
  split at h
  case h_2 => simp [Acc.run] at h
  rename_i ls e
  rw [e] at hx
  obtain ⟨fd, hfd, h⟩ := run_orFail _ _ _ h
  obtain ⟨ts, hts, h⟩ := run_orFail _ _ _ h
  obtain ⟨hb, h⟩ := run_test _ _ _ h
  obtain ⟨av, hav, h⟩ := run_orFail _ _ _ h
  have hb' := Nat.le_of_ble_eq_true hb
  generalize hu : a.eval x = u at hx
  cases hx with
  | agg ls' vs hl hh =>
    obtain ⟨c1, c2⟩ := LR_cut hl hh hb'
    obtain ⟨m1, m2⟩ := VR.mk hav c1 c2
    unfold fieldOf at hfd
    split at hfd
    · rename_i fs hun
      refine wp_val (v := _) (w' := w) ?_ (R.good_put m1 h)
      have := run_part hts vs fd.offset (hl ▸ hb') (fun ha => by have := m2 ha; rwa [cutAt_length _ _ _ hb'] at this) w
      simp only [execOp, ho, hu, Instr.field, Sem.run_bind, run_underlying hun, Result.andThen_ok, hfd, asAgg, Sem.run_pure, this]
    · cases hfd
end
end Go.AI
set_option linter.unusedVariables false
namespace Go.AI
open Go

theorem decs_length : ∀ (ts : List LTy) (ps : List PV) (c : Nat), (decs ts ps c).length = ts.length
  | [], _, _ => rfl
  | t :: ts, ps, c => by simp [decs, decs_length ts]
theorem decs_getD : ∀ (ts : List LTy) (ps : List PV) (c k : Nat), k < ts.length → (decs ts ps c).getD k .dead = decL (ts.getD k .no) (ps.getD (c + k) .u)
  | [], _, _, k, h => absurd h (Nat.not_lt_zero _)
  | t :: ts, ps, c, 0, _ => rfl
  | t :: ts, ps, c, k + 1, h => by
    have := decs_getD ts ps (c + 1) k (by simpa using h)
    simp only [decs, List.getD_cons_succ]
    rw [this]; congr 2; omega
theorem RP.dec {P : Program} {N : Nat → Prop} {hp : Array Obj} {β : GM} {t : LTy} {p : PV} {v : Value} (h : RP P N hp t p v) : LR P N hp β (decL t p) v := by
  cases h with
  | int k n => rfl
  | bool b => rfl
  | str s => exact ⟨s, rfl, rfl⟩
  | nil e a => exact .nil e a
  | sl e ts es b o cap vs hc hl hN h1 h2 h3 => exact .sl e ts es b o cap vs hc hl hN h1 h2 h3

section
variable {α : Type} {P : Program} {A : Ann} {F : FuncId} {h0 : Array Obj} {W : Wr} {D : Nat → Prop} {β : GM} {S : Nat → Prop} {st : St} {a : Act} {w : World} {call : CallF} {K : St → Option α} {res : α}
  {o : Oper} {j : Nat} {Q : Exit → Act → World → Prop}

/-- some cells of an element: as the interpreter has them, as they lie -/
theorem elCells_of {N : Nat → Prop} {hp : Array Obj} {e : TypeId} {es : List (List PV)} {i : Int} {off n : Nat} {ls : List AL} (h : elCells P e es i off n = some ls) {ts : List LTy} (hts : leaves P e = some ts)
    (vs : Nat → Value) (hv : ∀ k, k < ts.length → RP P N hp (ts.getD k .no) ((elemAt es i).getD k .u) (vs k)) :
    off + n ≤ ts.length ∧ ls.length = n ∧ ∀ k, k < n → LR P N hp β (ls.getD k .dead) (vs (off + k)) := by
  unfold elCells at h
  rw [hts] at h
  simp only at h
  cases hb : Nat.ble (off + n) ts.length with
  | false => simp [hb] at h
  | true =>
    simp only [hb, cond_true, Option.some.injEq] at h
    have hb' := Nat.le_of_ble_eq_true hb
    have hcl := cutAt_length ts off n hb'
    subst h
    refine ⟨hb', by rw [decs_length, hcl], fun k hk => ?_⟩
    rw [decs_getD _ _ _ _ (by rw [hcl]; exact hk), cutAt_getD ts off n hb' k hk]
    exact (hv (off + k) (by omega)).dec

theorem inB_of {i : Int} {n : Nat} (h : inB i n = true) : 0 ≤ i ∧ i.toNat < n ∧ i < n := by
  unfold inB at h
  simp only [Bool.and_eq_true, decide_eq_true_eq] at h
  omega

/-- what a load of the interpreter's says of memory -/
theorem loadK_ev {ev : Acc → St → Prop} (E : Ev ev) (R : Rel P h0 W D β S st a w) {t : TypeId} {l : AL} {v : Value} (hl : LR P (NN D β st.boxes w.heap) w.heap β l v) {k : List AL → Acc}
    (h : ev (loadK P t l k) st) :
    ∃ (ts : List LTy) (ls : List AL) (b off : Nat) (vs : List Value), leaves P t = some ts ∧ v = .pointer (some ⟨b, off, none⟩) ∧ ls.length = ts.length ∧ vs.length = ts.length ∧ (∀ i, i < vs.length → cellH w.heap b (off + i) = some (vs.getD i undef)) ∧
      (∀ i, i < ls.length → LR P (NN D β st.boxes w.heap) w.heap β (ls.getD i .dead) (vs.getD i undef)) ∧ ev (k ls) st := by
  unfold loadK at h
  obtain ⟨ts, hts, h⟩ := E.orFail h
  have cells : ∀ {id : Id} {off : Nat} {cs : List AL}, CellsR P (NN D β st.boxes w.heap) w.heap β id cs → PtrV β id off v → off + ts.length ≤ cs.length → ev (k (cutAt cs off ts.length)) st →
      ∃ (ts : List LTy) (ls : List AL) (b off : Nat) (vs : List Value), leaves P t = some ts ∧ v = .pointer (some ⟨b, off, none⟩) ∧ ls.length = ts.length ∧ vs.length = ts.length ∧ (∀ i, i < vs.length → cellH w.heap b (off + i) = some (vs.getD i undef)) ∧
      (∀ i, i < ls.length → LR P (NN D β st.boxes w.heap) w.heap β (ls.getD i .dead) (vs.getD i undef)) ∧ ev (k ls) st := by
    rintro id off cs ⟨hd, b, c, ty, fr, h1, h2, h3, h4, h5, h6⟩ ⟨hd', b', g1, g2, rfl⟩ hle hk
    rw [h1] at g1; cases g1; rw [h2] at g2; cases g2
    have hle' : off + ts.length ≤ c.toList.length := by simpa [h5] using hle
    refine ⟨ts, cutAt cs off ts.length, b, off, cutAt c.toList off ts.length, hts, rfl, cutAt_length _ _ _ hle, cutAt_length _ _ _ hle', fun i hi => ?_, fun i hi => ?_, hk⟩
    · rw [cutAt_length _ _ _ hle'] at hi
      rw [cutAt_getD _ _ _ hle' i hi, cellH_of h3, getD_eq (by omega)]
      simp
    · rw [cutAt_length _ _ _ hle] at hi
      rw [cutAt_getD _ _ _ hle i hi, cutAt_getD _ _ _ hle' i hi]
      have := h6 (off + i) (by omega)
      rwa [← toArray_getD c.toList, Array.toArray_toList]
  cases l with
  | ptr id off =>
    simp only at h
    replace h := E.getB h
    split at h
    · rename_i ty cs hb
      obtain ⟨hle, h⟩ := E.test h
      exact cells (R.mem.bx id _ hb) hl (Nat.le_of_ble_eq_true hle) h
    · rename_i ty cs hb
      obtain ⟨hle, h⟩ := E.test h
      exact cells (R.mem.bx id _ hb) hl (Nat.le_of_ble_eq_true hle) h
    · exact absurd h E.fail
  | ep e es i off =>
    simp only at h
    obtain ⟨ls, hls, h⟩ := E.orFail h
    obtain ⟨ts', b, o', cap, e1, e2, e3, e4, rfl⟩ := hl
    cases e2 with
    | nil => exact absurd e4 (Nat.not_lt_zero _)
    | sl _ ts2 _ _ _ _ vs hc2 hl2 hN g1 g2 g3 =>
      rw [e1] at hl2; cases hl2
      obtain ⟨c1, c2, c3⟩ := elCells_of (β := β) hls e1 (fun k => vs (i.toNat * ts'.length + k)) (fun k hk => g3 i.toNat k e4 hk)
      refine ⟨ts, ls, b, o' + i.toNat * ts'.length + off, (List.range ts.length).map fun k => vs (i.toNat * ts'.length + (off + k)), hts, rfl, c2, by simp, fun k hk => ?_, fun k hk => ?_, h⟩
      · simp at hk
        rw [getD_eq (by simpa using hk), List.getElem_map, List.getElem_range]
        rw [← g2 (i.toNat * ts'.length + (off + k)) ?_]
        · congr 1; omega
        · have := Nat.mul_le_mul_right ts'.length e4
          rw [Nat.succ_mul] at this
          omega
      · have hk' : k < ts.length := by omega
        rw [getD_eq (l := List.map _ _) (by simpa using hk'), List.getElem_map, List.getElem_range]
        exact c3 k hk'
  | wp id i off =>
    simp only at h
    replace h := E.getB h
    split at h
    · rename_i e es hb
      obtain ⟨hi, h⟩ := E.test h
      obtain ⟨ls, hls, h⟩ := E.orFail h
      obtain ⟨i0, i1, _⟩ := inB_of hi
      obtain ⟨hd, b, e1, e2, rfl⟩ := hl
      obtain ⟨hd', g1, ts', g2, g3, g4, g5, g6, g7⟩ := R.mem.bx id _ hb
      rw [e1] at g1; cases g1
      rcases g7 with ⟨g7, _⟩ | ⟨b', c, ty, fr, f1, f2, f3, f4, f5⟩
      · rw [e2] at g7; cases g7
      · rw [e2] at f1; cases f1
        obtain ⟨c1, c2, c3⟩ := elCells_of (β := β) hls g2 (fun k => c.getD (i.toNat * ts'.length + k) undef) (fun k hk => f5 i.toNat k i1 hk)
        refine ⟨ts, ls, b, i.toNat * hd.sz + off, (List.range ts.length).map fun k => c.getD (i.toNat * ts'.length + (off + k)) undef, hts, rfl, c2, by simp, fun k hk => ?_, fun k hk => ?_, h⟩
        · simp at hk
          rw [getD_eq (by simpa using hk), List.getElem_map, List.getElem_range, cellH_of f2, g3]
          have h1 : i.toNat + 1 ≤ hd.cap := by omega
          have h2 := Nat.mul_le_mul_right ts'.length h1
          rw [Nat.succ_mul] at h2
          have : i.toNat * ts'.length + off + k < c.size := by omega
          simp [Array.getD, this, ← Nat.add_assoc]
        · have hk' : k < ts.length := by omega
          rw [getD_eq (l := List.map _ _) (by simpa using hk'), List.getElem_map, List.getElem_range]
          exact c3 k hk'
    · exact absurd h E.fail
  | _ => exact absurd h E.fail
theorem loadK_of (R : Rel P h0 W D β S st a w) {t : TypeId} {l : AL} {v : Value} (hl : LR P (NN D β st.boxes w.heap) w.heap β l v) {k : List AL → Acc}
    (h : (loadK P t l k).run call st K = some res) :
    ∃ (ts : List LTy) (ls : List AL) (b off : Nat) (vs : List Value), leaves P t = some ts ∧ v = .pointer (some ⟨b, off, none⟩) ∧ ls.length = ts.length ∧ vs.length = ts.length ∧ (∀ i, i < vs.length → cellH w.heap b (off + i) = some (vs.getD i undef)) ∧
      (∀ i, i < ls.length → LR P (NN D β st.boxes w.heap) w.heap β (ls.getD i .dead) (vs.getD i undef)) ∧ (k ls).run call st K = some res :=
  loadK_ev (Ev.run call K res) R hl h

theorem op_load (R : Rel P h0 W D β S st a w) {t : TypeId} {x : Operand} (ho : o.op = .load t x) (h : (opK P A F o st.r j).run call st K = some res) :
    o.wp P a w (Good P h0 W D S st.r st.q K res) Q := by
  simp only [opK, ho, run_evK] at h
  have hx := R.ev x
  split at h
  case h_2 => simp [Acc.run] at h
  rename_i l e
  rw [e] at hx
  obtain ⟨ts, ls, b, off, vs, h1, h2, h3, h4, h5, h6, h⟩ := loadK_of R hx.leaf h
  obtain ⟨av, hav, h⟩ := run_orFail _ _ _ h
  obtain ⟨m1, m2⟩ := VR.mk hav (by omega) h6
  refine wp_val (v := _) (w' := w) ?_ (R.good_put m1 h)
  simp [execOp, ho, h2, Instr.loadAt, Instr.sureAddr, run_loadVar h1 w b off vs h4 h5 (fun ha => by have := m2 ha; omega)]

theorem wp_skip' {P : Program} {o : Oper} {a : Act} {w w' : World} {next : Act → World → Prop} {Q : Exit → Act → World → Prop}
    (h : (execOp a.eval o).run P w = .ok .skip w') (hn : next (a.put o.dst undef) w') : o.wp P a w next Q := by
  unfold Oper.wp; rw [h]; exact hn

theorem pvL_RP {N : Nat → Prop} {hp : Array Obj} {t : LTy} {l : AL} {p : PV} (h : pvL t l = some p) {v : Value} (hl : LR P N hp β l v) : RP P N hp t p v := by
  unfold pvL at h
  split at h
  · rename_i k k' n
    by_cases e : k = k'
    · subst e; simp at h; subst h; cases hl; exact .int k n
    · simp [e] at h
  · cases h; cases hl; exact .bool _
  · cases h; obtain ⟨x, rfl, rfl⟩ := hl; exact .str x
  · rename_i e e' es
    cases hb : Nat.beq e e' with
    | false => simp [hb] at h
    | true =>
      simp only [hb, cond_true, Option.some.injEq] at h
      subst h
      have := Nat.eq_of_beq_eq_true hb
      subst this; exact hl
  · cases h; obtain ⟨a, rfl⟩ := hl; exact .nil _ a
  · cases h
theorem pvs_RP {N : Nat → Prop} {hp : Array Obj} : ∀ {ts : List LTy} {ls : List AL} {ps : List PV} (_ : pvs ts ls = some ps) {vs : List Value} (_ : vs.length = ls.length)
    (_ : ∀ i, i < ls.length → LR P N hp β (ls.getD i .dead) (vs.getD i undef)), ts.length = ls.length ∧ ps.length = ls.length ∧ ∀ i, i < ls.length → RP P N hp (ts.getD i .no) (ps.getD i .u) (vs.getD i undef) := by
  intro ts
  induction ts with
  | nil =>
    intro ls ps h vs hl hv
    cases ls with
    | nil => cases h; exact ⟨rfl, rfl, fun i hi => absurd hi (Nat.not_lt_zero _)⟩
    | cons l ls => simp [pvs] at h
  | cons t ts ih =>
    intro ls ps h vs hl hv
    cases ls with
    | nil => simp [pvs] at h
    | cons l ls =>
      simp only [pvs] at h
      split at h
      · rename_i p ps' h1 h2
        cases h
        cases vs with
        | nil => simp at hl
        | cons v vs =>
          obtain ⟨a1, a2, a3⟩ := ih h2 (vs := vs) (by simpa using hl) (fun i hi => by have := hv (i + 1) (by simpa using hi); simpa using this)
          refine ⟨by simp [a1], by simp [a2], fun i hi => ?_⟩
          cases i with
          | zero => exact pvL_RP h1 (by simpa using hv 0 (by simp))
          | succ i => simpa using a3 i (by simpa using hi)
      · cases h

theorem op_store (R : Rel P h0 W D β S st a w) {t : TypeId} {x y : Operand} (ho : o.op = .store t x y) (h : (opK P A F o st.r j).run call st K = some res) :
    o.wp P a w (Good P h0 W D S st.r st.q K res) Q := by
  simp only [opK, ho] at h
  obtain ⟨hd, h⟩ := run_test _ _ _ h
  have hd : o.dst = none := by simpa using hd
  simp only [run_evK] at h
  have hx := R.ev x
  split at h
  case h_3 => simp [Acc.run] at h
  case h_1 =>
    rename_i id off e
    rw [e] at hx
    obtain ⟨hdr, b, p1, p2, hp⟩ := hx.leaf
    rw [run_evK] at h
    obtain ⟨ls, hls, h⟩ := run_orFail _ _ _ h
    obtain ⟨ts, hts, h⟩ := run_orFail _ _ _ h
    obtain ⟨hlen, h⟩ := run_test _ _ _ h
    rw [run_getB] at h
    split at h
    case h_2 => simp [Acc.run] at h
    rename_i bt cs hb
    obtain ⟨hle, h⟩ := run_test _ _ _ h
    have h := run_setB _ _ _ h
    have hlen := Nat.eq_of_beq_eq_true hlen
    have hle := Nat.le_of_ble_eq_true hle
    obtain ⟨vs, v1, v2, v3, v4⟩ := (R.ev y).cells hls
    obtain ⟨hdr', b', c, ty, fr, g1, g2, g3, g4, g5, g6⟩ := R.mem.bx id _ hb
    rw [p1] at g1; cases g1; rw [p2] at g2; cases g2
    obtain ⟨w', s1, s2, s3, s4, s5⟩ := run_storeVar (o := off) hts g3 g4 v1 (by omega) (by omega) v4
    have ex := R.mem.set_ext (x' := .cells bt (putAt cs off ls)) hb rfl rfl p1 p2 s2 s3
    have R' := R.upd (x' := .cells bt (putAt cs off ls)) hb rfl rfl p1 p2 (w' := w') s5 s2 s3
      ⟨hdr, b, putArr c off vs, ty, fr, p1, p2, s4, fun k hk => g4 k (by rwa [putArr_size _ _ _ (by omega)] at hk), by rw [putArr_size _ _ _ (by omega), putAt_length _ _ _ hle, g5], fun i hi => by
        rw [putAt_length _ _ _ hle] at hi
        unfold putArr
        rw [toArray_getD, putAt_getD _ _ _ hle, putAt_getD _ _ _ (by simp; omega)]
        have ec : ∀ i, c.toList.getD i undef = c.getD i undef := fun i => by rw [← toArray_getD, Array.toArray_toList]
        rw [v2, ec]
        split
        · exact (g6 i hi).mono ex
        · split
          · exact (v3 (i - off) (by omega)).mono ex
          · exact (g6 i hi).mono ex⟩
    rw [hd] at h
    refine wp_skip' (w' := w') ?_ ?_
    · simp [execOp, ho, hp, Instr.storeAt, Instr.sureAddr, s1]
    · rw [hd]; exact ⟨_, β, R', rfl, rfl, h⟩
  case h_2 =>
    rename_i id i off e
    rw [e] at hx
    obtain ⟨hdr, b, p1, p2, hp⟩ := hx.leaf
    rw [run_evK] at h
    obtain ⟨ls, hls, h⟩ := run_orFail _ _ _ h
    obtain ⟨ts, hts, h⟩ := run_orFail _ _ _ h
    obtain ⟨hlen, h⟩ := run_test _ _ _ h
    rw [run_getB] at h
    split at h
    case h_2 => simp [Acc.run] at h
    rename_i et es hb
    obtain ⟨hi, h⟩ := run_test _ _ _ h
    obtain ⟨ets, hets, h⟩ := run_orFail _ _ _ h
    obtain ⟨hle, h⟩ := run_test _ _ _ h
    obtain ⟨ps, hps, h⟩ := run_orFail _ _ _ h
    have h := run_setB _ _ _ h
    have hlen := Nat.eq_of_beq_eq_true hlen
    have hle := Nat.le_of_ble_eq_true hle
    obtain ⟨i0, i1, _⟩ := inB_of hi
    obtain ⟨vs, v1, v2, v3, v4⟩ := (R.ev y).cells hls
    obtain ⟨hdr', g1, ts', g2, g3, g4, g5, g6, g7⟩ := R.mem.bx id _ hb
    rw [p1] at g1; cases g1
    rw [hets] at g2; cases g2
    rcases g7 with ⟨g7, _⟩ | ⟨b', c, ty, fr, f1, f2, f3, f4, f5⟩
    · rw [p2] at g7; cases g7
    rw [p2] at f1; cases f1
    have hsz : i.toNat * ets.length + off + vs.length ≤ c.size := by
      have h1 : i.toNat + 1 ≤ hdr.cap := by omega
      have h2 := Nat.mul_le_mul_right ets.length h1
      rw [Nat.succ_mul] at h2
      omega
    obtain ⟨q1, q2, q3⟩ := pvs_RP hps v2 v3
    obtain ⟨w', s1, s2, s3, s4, s5⟩ := run_storeVar (o := i.toNat * ets.length + off) hts f2 f3 v1 (by omega) hsz v4
    have hel : (elemAt es i).length = ets.length := g5 i.toNat i1
    have hpl : off + ps.length ≤ (elemAt es i).length := by omega
    have ex := R.mem.set_ext (x' := .row et (es.set i.toNat (putAt (elemAt es i) off ps))) hb rfl rfl p1 p2 s2 s3
    have R' := R.upd (x' := .row et (es.set i.toNat (putAt (elemAt es i) off ps))) hb rfl rfl p1 p2 (w' := w') s5 s2 s3
      ⟨hdr, p1, ets, hets, g3, by simpa using g4, fun k hk => by
        simp at hk
        by_cases e : i.toNat = k
        · subst e; simp [List.getD, i1, putAt_length _ _ _ hpl, hel]
        · have := g5 k hk; simpa [List.getD, e] using this, by simpa using g6, .inr ⟨b, putArr c (i.toNat * ets.length + off) vs, ty, fr, p2, s4,
          fun k hk => f3 k (by rwa [putArr_size _ _ _ hsz] at hk), by rw [putArr_size _ _ _ hsz]; exact f4, fun k l hk hl => by
            simp at hk
            unfold putArr
            rw [toArray_getD, putAt_getD _ _ _ (by simpa using hsz)]
            have ec : ∀ i, c.toList.getD i undef = c.getD i undef := fun i => by rw [← toArray_getD, Array.toArray_toList]
            rw [ec]
            by_cases e : i.toNat = k
            · subst e
              have e1 : (es.set i.toNat (putAt (elemAt es i) off ps)).getD i.toNat [] = putAt (elemAt es i) off ps := by simp [List.getD, i1]
              rw [e1, putAt_getD _ _ _ hpl]
              have x1 : (i.toNat * ets.length + l < i.toNat * ets.length + off) = (l < off) := by simp
              have x2 : (i.toNat * ets.length + l < i.toNat * ets.length + off + vs.length) = (l < off + ps.length) := by
                apply propext; omega
              simp only [x1, x2]
              split
              · exact (f5 _ l i1 hl).mono ex.n
              · split
                · have := (q3 (l - off) (by omega)).mono ex.n
                  rw [cutAt_getD _ _ _ hle _ (by omega)] at this
                  rw [show off + (l - off) = l by omega] at this
                  rw [show i.toNat * ets.length + l - (i.toNat * ets.length + off) = l - off by omega]
                  exact this
                · exact (f5 _ l i1 hl).mono ex.n
            · have e1 : (es.set i.toNat (putAt (elemAt es i) off ps)).getD k [] = es.getD k [] := by simp [List.getD, e]
              rw [e1]
              have hne : k * ets.length + l < i.toNat * ets.length + off ∨ i.toNat * ets.length + off + vs.length ≤ k * ets.length + l := by
                rcases Nat.lt_or_gt_of_ne e with h | h
                · have := Nat.mul_le_mul_right ets.length h
                  rw [Nat.succ_mul] at this
                  exact .inr (by omega)
                · have := Nat.mul_le_mul_right ets.length h
                  rw [Nat.succ_mul] at this
                  exact .inl (by omega)
              rcases hne with h | h
              · rw [if_pos h]; exact (f5 k l hk hl).mono ex.n
              · rw [if_neg (by omega), if_neg (by omega)]; exact (f5 k l hk hl).mono ex.n⟩⟩
    rw [hd] at h
    refine wp_skip' (w' := w') ?_ ?_
    · simp [execOp, ho, hp, g3, Instr.storeAt, Instr.sureAddr, s1]
    · rw [hd]; exact ⟨_, β, R', rfl, rfl, h⟩
end
end Go.AI
set_option linter.unusedVariables false
namespace Go.AI
open Go

/-- what lies behind a slice's value -/
def ListV (P : Program) (N : Nat → Prop) (hp : Array Obj) (e : TypeId) (es : List (List PV)) (v : Value) : Prop :=
  ∃ a cap, v = .slice a es.length cap ∧ es.length ≤ cap ∧ (es = [] ∨ ∃ ts b o, ∃ vs : Nat → Value, leaves P e = some ts ∧ a = some ⟨b, o, none⟩ ∧ (∀ i, i < es.length → (es.getD i []).length = ts.length) ∧
    (∀ j, j < es.length * ts.length → cellH hp b (o + j) = some (vs j)) ∧ ∀ i j, i < es.length → j < ts.length → RP P N hp (ts.getD j .no) ((es.getD i []).getD j .u) (vs (i * ts.length + j)))

section
variable {α : Type} {P : Program} {A : Ann} {F : FuncId} {h0 : Array Obj} {W : Wr} {D : Nat → Prop} {β : GM} {S : Nat → Prop} {st : St} {a : Act} {w : World} {call : CallF} {K : St → Option α} {res : α}
  {o : Oper} {j : Nat} {Q : Exit → Act → World → Prop}

theorem RP.list {N : Nat → Prop} {hp : Array Obj} {e : TypeId} {es : List (List PV)} {v : Value} (h : RP P N hp (.sl e) (.l es) v) : ListV P N hp e es v := by
  cases h with
  | nil e a => exact ⟨a, 0, rfl, Nat.le_refl _, .inl rfl⟩
  | sl e ts es b o cap vs hc hl hN h1 h2 h3 => exact ⟨_, cap, rfl, hc, .inr ⟨ts, b, o, vs, hl, rfl, h1, h2, h3⟩⟩
theorem mul_lt {i n s k : Nat} (hi : i < n) (hk : k < s) : i * s + k < n * s := by
  have := Nat.mul_le_mul_right s (Nat.succ_le_of_lt hi)
  rw [Nat.succ_mul] at this; omega
theorem divmod_lt {j n s : Nat} (h : j < n * s) : 0 < s ∧ j / s < n ∧ j % s < s ∧ j / s * s + j % s = j := by
  have hs : 0 < s := by rcases Nat.eq_zero_or_pos s with h' | h'; · rw [h'] at h; simp at h
                        · exact h'
  exact ⟨hs, Nat.div_lt_of_lt_mul (by rwa [Nat.mul_comm] at h), Nat.mod_lt _ hs, Nat.div_add_mod' j s⟩
theorem row_list {id : Id} {e : TypeId} {es : List (List PV)} {v : Value} (hx : BoxR P (NN D β st.boxes w.heap) w.heap β id (.row e es)) (hv : RowV β id v) :
    ListV P (NN D β st.boxes w.heap) w.heap e es v := by
  obtain ⟨h, h1, ts, h2, h3, h4, h5, h6, h7⟩ := hx
  obtain ⟨h', g1, g2⟩ := hv
  rw [h1] at g1; cases g1
  rcases g2 with ⟨g2, g3, a, rfl⟩ | ⟨b, g2, rfl⟩
  · have : es = [] := List.length_eq_zero_iff.1 (by omega)
    subst this; exact ⟨a, 0, rfl, Nat.le_refl _, .inl rfl⟩
  · rw [h4]
    refine ⟨_, h.cap, rfl, h6, .inr ?_⟩
    rcases h7 with ⟨h7, _⟩ | ⟨b', c, ty, fr, f1, f2, f3, f4, f5⟩
    · rw [g2] at h7; cases h7
    · rw [g2] at f1; cases f1
      refine ⟨ts, b, 0, fun j => c.getD j undef, h2, rfl, h5, fun j hj => ?_, f5⟩
      rw [cellH_of f2]
      have h8 := Nat.mul_le_mul_right ts.length h6
      have : j < c.size := by omega
      simp [Array.getD, this]
theorem listK_of (R : Rel P h0 W D β S st a w) {e : TypeId} {l : AL} {v : Value} (hl : LR P (NN D β st.boxes w.heap) w.heap β l v) {k : List (List PV) → Acc}
    (h : (listK e l k).run call st K = some res) : ∃ es, ListV P (NN D β st.boxes w.heap) w.heap e es v ∧ (k es).run call st K = some res := by
  cases l with
  | sl e' es =>
    obtain ⟨he, h1⟩ := run_test _ _ _ h
    have := Nat.eq_of_beq_eq_true he
    subst this; exact ⟨es, RP.list hl, h1⟩
  | nils => obtain ⟨a, rfl⟩ := hl; exact ⟨[], ⟨a, 0, rfl, Nat.le_refl _, .inl rfl⟩, h⟩
  | wr id =>
    simp only [listK] at h
    rw [run_getB] at h
    split at h
    · rename_i e' es hb
      obtain ⟨he, h1⟩ := run_test _ _ _ h
      have := Nat.eq_of_beq_eq_true he
      subst this; exact ⟨es, row_list (R.mem.bx id _ hb) hl, h1⟩
    · simp [Acc.run] at h
  | _ => simp [listK, Acc.run] at h

theorem sliceElem_of {t e : TypeId} (h : sliceElem P t = some e) : P.underlying t = some (.slice e) := by
  unfold sliceElem at h; split at h
  · cases h; assumption
  · cases h

theorem str_size (x : ByteArray) : x.data.toList.length = x.size := by rw [Array.length_toList]; rfl

theorem op_index (R : Rel P h0 W D β S st a w) {t : TypeId} {x ix : Operand} (ho : o.op = .index t x ix) (h : (opK P A F o st.r j).run call st K = some res) :
    o.wp P a w (Good P h0 W D S st.r st.q K res) Q := by
  simp only [opK, ho, run_evK] at h
  have hx := R.ev x
  have hix := R.ev ix
  split at h
  · rename_i s k i hu e1 e2
    rw [e1] at hx; rw [e2] at hix
    obtain ⟨hb, h⟩ := run_test _ _ _ h
    obtain ⟨i0, i1, i2⟩ := inB_of hb
    obtain ⟨y, hy, rfl⟩ := str_leaf hx
    have hi := int_leaf hix
    rw [str_size] at i1 i2
    have hget : y[i.toNat]? = some (y[i.toNat]'i1) := by rw [getElem?_pos]
    refine wp_val (v := .int .u8 (y[i.toNat]'i1).toNat) (w' := w) ?_ (R.good_put (x := .v (.int .u8 (bt y.data.toList i))) (.v _ _ ?_) h)
    · simp only [execOp, ho, hy, hi, Instr.index, asIntOf, Sem.run_bind, Sem.run_pure, Result.andThen_ok, run_underlying hu, i0, if_true, hget]
    · show Value.int .u8 _ = Value.int .u8 (bt y.data.toList i)
      congr 1
      unfold bt
      rw [getD_eq (by rw [str_size]; exact i1)]; rfl
  · rename_i n e cs k i hu e1 e2
    rw [e1] at hx; rw [e2] at hix
    obtain ⟨ts, hts, h⟩ := run_orFail _ _ _ h
    obtain ⟨hb, h⟩ := run_test _ _ _ h
    obtain ⟨av, hav, h⟩ := run_orFail _ _ _ h
    simp only [Bool.and_eq_true] at hb
    obtain ⟨hb, hle⟩ := hb
    have hle := Nat.le_of_ble_eq_true hle
    obtain ⟨i0, i1, i2⟩ := inB_of hb
    have hi := int_leaf hix
    generalize hv : a.eval x = u at hx
    cases hx with
    | agg ls' vs hl hh =>
      obtain ⟨c1, c2⟩ := LR_cut hl hh hle
      obtain ⟨m1, m2⟩ := VR.mk hav c1 c2
      refine wp_val (v := _) (w' := w) ?_ (R.good_put m1 h)
      have := run_part hts vs (i.toNat * ts.length) (by omega) (fun ha => by have := m2 ha; rwa [cutAt_length _ _ _ hle] at this) w
      simp only [execOp, ho, hv, hi, Instr.index, asIntOf, Sem.run_bind, Sem.run_pure, Result.andThen_ok, run_underlying hu, i0, i2, and_self, if_true, run_sizeOf hts, this]
  · simp [Acc.run] at h

theorem op_indexAddr (R : Rel P h0 W D β S st a w) {t : TypeId} {x ix : Operand} (ho : o.op = .indexAddr t x ix) (h : (opK P A F o st.r j).run call st K = some res) :
    o.wp P a w (Good P h0 W D S st.r st.q K res) Q := by
  simp only [opK, ho, run_evK] at h
  have hx := R.ev x
  have hix := R.ev ix
  split at h
  · rename_i n e l k i hu e1 e2
    rw [e1] at hx; rw [e2] at hix
    obtain ⟨info, hinf, h⟩ := run_orFail _ _ _ h
    obtain ⟨l', hl', h⟩ := run_orFail _ _ _ h
    obtain ⟨hb, h⟩ := run_test _ _ _ h
    simp only [Bool.and_eq_true] at hb
    obtain ⟨h2, hb⟩ := hb
    have h2 := Nat.le_of_ble_eq_true h2
    obtain ⟨i0, i1, i2⟩ := inB_of hb
    obtain ⟨b, off, hv, hl⟩ := addOff_LR hl' hx.leaf
    refine wp_val (v := .pointer (some ⟨b, off + i.toNat * info.size, none⟩)) (w' := w) ?_ (R.good_put (.v _ _ hl) h)
    simp only [execOp, ho, hv, int_leaf hix, Instr.indexAt, asIntOf, Instr.sureAddr, Sem.run_bind, Sem.run_pure, Result.andThen_ok, run_underlying hu, i0, i2, and_self, if_true, sizeOf, typeInfo, run_program, hinf, addr_add, Sem.run_ite]
  · rename_i e e' es k i hu e1 e2
    rw [e1] at hx; rw [e2] at hix
    obtain ⟨he, h1⟩ := run_test _ _ _ h
    obtain ⟨hb, h2⟩ := run_test _ _ _ h1
    obtain ⟨i0, i1, i2⟩ := inB_of hb
    have := Nat.eq_of_beq_eq_true he
    subst this
    have hl := hx.leaf
    have hl2 : RP P (NN D β st.boxes w.heap) w.heap (.sl e) (.l es) (a.eval x) := hl
    generalize hv : a.eval x = u at hl2
    cases hl2 with
    | nil => exact absurd i1 (Nat.not_lt_zero _)
    | sl _ ts _ b off cap vs q0 q1 hN q2 q3 q4 =>
      refine wp_val (v := .pointer (some ⟨b, off + i.toNat * ts.length + 0, none⟩)) (w' := w) ?_ (R.good_put (x := .v (.ep e es i 0)) (.v _ _ ⟨ts, b, off, cap, q1, .sl e ts es b off cap vs q0 q1 hN q2 q3 q4, i0, i1, rfl⟩) h2)
      simp only [execOp, ho, hv, int_leaf hix, Instr.indexAt, asIntOf, Sem.run_bind, Sem.run_pure, Result.andThen_ok, run_underlying hu, i0, i2, and_self, if_true, run_sizeOf q1, addr_add, Sem.run_ite, Nat.add_zero]
  · rename_i e id k i hu e1 e2
    rw [e1] at hx; rw [e2] at hix
    rw [run_getB] at h
    split at h
    · rename_i e' es hbx
      obtain ⟨he, h1⟩ := run_test _ _ _ h
      obtain ⟨hb, h2⟩ := run_test _ _ _ h1
      obtain ⟨i0, i1, i2⟩ := inB_of hb
      have := Nat.eq_of_beq_eq_true he
      subst this
      obtain ⟨hd, g1, g2⟩ := hx.leaf
      obtain ⟨hd', f1, ts, f2, f3, f4, f5, f6, f7⟩ := R.mem.bx id _ hbx
      rw [g1] at f1; cases f1
      rcases g2 with ⟨g2, g3, _⟩ | ⟨b, g2, hv⟩
      · omega
      · refine wp_val (v := .pointer (some ⟨b, i.toNat * hd.sz + 0, none⟩)) (w' := w) ?_ (R.good_put (x := .v (.wp id i 0)) (.v _ _ ⟨hd, b, g1, g2, rfl⟩) h2)
        have i2' : i < (hd.len : Int) := by omega
        simp only [execOp, ho, hv, int_leaf hix, Instr.indexAt, asIntOf, Sem.run_bind, Sem.run_pure, Result.andThen_ok, run_underlying hu, i0, i2', and_self, if_true, run_sizeOf f2, f3, addr_add, Sem.run_ite, Nat.add_zero, Nat.zero_add]
    · simp [Acc.run] at h
  · simp [Acc.run] at h

theorem op_len (R : Rel P h0 W D β S st a w) {c : Call} (ho : o.op = .call c) (hc : c.callee = .builtin .len) (h : (opK P A F o st.r j).run call st K = some res) :
    o.wp P a w (Good P h0 W D S st.r st.q K res) Q := by
  simp only [opK, ho, hc] at h
  split at h
  case h_2 => simp [Acc.run] at h
  rename_i t x ht hx
  rw [run_evK] at h
  have hv := R.ev x
  have a1 : c.argTypes[0]? = some t := by rw [← Array.getElem?_toList, ht]; rfl
  have a2 : (c.args.map a.eval)[0]? = some (a.eval x) := by rw [Array.getElem?_map, ← Array.getElem?_toList, hx]; rfl
  have run : ∀ n : Int, (Builtin.len_ c.argTypes o.type (c.args.map a.eval)).run P w = .ok (.int .i64 n) w → (execOp a.eval o).run P w = .ok (.value (.int .i64 n)) w := by
    intro n hn
    simp only [execOp, ho, resolve, hc, invoke, builtin, Sem.run_bind, Sem.run_pure, Result.andThen_ok, hn]
  split at h
  · rename_i s hu e
    rw [e] at hv
    obtain ⟨y, hy, rfl⟩ := str_leaf hv
    refine wp_val (v := .int .i64 y.size) (w' := w) (run _ ?_) (R.good_put (.v (.int .i64 _) _ (by rw [str_size]; rfl)) h)
    simp [Builtin.len_, a1, a2, hy, run_underlying hu, goInt]
  · rename_i e l hu e'
    rw [e'] at hv
    obtain ⟨es, ⟨a', cap, hes, _, _⟩, h⟩ := listK_of R hv.leaf h
    refine wp_val (v := .int .i64 es.length) (w' := w) (run _ ?_) (R.good_put (.v (.int .i64 _) _ rfl) h)
    simp [Builtin.len_, a1, a2, hes, run_underlying hu, goInt]
  · rename_i n e hu
    refine wp_val (v := .int .i64 n) (w' := w) (run _ ?_) (R.good_put (.v (.int .i64 _) _ rfl) h)
    simp [Builtin.len_, a1, a2, run_underlying hu, goInt]
  · rename_i t' hu
    split at h
    · rename_i n e hu'
      refine wp_val (v := .int .i64 n) (w' := w) (run _ ?_) (R.good_put (.v (.int .i64 _) _ rfl) h)
      simp [Builtin.len_, a1, a2, run_underlying hu, run_underlying hu', goInt]
    · simp [Acc.run] at h
  · simp [Acc.run] at h

theorem foldMM_of (mx : Bool) : ∀ (as : List AV) (l l' : AL) (v : Value) (vs : List Value) (w : World), foldMM mx l as = some l' → LR P (NN D β st.boxes w.heap) w.heap β l v → vs.length = as.length →
    (∀ i, i < as.length → VR P (NN D β st.boxes w.heap) w.heap β (as.getD i .any) (vs.getD i undef)) →
    ∃ u, (vs.foldlM (if mx then Builtin.max2 else Builtin.min2) v).run P w = .ok u w ∧ LR P (NN D β st.boxes w.heap) w.heap β l' u
  | [], l, l', v, vs, w, h, hl, hs, hv => by
    cases vs with
    | nil => simp only [foldMM, Option.some.injEq] at h; subst h; exact ⟨v, by simp, hl⟩
    | cons => simp at hs
  | x :: as, l, l', v, vs, w, h, hl, hs, hv => by
    cases vs with
    | nil => simp at hs
    | cons u vs =>
      unfold foldMM at h
      split at h
      · rename_i e; cases e
      · rename_i k n k' m as' e
        cases e
        by_cases ek : k = k'
        · subst ek
          simp only [decide_true, cond_true] at h
          have hu := int_leaf (by simpa using hv 0 (by simp) : VR P _ _ β (.v (.int k m)) u)
          cases hl; subst hu
          have ih := foldMM_of mx as _ l' (.int k (bif mx then (bif decide (m > n) then m else n) else (bif decide (m < n) then m else n))) vs w h rfl (by simpa using hs) (fun i hi => by simpa using hv (i + 1) (by simpa using hi))
          obtain ⟨z, hz1, hz2⟩ := ih
          refine ⟨z, ?_, hz2⟩
          rw [List.foldlM_cons, Sem.run_bind, ← hz1]
          cases mx <;> simp [Builtin.max2, Builtin.min2, Bool.cond_eq_ite]
        · simp [ek] at h
      · cases h

theorem op_minmax (R : Rel P h0 W D β S st a w) {c : Call} (mx : Bool) (ho : o.op = .call c) (hc : c.callee = .builtin (if mx then .max else .min)) (h : (opK P A F o st.r j).run call st K = some res) :
    o.wp P a w (Good P h0 W D S st.r st.q K res) Q := by
  have hv := R.evs c.args.toList
  have key : ∀ l vs, c.args.toList.map st.ev = .v l :: vs → ∀ l', foldMM mx l vs = some l' → (putK o.dst (.v l') .done).run call st K = some res → o.wp P a w (Good P h0 W D S st.r st.q K res) Q := by
    intro l vs e l' hl' h'
    cases hargs : c.args.toList with
    | nil => rw [hargs] at e; cases e
    | cons x xs =>
      rw [hargs] at e hv
      simp only [List.map_cons, List.cons.injEq] at e
      obtain ⟨e1, e2⟩ := e
      have hx := R.ev x
      rw [e1] at hx
      obtain ⟨u, hu1, hu2⟩ := foldMM_of mx (xs.map st.ev) l l' (a.eval x) (xs.map a.eval) w (e2 ▸ hl') hx.leaf (by simp) (fun i hi => by
        have := hv (i + 1) (by simpa using hi)
        simpa using this)
      refine wp_val (v := u) (w' := w) ?_ (R.good_put (.v _ _ hu2) h')
      have hb : (c.args.map a.eval).toList = a.eval x :: xs.map a.eval := by rw [Array.toList_map, hargs]; rfl
      cases mx
      · simp only [if_false, Bool.false_eq_true] at hc hu1
        simp only [execOp, ho, resolve, hc, invoke, builtin, Builtin.min_, Sem.run_bind, Sem.run_pure, Result.andThen_ok, hb, hu1]
      · simp only [if_true] at hc hu1
        simp only [execOp, ho, resolve, hc, invoke, builtin, Builtin.max_, Sem.run_bind, Sem.run_pure, Result.andThen_ok, hb, hu1]
  cases mx
  all_goals
    simp only [if_true, if_false, Bool.false_eq_true] at hc
    simp only [opK, ho, hc, run_evsK] at h
    split at h
    case h_2 => simp [Acc.run] at h
    rename_i l vs e
    obtain ⟨l', hl', h⟩ := run_orFail _ _ _ h
    exact key l vs e l' hl' h
end
end Go.AI
