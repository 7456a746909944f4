/- The interpreter's soundness, twenty-ninth part: what a loop or a cut keeps. -/
import Derived.Test.YtbaajplajjfgcaaGreatAiD
import Derived.Scope
import Derived.KernelRfl
set_option linter.unusedVariables false
set_option linter.unusedSimpArgs false
namespace Go.AI
open Go

/-- new names, as they are while both live -/
def gK (r j : Nat) (bs : List Id) (x : Id) : Id := if memI x bs then x else .z r j x

section
variable {P : Program} {N N' : Nat → Prop} {hp : Array Obj} {β0 β : GM} {r j : Nat} {bs : List Id}

theorem stripL_of (e : Ext N hp β0 N' hp β) {l : AL} {v : Value} (h : LR P N hp β0 l v) : LR P N' hp (fun x => β (gK r j bs x)) (stripL bs l) v := by
  have keep : ∀ {id : Id} {off : Nat} {v : Value}, memI id bs = true → PtrV β0 id off v → PtrV (fun x => β (gK r j bs x)) id off v := fun {id off v} hm hv => by
    obtain ⟨k, b, h1, h2, h3⟩ := hv
    exact ⟨k, b, by show β (gK r j bs id) = _; unfold gK; rw [if_pos hm]; exact e.g _ _ h1, h2, h3⟩
  cases l with
  | int k n => exact h
  | bool b => exact h
  | str s => exact h
  | sl t es => exact RP.mono e.n h
  | nils => exact h
  | ptr id off =>
    show LR P N' hp _ (bif memI id bs then .ptr id off else .dead) v
    cases hm : memI id bs with
    | true => exact keep hm h
    | false => exact LR.one (l := .ptr id off) (β := β0) (P := P) (N := N) (hp := hp) h
  | ep t es i off => obtain ⟨ts, b, o, cap, h1, h2, h3⟩ := h; exact ⟨ts, b, o, cap, h1, RP.mono e.n h2, h3⟩
  | wr id => exact LR.one (l := .wr id) (β := β0) (P := P) (N := N) (hp := hp) h
  | wp id i off => exact LR.one (l := .wp id i off) (β := β0) (P := P) (N := N) (hp := hp) h
  | nilp => exact h
  | fn f cap =>
    show LR P N' hp _ (bif cap.all (memI · bs) then .fn f cap else .dead) v
    cases hm : cap.all (memI · bs) with
    | true =>
      obtain ⟨vs, h1, h2, h3⟩ := h
      refine ⟨vs, h1, h2, fun i hi => keep ?_ (h3 i hi)⟩
      have := List.all_eq_true.1 hm (cap.getD i (.p 0)) (by rw [getD_eq hi]; exact List.getElem_mem hi)
      exact this
    | false => exact LR.one (l := .fn f cap) (β := β0) (P := P) (N := N) (hp := hp) h
  | dead => exact h
theorem stripV_of (e : Ext N hp β0 N' hp β) {x : AV} {v : Value} (h : VR P N hp β0 x v) : VR P N' hp (fun x => β (gK r j bs x)) (stripV bs x) v := by
  cases h with
  | v l v h => exact .v _ _ (stripL_of e h)
  | agg ls vs hl h =>
    refine .agg _ _ (by simpa using hl) fun i hi => ?_
    have hi' : i < ls.length := by simpa using hi
    rw [getD_eq (by simpa using hi'), List.getElem_map]
    have := stripL_of (r := r) (j := j) (bs := bs) e (h i hi')
    rwa [getD_eq hi'] at this
  | tup as vs hl h => exact .any _
  | und => exact .any _
  | any v => exact .any v
/-- a cell without names -/
theorem stripL_nil (e : Ext N hp β0 N' hp β) {l : AL} {v : Value} (h : LR P N hp β0 l v) (g : Id → Id) : LR P N' hp β ((stripL [] l).mapId g) v := by
  have one := LR.one h
  cases l with
  | int k n => exact h
  | bool b => exact h
  | str s => exact h
  | sl t es => exact RP.mono e.n h
  | nils => exact h
  | ptr id off => exact one
  | ep t es i off => obtain ⟨ts, b, o, cap, h1, h2, h3⟩ := h; exact ⟨ts, b, o, cap, h1, RP.mono e.n h2, h3⟩
  | wr id => exact one
  | wp id i off => exact one
  | nilp => exact h
  | fn f cap =>
    cases cap with
    | nil =>
      obtain ⟨vs, h1, h2, h3⟩ := h
      exact ⟨vs, h1, h2, fun i hi => absurd hi (Nat.not_lt_zero _)⟩
    | cons c cap => exact one
  | dead => exact h
end

/-- on the way from old names to new ones -/
structure KS (P : Program) (h0 : Array Obj) (W : Wr) (D : Nat → Prop) (β0 β : GM) (S : Nat → Prop) (st : St) (r j : Nat) (bs : List Id) (tmps : List (Nat × AV)) (left LB : Id → Option Box) (a : Act) (w : World) : Prop where
  rel : RelZ P h0 W D β S { st with boxes := left } (zOver r j LB) a w
  nm : ∀ x, β (.z r j x) ≠ none → LB x ≠ none
  hr : st.r = r
  sj : S j
  ext : Ext (NN D β0 st.boxes w.heap) w.heap β0 (NN D β (joint left (zOver r j LB)) w.heap) w.heap β
  tm : ∀ t x, (t, x) ∈ tmps → ∀ v, VR P (NN D β0 st.boxes w.heap) w.heap β0 (st.tmps t) v → VR P (NN D β (joint left (zOver r j LB)) w.heap) w.heap (fun x => β (gK r j bs x)) x v

section
variable {P : Program} {A : Ann} {h0 : Array Obj} {W : Wr} {D : Nat → Prop} {β0 β : GM} {S : Nat → Prop} {st : St} {r j : Nat} {bs : List Id} {tmps : List (Nat × AV)} {left LB : Id → Option Box} {a : Act} {w : World}

theorem KS.step (k : KS P h0 W D β0 β S st r j bs tmps left LB a w) {β' : GM} {left' LB' : Id → Option Box} (R : RelZ P h0 W D β' S { st with boxes := left' } (zOver r j LB') a w) (nm : ∀ x, β' (.z r j x) ≠ none → LB' x ≠ none)
    (e : Ext (NN D β (joint left (zOver r j LB)) w.heap) w.heap β (NN D β' (joint left' (zOver r j LB')) w.heap) w.heap β') : KS P h0 W D β0 β' S st r j bs tmps left' LB' a w :=
  ⟨R, nm, k.hr, k.sj, k.ext.trans e, fun t x h v hv => VR.mono (e.comp (gK r j bs)) (k.tm t x h v hv)⟩
theorem KS.slot (k : KS P h0 W D β0 β S st r j bs tmps left LB a w) {t : Nat} {x : AV} (h : ∀ v, VR P (NN D β0 st.boxes w.heap) w.heap β0 (st.tmps t) v → VR P (NN D β (joint left (zOver r j LB)) w.heap) w.heap (fun x => β (gK r j bs x)) x v) :
    KS P h0 W D β0 β S st r j bs ((t, x) :: tmps) left LB a w :=
  ⟨k.rel, k.nm, k.hr, k.sj, k.ext, fun t' x' hm => by
    rcases List.mem_cons.1 hm with e | hm
    · cases e; exact h
    · exact k.tm t' x' hm⟩

theorem KS.free (k : KS P h0 W D β0 β S st r j bs tmps left LB a w) {y : Id} (hy : LB y = none) : β (.z r j y) = none := by
  cases h : β (.z r j y) with
  | none => rfl
  | some x => exact absurd hy (k.nm y (by rw [h]; simp))

theorem KS.send (k : KS P h0 W D β0 β S st r j bs tmps left LB a w) {id : Id} {x : Box} (hx : left id = some x) (hx0 : x.isFroz = false) {h : Hdr} (hh : β id = some h) (y : Id) (x' : Box) (hf : x'.isFroz = false)
    (hy : LB y = none) (hx' : ∀ β' N, Ext (NN D β (joint left (zOver r j LB)) w.heap) w.heap β N w.heap β' → β' (.z r j y) = some h → BoxR P N w.heap β' (.z r j y) (x'.mapId (.z r j))) :
    KS P h0 W D β0 (updB β (.z r j y) (some h)) S st r j bs tmps (updB left id none) (updB LB y (some x')) a w ∧
      Ext (NN D β (joint left (zOver r j LB)) w.heap) w.heap β (NN D (updB β (.z r j y) (some h)) (joint (updB left id none) (zOver r j (updB LB y (some x')))) w.heap) w.heap (updB β (.z r j y) (some h)) := by
  have ho : Old st.r S (.z r j y) := .inr ⟨k.hr.symm, k.sj⟩
  obtain ⟨z1, z2⟩ := k.rel.send hx hx0 (zid := .z r j y) rfl ho (k.free hy) hh (x'.mapId (.z r j)) (by rw [isFroz_mapId]; exact hf) (fun β' B' e hb => hx' β' _ e hb)
  rw [← zOver_upd] at z1 z2
  refine ⟨k.step z1 (fun z hz => ?_) z2, z2⟩
  by_cases e : z = y
  · subst e; rw [updB_same]; simp
  · rw [updB_ne _ _ e]; rw [updB_ne _ _ (by intro c; cases c; exact e rfl)] at hz; exact k.nm z hz
theorem KS.sendNil (k : KS P h0 W D β0 β S st r j bs tmps left LB a w) {e : TypeId} {ts : List LTy} (hts : leaves P e = some ts) (y : Id) (hy : LB y = none) :
    KS P h0 W D β0 (updB β (.z r j y) (some ⟨none, 0, 0, ts.length⟩)) S st r j bs tmps left (updB LB y (some (.row e []))) a w ∧
      Ext (NN D β (joint left (zOver r j LB)) w.heap) w.heap β (NN D (updB β (.z r j y) (some ⟨none, 0, 0, ts.length⟩)) (joint left (zOver r j (updB LB y (some (.row e []))))) w.heap) w.heap (updB β (.z r j y) (some ⟨none, 0, 0, ts.length⟩)) := by
  have ho : Old st.r S (.z r j y) := .inr ⟨k.hr.symm, k.sj⟩
  obtain ⟨z1, z2⟩ := k.rel.sendNil (zid := .z r j y) rfl ho (k.free hy) hts
  have ej : zOver r j (updB LB y (some (.row e []))) = updB (zOver r j LB) (.z r j y) (some (.row e [])) := zOver_upd r j LB y (.row e [])
  rw [← ej] at z1 z2
  refine ⟨k.step z1 (fun z hz => ?_) z2, z2⟩
  by_cases e : z = y
  · subst e; rw [updB_same]; simp
  · rw [updB_ne _ _ e]; rw [updB_ne _ _ (by intro c; cases c; exact e rfl)] at hz; exact k.nm z hz
theorem KS.drop (k : KS P h0 W D β0 β S st r j bs tmps left LB a w) {id : Id} (hn : id.isZ = false) : KS P h0 W D β0 β S st r j bs tmps (updB left id none) LB a w ∧
    Ext (NN D β (joint left (zOver r j LB)) w.heap) w.heap β (NN D β (joint (updB left id none) (zOver r j LB)) w.heap) w.heap β := by
  obtain ⟨z1, z2⟩ := k.rel.drop hn
  exact ⟨k.step z1 k.nm z2, z2⟩
end
end Go.AI
set_option linter.unusedVariables false
set_option linter.unusedSimpArgs false
namespace Go.AI
open Go

/-- the kept boxes -/
def kB (l : List (Id × Box)) : Id → Option Box := ov (fun _ => none) l.reverse
theorem kB_cons (x : Id) (b : Box) (l : List (Id × Box)) : kB ((x, b) :: l) = updB (kB l) x (some b) := by
  unfold kB
  rw [List.reverse_cons, ov_append]
  rfl
theorem kB_none {x : Id} {l : List (Id × Box)} (h : x ∉ l.map (·.1)) : kB l x = none := by
  unfold kB
  rw [ov_ne]
  intro y hy e
  exact h (e ▸ List.mem_map_of_mem (List.mem_reverse.1 hy))

section
variable {P : Program} {A : Ann} {h0 : Array Obj} {W : Wr} {D : Nat → Prop} {β0 β : GM} {S : Nat → Prop} {st : St} {r j : Nat} {bs : List Id} {a : Act} {w : World}

theorem lookT_mem : ∀ (l : List (Nat × AV)) (t : Nat), lookT l t = .any ∨ (t, lookT l t) ∈ l
  | [], t => .inl rfl
  | (k, v) :: l, t => by
    simp only [lookT]
    cases hb : Nat.beq t k with
    | true => have := Nat.eq_of_beq_eq_true hb; subst this; exact .inr (List.mem_cons_self ..)
    | false => exact (lookT_mem l t).imp id (List.mem_cons_of_mem _)

theorem keepSlot_of (Z0 : ∀ id x, st.boxes id = some x → id.isZ = false) {k k' : Kept} (K : KS P h0 W D β0 β S st r j bs k.tmps k.left (kB k.boxes) a w) (sub : ∀ id x, k.left id = some x → st.boxes id = some x) {t : Nat} {s : SK} (h : keepSlot P bs st k t s = some k')
    (hn : (k'.boxes.map (·.1)).Nodup) (hw : memI (.w t) bs = false) : (∃ β', KS P h0 W D β0 β' S st r j bs k'.tmps k'.left (kB k'.boxes) a w) ∧ (∀ id x, k'.left id = some x → st.boxes id = some x) := by
  have sub' : ∀ i, (∀ id x, updB k.left i none id = some x → st.boxes id = some x) := fun i id x hx => by
    rcases updB_some _ _ hx with ⟨_, e⟩ | ⟨_, e⟩
    · cases e
    · exact sub id x e
  -- a row that is left
  have rowOf : ∀ {id e es v}, k.left id = some (.row e es) → LR P (NN D β0 st.boxes w.heap) w.heap β0 (.wr id) v → ∃ hd, β id = some hd ∧ RowAt P (NN D β (joint k.left (zOver r j (kB k.boxes))) w.heap) w.heap hd e es ∧ id.isZ = false ∧
      ((hd.blk = none ∧ hd.len = 0 ∧ ∃ a, v = .slice a 0 0) ∨ ∃ b, hd.blk = some b ∧ v = .slice (some ⟨b, 0, none⟩) hd.len hd.cap) := by
    intro id e es v hl hv
    have hn := Z0 id _ (sub id _ hl)
    obtain ⟨hd, h1, h2⟩ := K.rel.mem.bx id (.row e es) (by rw [joint_n hn]; exact hl)
    obtain ⟨hd', g1, g2⟩ := hv
    have := K.ext.g _ _ g1
    rw [h1] at this; cases this
    exact ⟨hd, h1, h2, hn, g2⟩
  have hgw : gK r j bs (.w t) = .z r j (.w t) := by unfold gK; rw [if_neg (by rw [hw]; simp)]
  cases s with
  | any =>
    simp only [keepSlot, Option.some.injEq] at h
    subst h
    exact ⟨⟨β, K.slot fun v hv => stripV_of K.ext hv⟩, sub⟩
  | pl e =>
    simp only [keepSlot] at h
    split at h
    · rename_i ht
      cases h
      refine ⟨⟨β, K.slot fun v hv => ?_⟩, sub⟩
      rw [ht] at hv
      obtain ⟨x, rfl⟩ := hv.leaf
      exact .v _ _ (.nil e x)
    · rename_i e' es ht
      cases hb : Nat.beq e e' with
      | false => simp [hb] at h
      | true =>
        have := Nat.eq_of_beq_eq_true hb
        subst this
        rw [hb, cond_true] at h
        cases h
        refine ⟨⟨β, K.slot fun v hv => ?_⟩, sub⟩
        rw [ht] at hv
        exact .v _ _ (RP.mono K.ext.n hv.leaf)
    · rename_i id ht
      split at h
      · rename_i e' es hl
        cases hb : Nat.beq e e' with
        | false => simp [hb] at h
        | true =>
          have := Nat.eq_of_beq_eq_true hb
          subst this
          rw [hb, cond_true] at h
          cases h
          have hn := Z0 id _ (sub id _ hl)
          obtain ⟨K', e1⟩ := K.drop (id := id) hn
          refine ⟨⟨β, K'.slot fun v hv => ?_⟩, sub' id⟩
          rw [ht] at hv
          obtain ⟨hd, h1, h2, _, h3⟩ := rowOf hl hv.leaf
          refine .v _ _ (row_RP (h2.mono e1.n (fun _ _ => rfl)) (fun b hb' => ?_) h3)
          have := K.rel.mem.drop_free (by rw [joint_n hn]; exact hl) h1 hb'
          rw [← joint_updn hn] at this
          exact this
      · cases h
    · cases h
  | row e =>
    simp only [keepSlot] at h
    split at h
    · rename_i ht
      cases hs : (leaves P e).isSome with
      | false => simp [hs] at h
      | true =>
        rw [hs, cond_true] at h
        cases h
        obtain ⟨ts, hts⟩ := Option.isSome_iff_exists.1 hs
        simp only [List.map_cons, List.nodup_cons] at hn
        obtain ⟨K', e1⟩ := K.sendNil hts (.w t) (kB_none hn.1)
        rw [← kB_cons] at K' e1
        refine ⟨⟨_, K'.slot fun v hv => ?_⟩, sub⟩
        rw [ht] at hv
        obtain ⟨x, rfl⟩ := hv.leaf
        exact .v _ _ ⟨_, by show updB β _ _ (gK r j bs (.w t)) = _; rw [hgw, updB_same], .inl ⟨rfl, rfl, x, rfl⟩⟩
    · rename_i id ht
      split at h
      · rename_i e' es hl
        cases hb : Nat.beq e e' with
        | false => simp [hb] at h
        | true =>
          have := Nat.eq_of_beq_eq_true hb
          subst this
          rw [hb, cond_true] at h
          cases h
          simp only [List.map_cons, List.nodup_cons] at hn
          have hz := Z0 id _ (sub id _ hl)
          obtain ⟨hd, h1, h2⟩ := K.rel.mem.bx id (.row e es) (by rw [joint_n hz]; exact hl)
          obtain ⟨K', e1⟩ := K.send hl rfl h1 (.w t) (.row e es) rfl (kB_none hn.1) (fun β' N ex hβ => ⟨hd, hβ, h2.mono ex.n (fun _ _ => rfl)⟩)
          rw [← kB_cons] at K' e1
          refine ⟨⟨_, K'.slot fun v hv => ?_⟩, sub' id⟩
          rw [ht] at hv
          obtain ⟨hd', g1, g2, _, g3⟩ := rowOf hl hv.leaf
          rw [h1] at g1; cases g1
          exact .v _ _ ⟨hd, by show updB β _ _ (gK r j bs (.w t)) = _; rw [hgw, updB_same], g3⟩
      · cases h
    · cases h
  | al t' =>
    simp only [keepSlot] at h
    split at h
    · rename_i id id' ht ht'
      cases hb : id.beq id' with
      | false => simp [hb] at h
      | true =>
        have := (Id.beq_iff _ _).1 hb
        subst this
        rw [hb, cond_true] at h
        cases h
        refine ⟨⟨β, K.slot fun v hv => ?_⟩, sub⟩
        rcases lookT_mem k.tmps t' with e | e
        · rw [e]; exact .any _
        · exact K.tm t' _ e v (by rw [ht'] ; rw [ht] at hv; exact hv)
    · cases h

theorem keepSlot_boxes {k k' : Kept} {t : Nat} {s : SK} (h : keepSlot P bs st k t s = some k') : ∃ l, k'.boxes = l ++ k.boxes := by
  cases s with
  | any => simp only [keepSlot, Option.some.injEq] at h; subst h; exact ⟨[], rfl⟩
  | pl e =>
    simp only [keepSlot] at h
    split at h
    · cases h; exact ⟨[], rfl⟩
    · rename_i e' es ht
      cases hb : Nat.beq e e' with
      | false => simp [hb] at h
      | true => rw [hb, cond_true] at h; cases h; exact ⟨[], rfl⟩
    · split at h
      · rename_i e' es hl
        cases hb : Nat.beq e e' with
        | false => simp [hb] at h
        | true => rw [hb, cond_true] at h; cases h; exact ⟨[], rfl⟩
      · cases h
    · cases h
  | row e =>
    simp only [keepSlot] at h
    split at h
    · cases hs : (leaves P e).isSome with
      | false => simp [hs] at h
      | true => rw [hs, cond_true] at h; cases h; exact ⟨[_], rfl⟩
    · split at h
      · rename_i e' es hl
        cases hb : Nat.beq e e' with
        | false => simp [hb] at h
        | true => rw [hb, cond_true] at h; cases h; exact ⟨[_], rfl⟩
      · cases h
    · cases h
  | al t' =>
    simp only [keepSlot] at h
    split at h
    · rename_i id id' ht ht'
      cases hb : id.beq id' with
      | false => simp [hb] at h
      | true => rw [hb, cond_true] at h; cases h; exact ⟨[], rfl⟩
    · cases h
theorem keepSlots_boxes : ∀ (l : List (Nat × SK)) (k k' : Kept), keepSlots P bs st k l = some k' → ∃ m, k'.boxes = m ++ k.boxes
  | [], k, k', h => by cases h; exact ⟨[], rfl⟩
  | (t, s) :: l, k, k', h => by
    simp only [keepSlots] at h
    split at h
    · rename_i k1 h1
      obtain ⟨m1, e1⟩ := keepSlot_boxes h1
      obtain ⟨m2, e2⟩ := keepSlots_boxes l k1 k' h
      exact ⟨m2 ++ m1, by rw [e2, e1, List.append_assoc]⟩
    · cases h
theorem nodup_app {γ : Type} {l m : List γ} (h : (l ++ m).Nodup) : m.Nodup := (List.nodup_append.1 h).2.1

theorem keepSlots_of (Z0 : ∀ id x, st.boxes id = some x → id.isZ = false) (hw : ∀ t, memI (.w t) bs = false) : ∀ (l : List (Nat × SK)) (k k' : Kept) (β : GM), KS P h0 W D β0 β S st r j bs k.tmps k.left (kB k.boxes) a w →
    (∀ id x, k.left id = some x → st.boxes id = some x) → keepSlots P bs st k l = some k' → (k'.boxes.map (·.1)).Nodup →
    (∃ β', KS P h0 W D β0 β' S st r j bs k'.tmps k'.left (kB k'.boxes) a w) ∧ (∀ id x, k'.left id = some x → st.boxes id = some x)
  | [], k, k', β, K, sub, h, _ => by cases h; exact ⟨⟨β, K⟩, sub⟩
  | (t, s) :: l, k, k', β, K, sub, h, hn => by
    simp only [keepSlots] at h
    split at h
    · rename_i k1 h1
      obtain ⟨m, e⟩ := keepSlots_boxes l k1 k' h
      obtain ⟨⟨β1, K1⟩, sub1⟩ := keepSlot_of Z0 K sub h1 (by rw [e, List.map_append] at hn; exact nodup_app hn) (hw t)
      exact keepSlots_of Z0 hw l k1 k' β1 K1 sub1 h hn
    · cases h
end
end Go.AI
set_option linter.unusedVariables false
set_option linter.unusedSimpArgs false
namespace Go.AI
open Go

theorem keepCells_keys {P : Program} {own : Nat → TypeId → Bool} {id : Id} : ∀ (ts : List LTy) (ls : List AL) (c : Nat) (k : Kept) (ls' : List AL) (k' : Kept), keepCells P own id k ts ls c = some (ls', k') →
    ∃ m, k'.boxes = m ++ k.boxes ∧ k'.tmps = k.tmps ∧ ∀ x, x ∈ m → ∃ c', x.1 = .c id c'
  | [], [], c, k, ls', k', h => by cases h; exact ⟨[], rfl, rfl, fun x hx => by cases hx⟩
  | [], _ :: _, c, k, ls', k', h => by cases h
  | t :: ts, [], c, k, ls', k', h => by cases t <;> cases h
  | t :: ts, l :: ls, c, k, ls', k', h => by
    have fin : ∀ {k1 : Kept} {l' : AL} {o : Option (List AL × Kept)}, k1.tmps = k.tmps → (∃ m, k1.boxes = m ++ k.boxes ∧ ∀ x, x ∈ m → ∃ c', x.1 = Id.c id c') →
        (match keepCells P own id k1 ts ls (c + 1) with | some (ls', k'') => some (l' :: ls', k'') | none => none) = some (ls', k') →
        ∃ m, k'.boxes = m ++ k.boxes ∧ k'.tmps = k.tmps ∧ ∀ x, x ∈ m → ∃ c', x.1 = .c id c' := by
      intro k1 l' o ht ⟨m, e1, e2⟩ h
      split at h
      · rename_i ls2 k2 h2
        cases h
        obtain ⟨m2, g1, g2, g3⟩ := keepCells_keys ts ls (c + 1) k1 _ _ h2
        refine ⟨m2 ++ m, by rw [g1, e1, List.append_assoc], g2.trans ht, fun x hx => ?_⟩
        rcases List.mem_append.1 hx with hx | hx
        · exact g3 x hx
        · exact e2 x hx
      · cases h
    have nil0 : ∃ m : List (Id × Box), k.boxes = m ++ k.boxes ∧ ∀ x, x ∈ m → ∃ c', x.1 = Id.c id c' := ⟨[], rfl, fun x hx => by cases hx⟩
    cases t with
    | sl e =>
      simp only [keepCells] at h
      split at h
      · cases hs : (leaves P e).isSome with
        | false => simp [hs] at h
        | true =>
          rw [hs, cond_true] at h
          exact fin (k1 := { k with boxes := (.c id c, .row e []) :: k.boxes }) (o := none) rfl ⟨[_], rfl, fun x hx => by simp at hx; subst hx; exact ⟨c, rfl⟩⟩ h
      · split at h
        · rename_i e' es hl
          cases hb : Nat.beq e e' with
          | false => simp [hb] at h
          | true =>
            rw [hb, cond_true] at h
            exact fin (k1 := { k.strike _ with boxes := (.c id c, .row e es) :: k.boxes }) (o := none) rfl ⟨[_], rfl, fun x hx => by simp at hx; subst hx; exact ⟨c, rfl⟩⟩ h
        · cases h
      · exact fin (k1 := k) (o := none) rfl nil0 h
      · rename_i e' es _
        cases hb : Nat.beq e e' with
        | false => simp [hb] at h
        | true => rw [hb, cond_true] at h; exact fin (k1 := k) (o := none) rfl nil0 h
      · split at h
        · rename_i e' es hl
          cases hb : Nat.beq e e' with
          | false => simp [hb] at h
          | true => rw [hb, cond_true] at h; exact fin (k1 := k.strike _) (o := none) rfl nil0 h
        · cases h
      · cases h
    | _ => exact fin (k1 := k) (o := none) rfl nil0 h

section
variable {P : Program} {A : Ann} {h0 : Array Obj} {W : Wr} {D : Nat → Prop} {β0 β : GM} {S : Nat → Prop} {st : St} {r j : Nat} {bs : List Id} {a : Act} {w : World}

theorem keepCells_of (Z0 : ∀ id x, st.boxes id = some x → id.isZ = false) {own : Nat → TypeId → Bool} {id : Id} : ∀ (ts : List LTy) (ls : List AL) (vs : List Value) (c : Nat) (k : Kept) (ls' : List AL) (k' : Kept) (β : GM) (LB : Id → Option Box),
    KS P h0 W D β0 β S st r j bs k.tmps k.left LB a w → (∀ id x, k.left id = some x → st.boxes id = some x) → keepCells P own id k ts ls c = some (ls', k') → ∀ m, k'.boxes = m ++ k.boxes → (m.map (·.1)).Nodup → (∀ x, x ∈ m → LB x.1 = none) →
    vs.length = ls.length → (∀ i, i < ls.length → LR P (NN D β (joint k.left (zOver r j LB)) w.heap) w.heap β (ls.getD i .dead) (vs.getD i undef)) →
    ∃ β', KS P h0 W D β0 β' S st r j bs k'.tmps k'.left (ov LB m.reverse) a w ∧ (∀ id x, k'.left id = some x → st.boxes id = some x) ∧
      Ext (NN D β (joint k.left (zOver r j LB)) w.heap) w.heap β (NN D β' (joint k'.left (zOver r j (ov LB m.reverse))) w.heap) w.heap β' ∧ ls.length = ts.length ∧ ls'.length = ls.length ∧
      ∀ i, i < ls'.length → LR P (NN D β' (joint k'.left (zOver r j (ov LB m.reverse))) w.heap) w.heap β' ((ls'.getD i .dead).mapId (.z r j)) (vs.getD i undef) := by
  intro ts
  induction ts with
  | nil =>
    intro ls vs c k ls' k' β LB K sub h m hm hn hf hl hv
    cases ls with
    | cons l ls => cases h
    | nil =>
      cases h
      have : m = [] := by simpa using hm
      subst this
      exact ⟨β, K, sub, Ext.refl _ _ _, rfl, rfl, fun i hi => absurd hi (Nat.not_lt_zero _)⟩
  | cons t ts ih =>
    intro ls vs c k ls' k' β LB K sub h m hm hn hf hl hv
    cases ls with
    | nil => cases t <;> cases h
    | cons l ls =>
      cases vs with
      | nil => simp at hl
      | cons v vs =>
        have hv0 : LR P (NN D β (joint k.left (zOver r j LB)) w.heap) w.heap β l v := by simpa using hv 0 (by simp)
        have fin : ∀ {k1 : Kept} {l' : AL} {β1 : GM} (mh : List (Id × Box)), mh.length ≤ 1 → k1.boxes = mh ++ k.boxes → (∀ x, x ∈ mh → x ∈ m → LB x.1 = none) →
            KS P h0 W D β0 β1 S st r j bs k1.tmps k1.left (ov LB mh.reverse) a w → (∀ id x, k1.left id = some x → st.boxes id = some x) →
            Ext (NN D β (joint k.left (zOver r j LB)) w.heap) w.heap β (NN D β1 (joint k1.left (zOver r j (ov LB mh.reverse))) w.heap) w.heap β1 →
            LR P (NN D β1 (joint k1.left (zOver r j (ov LB mh.reverse))) w.heap) w.heap β1 (l'.mapId (.z r j)) v →
            (match keepCells P own id k1 ts ls (c + 1) with | some (ls', k'') => some (l' :: ls', k'') | none => none) = some (ls', k') →
            ∃ β', KS P h0 W D β0 β' S st r j bs k'.tmps k'.left (ov LB m.reverse) a w ∧ (∀ id x, k'.left id = some x → st.boxes id = some x) ∧
              Ext (NN D β (joint k.left (zOver r j LB)) w.heap) w.heap β (NN D β' (joint k'.left (zOver r j (ov LB m.reverse))) w.heap) w.heap β' ∧ (l :: ls).length = (t :: ts).length ∧ ls'.length = (l :: ls).length ∧
              ∀ i, i < ls'.length → LR P (NN D β' (joint k'.left (zOver r j (ov LB m.reverse))) w.heap) w.heap β' ((ls'.getD i .dead).mapId (.z r j)) ((v :: vs).getD i undef) := by
          intro k1 l' β1 mh hmh hb _ K1 sub1 e1 hl' h
          split at h
          · rename_i ls2 k2 h2
            cases h
            obtain ⟨m2, g1, g2, g3⟩ := keepCells_keys ts ls (c + 1) k1 _ _ h2
            have em : m = m2 ++ mh := by
              rw [g1, hb, ← List.append_assoc] at hm
              exact (List.append_cancel_right hm).symm
            subst em
            rw [List.map_append, List.nodup_append] at hn
            obtain ⟨n1, n2, n3⟩ := hn
            obtain ⟨β2, K2, sub2, e2, l1, l2, f⟩ := ih ls vs (c + 1) k1 _ _ β1 _ K1 sub1 h2 m2 g1 n1 (fun x hx => by
              rw [ov_ne]
              · exact hf x (List.mem_append_left _ hx)
              · intro y hy e
                exact n3 x.1 (List.mem_map_of_mem hx) y.1 (List.mem_map_of_mem (List.mem_reverse.1 hy)) e.symm) (by simpa using hl) (fun i hi => by
                have := hv (i + 1) (by simpa using hi)
                exact LR.mono e1 (by simpa using this))
            rw [← ov_append, ← List.reverse_append] at K2 e2 f
            refine ⟨β2, K2, sub2, e1.trans e2, by simp [l1], by simp [l2], fun i hi => ?_⟩
            cases i with
            | zero => exact LR.mono e2 hl'
            | succ i => simpa using f i (by simpa using hi)
          · cases h
        have plain : ∀ {l' : AL}, LR P (NN D β (joint k.left (zOver r j LB)) w.heap) w.heap β (l'.mapId (.z r j)) v →
            (match keepCells P own id k ts ls (c + 1) with | some (ls', k'') => some (l' :: ls', k'') | none => none) = some (ls', k') → _ := fun hl' h =>
          fin (k1 := k) [] (Nat.zero_le _) rfl (fun x hx => by cases hx) K sub (Ext.refl _ _ _) hl' h
        cases t with
        | sl e =>
          simp only [keepCells] at h
          have sub' : ∀ i, (∀ id x, updB k.left i none id = some x → st.boxes id = some x) := fun i id x hx => by
            rcases updB_some _ _ hx with ⟨_, e⟩ | ⟨_, e⟩
            · cases e
            · exact sub id x e
          split at h
          · cases hs : (leaves P e).isSome with
            | false => simp [hs] at h
            | true =>
              rw [hs, cond_true] at h
              obtain ⟨tse, hts⟩ := Option.isSome_iff_exists.1 hs
              have hy : LB (.c id c) = none := by
                have : (Id.c id c, Box.row e []) ∈ m := by
                  split at h
                  · rename_i ls2 k2 h2
                    cases h
                    obtain ⟨m2, g1, _, _⟩ := keepCells_keys ts ls (c + 1) _ _ _ h2
                    have em : m = m2 ++ [(Id.c id c, Box.row e [])] := by
                      rw [g1, show (Id.c id c, Box.row e []) :: k.boxes = [(Id.c id c, Box.row e [])] ++ k.boxes from rfl, ← List.append_assoc] at hm
                      exact (List.append_cancel_right hm).symm
                    rw [em]; simp
                  · cases h
                exact hf _ this
              obtain ⟨K1, e1⟩ := K.sendNil hts (.c id c) hy
              obtain ⟨x, rfl⟩ := hv0
              exact fin (k1 := { k with boxes := (.c id c, .row e []) :: k.boxes }) (l' := .wr (.c id c)) [(.c id c, .row e [])] (Nat.le_refl _) rfl (fun x hx hxm => hf x hxm) K1 sub e1 ⟨_, updB_same _ _ _, .inl ⟨rfl, rfl, x, rfl⟩⟩ h
          · rename_i id' _
            split at h
            · rename_i e' es hlf
              cases hb : Nat.beq e e' with
              | false => simp [hb] at h
              | true =>
                have := Nat.eq_of_beq_eq_true hb
                subst this
                rw [hb, cond_true] at h
                have hy : LB (.c id c) = none := by
                  have : (Id.c id c, Box.row e es) ∈ m := by
                    split at h
                    · rename_i ls2 k2 h2
                      cases h
                      obtain ⟨m2, g1, _, _⟩ := keepCells_keys ts ls (c + 1) _ _ _ h2
                      have em : m = m2 ++ [(Id.c id c, Box.row e es)] := by
                        rw [g1, show (Id.c id c, Box.row e es) :: k.boxes = [(Id.c id c, Box.row e es)] ++ k.boxes from rfl, ← List.append_assoc] at hm
                        exact (List.append_cancel_right hm).symm
                      rw [em]; simp
                    · cases h
                  exact hf _ this
                have hz := Z0 id' _ (sub id' _ hlf)
                obtain ⟨hd, h1, h2⟩ := K.rel.mem.bx id' (.row e es) (by rw [joint_n hz]; exact hlf)
                obtain ⟨K1, e1⟩ := K.send hlf rfl h1 (.c id c) (.row e es) rfl hy (fun β' N ex hβ => ⟨hd, hβ, h2.mono ex.n (fun _ _ => rfl)⟩)
                obtain ⟨hd', g1, g2⟩ := hv0
                rw [h1] at g1; cases g1
                exact fin (k1 := { k.strike id' with boxes := (.c id c, .row e es) :: k.boxes }) (l' := .wr (.c id c)) [(.c id c, .row e es)] (Nat.le_refl _) rfl (fun x hx hxm => hf x hxm) K1 (sub' id') e1 ⟨hd, updB_same _ _ _, g2⟩ h
            · cases h
          · obtain ⟨x, rfl⟩ := hv0
            exact plain (l' := .sl e []) (RP.nil e x) h
          · rename_i e' es _
            cases hb : Nat.beq e e' with
            | false => simp [hb] at h
            | true =>
              have := Nat.eq_of_beq_eq_true hb
              subst this
              rw [hb, cond_true] at h
              exact plain (l' := .sl e es) hv0 h
          · rename_i id' _
            split at h
            · rename_i e' es hlf
              cases hb : Nat.beq e e' with
              | false => simp [hb] at h
              | true =>
                have := Nat.eq_of_beq_eq_true hb
                subst this
                rw [hb, cond_true] at h
                have hz := Z0 id' _ (sub id' _ hlf)
                obtain ⟨hd, h1, h2⟩ := K.rel.mem.bx id' (.row e es) (by rw [joint_n hz]; exact hlf)
                obtain ⟨K1, e1⟩ := K.drop (id := id') hz
                obtain ⟨hd', g1, g2⟩ := hv0
                rw [h1] at g1; cases g1
                refine fin (k1 := k.strike id') (l' := .sl e es) [] (Nat.zero_le _) rfl (fun x hx => by cases hx) K1 (sub' id') e1 ?_ h
                refine row_RP (h2.mono e1.n (fun _ _ => rfl)) (fun b hb' => ?_) g2
                have := K.rel.mem.drop_free (by rw [joint_n hz]; exact hlf) h1 hb'
                rw [← joint_updn hz] at this
                exact this
            · cases h
          · cases h
        | _ => exact plain (stripL_nil (Ext.refl _ _ _) hv0 _) h
end
end Go.AI
set_option linter.unusedVariables false
set_option linter.unusedSimpArgs false
namespace Go.AI
open Go

section
variable {P : Program} {A : Ann} {ow : Id → TypeId → Nat → TypeId → Bool} {h0 : Array Obj} {W : Wr} {D : Nat → Prop} {β0 β : GM} {S : Nat → Prop} {st : St} {r j : Nat} {bs : List Id} {tmps : List (Nat × AV)} {left LB : Id → Option Box} {a : Act} {w : World}

theorem KS.recell (K : KS P h0 W D β0 β S st r j bs tmps left LB a w) {y : Id} {t : TypeId} {cs : List AL} (hy : LB y = some (.cells t cs)) (cs' : List AL)
    (h : CellsR P (NN D β (joint left (zOver r j LB)) w.heap) w.heap β (.z r j y) (cs'.map (AL.mapId (.z r j)))) :
    KS P h0 W D β0 β S st r j bs tmps left (updB LB y (some (.cells t cs'))) a w ∧ Ext (NN D β (joint left (zOver r j LB)) w.heap) w.heap β (NN D β (joint left (zOver r j (updB LB y (some (.cells t cs'))))) w.heap) w.heap β := by
  have ej : joint left (zOver r j (updB LB y (some (.cells t cs')))) = updB (joint left (zOver r j LB)) (.z r j y) (some ((Box.cells t cs').mapId (.z r j))) := by
    rw [zOver_upd, joint_updz rfl]
  have hx : joint left (zOver r j LB) (.z r j y) = some ((Box.cells t cs).mapId (.z r j)) := by rw [joint_z rfl, zOver_z, hy]; rfl
  obtain ⟨hd, b, ch, ty, fr, h1, h2, h3⟩ := id h
  have e := K.rel.mem.set_ext hx rfl (x' := (Box.cells t cs').mapId (.z r j)) rfl h1 h2 rfl (fun _ _ => rfl)
  have m' := K.rel.mem.set hx rfl (x' := (Box.cells t cs').mapId (.z r j)) rfl h1 h2 rfl (fun _ _ => rfl) (BoxR.mono e (fun _ _ _ _ => rfl) (x := .cells t (cs'.map (AL.mapId (.z r j)))) h)
  have hsub : ∀ i x k b, joint left (zOver r j (updB LB y (some (.cells t cs')))) i = some x → β i = some k → k.blk = some b → ∃ i' x' k', joint left (zOver r j LB) i' = some x' ∧ β i' = some k' ∧ k'.blk = some b := by
    intro i x k b g1 g2 g3
    rw [ej] at g1
    rcases updB_some _ _ g1 with ⟨rfl, _⟩ | ⟨_, g1⟩
    · exact ⟨_, _, k, hx, g2, g3⟩
    · exact ⟨i, x, k, g1, g2, g3⟩
  have e' : Ext (NN D β (joint left (zOver r j LB)) w.heap) w.heap β (NN D β (joint left (zOver r j (updB LB y (some (.cells t cs'))))) w.heap) w.heap β := by rw [ej]; exact e
  refine ⟨K.step ⟨by show Mem _ _ _ (joint left _) _; rw [ej]; exact m', K.rel.fresh, K.rel.frame.of_sub hsub (fun _ => rfl), fun t => (K.rel.tm t).mono e', K.rel.nt, K.rel.df, K.rel.nz, K.rel.en⟩ (fun x hx' => ?_) e', e'⟩
  by_cases e : x = y
  · subst e; rw [updB_same]; simp
  · rw [updB_ne _ _ e]; exact K.nm x hx'

theorem kB_app (m l : List (Id × Box)) : kB (m ++ l) = ov (kB l) m.reverse := by
  unfold kB
  rw [List.reverse_append, ov_append]

theorem keepBoxes_boxes : ∀ (l : List Id) (r0 : Nat) (k k' : Kept), keepBoxes P ow r0 bs k l = some k' → ∃ m, k'.boxes = m ++ k.boxes
  | [], r0, k, k', h => by cases h; exact ⟨[], rfl⟩
  | id :: l, r0, k, k', h => by
    simp only [keepBoxes] at h
    cases hb : okId r0 id with
    | false => simp [hb] at h
    | true =>
      rw [hb, cond_true] at h
      split at h
      · rename_i t cs hl
        split at h
        · split at h
          · rename_i cs' k1 h1
            obtain ⟨m1, e1, _, _⟩ := keepCells_keys _ _ _ _ _ _ h1
            obtain ⟨m2, e2⟩ := keepBoxes_boxes l r0 _ k' h
            exact ⟨m2 ++ ((id, .cells t cs') :: m1), by rw [e2, e1]; simp [Kept.strike]⟩
          · cases h
        · cases h
      · cases h

theorem keepBoxes_of (Z0 : ∀ id x, st.boxes id = some x → id.isZ = false) : ∀ (l : List Id) (r0 : Nat) (k k' : Kept) (β : GM), KS P h0 W D β0 β S st r j bs k.tmps k.left (kB k.boxes) a w → (∀ id x, k.left id = some x → st.boxes id = some x) →
    keepBoxes P ow r0 bs k l = some k' → (k'.boxes.map (·.1)).Nodup →
    ∃ β', KS P h0 W D β0 β' S st r j bs k'.tmps k'.left (kB k'.boxes) a w ∧ Ext (NN D β (joint k.left (zOver r j (kB k.boxes))) w.heap) w.heap β (NN D β' (joint k'.left (zOver r j (kB k'.boxes))) w.heap) w.heap β' ∧
      ∀ id, id ∈ l → okId r0 id = true ∧ ∃ hd, β' id = some hd ∧ β' (.z r j id) = some hd
  | [], r0, k, k', β, K, sub, h, _ => by cases h; exact ⟨β, K, Ext.refl _ _ _, fun id hid => by cases hid⟩
  | id :: l, r0, k, k', β, K, sub, h, hn => by
    simp only [keepBoxes] at h
    cases hb : okId r0 id with
    | false => simp [hb] at h
    | true =>
      rw [hb, cond_true] at h
      split at h
      · rename_i t cs hl
        split at h
        · rename_i ts hts
          split at h
          · rename_i cs' k1 h1
            obtain ⟨m, e1, e2, e3⟩ := keepCells_keys _ _ _ _ _ _ h1
            obtain ⟨m2, g1⟩ := keepBoxes_boxes l r0 _ k' h
            have hbx : k'.boxes = m2 ++ ((id, Box.cells t cs') :: (m ++ k.boxes)) := by rw [g1, e1]; rfl
            have hn2 := hn
            rw [hbx, List.map_append] at hn2
            have hn3 := nodup_app hn2
            simp only [List.map_cons, List.nodup_cons, List.map_append, List.mem_append, not_or] at hn3
            obtain ⟨⟨q1, q2⟩, q3⟩ := hn3
            have q4 := List.nodup_append.1 q3
            have hz := Z0 id _ (sub id _ hl)
            obtain ⟨hd, b, ch, ty, fr, c1, c2, c3, c4, c5, c6⟩ := K.rel.mem.bx id (.cells t cs) (by rw [joint_n hz]; exact hl)
            obtain ⟨K1, x1⟩ := K.send hl rfl c1 id (.cells t (List.replicate cs.length .dead)) rfl (kB_none q2) (fun β' N ex hβ => by
              refine ⟨hd, b, ch, ty, fr, hβ, c2, c3, c4, by simpa using c5, fun q hq => ?_⟩
              have hq' : q < cs.length := by simpa using hq
              rw [getD_eq (by simpa using hq'), List.getElem_map, List.getElem_replicate]
              exact (c6 q hq').one)
            have sub1 : ∀ i x, (k.strike id).left i = some x → st.boxes i = some x := fun i x hx => by
              rcases updB_some k.left none hx with ⟨_, e⟩ | ⟨_, e⟩
              · cases e
              · exact sub i x e
            have hne : ∀ x, x ∈ m → x.1 ≠ id := fun x hx e => q1 (e ▸ List.mem_map_of_mem hx)
            obtain ⟨β2, K2, sub2, x2, l1, l2, f⟩ := keepCells_of Z0 ts cs ch.toList 0 (k.strike id) cs' k1 _ _ K1 sub1 h1 m e1 q4.1 (fun x hx => by
              rw [updB_ne _ _ (hne x hx)]
              refine kB_none fun hm => q4.2.2 x.1 (List.mem_map_of_mem hx) x.1 hm rfl) (by simpa using c5) (fun q hq => by rw [arr_getD ch]; exact (c6 q hq).mono x1)
            have hne' : ∀ x, x ∈ m.reverse → x.1 ≠ id := fun x hx => hne x (List.mem_reverse.1 hx)
            have hL : ov (updB (kB k.boxes) id (some (.cells t (List.replicate cs.length .dead)))) m.reverse id = some (.cells t (List.replicate cs.length .dead)) := by
              rw [ov_ne _ _ hne', updB_same]
            have hβ2 : β2 (.z r j id) = some hd := x2.g _ _ (updB_same _ _ _)
            have hβ2' : β2 id = some hd := x2.g _ _ (x1.g _ _ c1)
            obtain ⟨K3, x3⟩ := K2.recell hL cs' ⟨hd, b, ch, ty, fr, hβ2, c2, c3, c4, by rw [List.length_map, l2, c5], fun q hq => by
              rw [List.length_map] at hq
              rw [show AL.dead = AL.mapId (.z r j) .dead from rfl, getD_map]
              have := f q hq
              rwa [arr_getD ch] at this⟩
            have eL : updB (ov (updB (kB k.boxes) id (some (.cells t (List.replicate cs.length .dead)))) m.reverse) id (some (.cells t cs')) = kB ((id, .cells t cs') :: (m ++ k.boxes)) := by
              rw [ov_comm _ _ _ _ hne', updB_updB, ← ov_comm _ _ _ _ hne', ← kB_app, ← kB_cons]
            rw [eL] at K3 x3
            obtain ⟨β4, K4, x4, f4⟩ := keepBoxes_of Z0 l r0 { k1 with boxes := (id, .cells t cs') :: k1.boxes } k' β2 (by rw [e1]; exact K3) sub2 h hn
            have x4 : Ext (NN D β2 (joint k1.left (zOver r j (kB ((id, .cells t cs') :: k1.boxes)))) w.heap) w.heap β2 (NN D β4 (joint k'.left (zOver r j (kB k'.boxes))) w.heap) w.heap β4 := x4
            rw [e1] at x4
            refine ⟨β4, K4, x1.trans (x2.trans (x3.trans x4)), fun i hi => ?_⟩
            rcases List.mem_cons.1 hi with rfl | hi
            · exact ⟨hb, hd, x4.g _ _ hβ2', x4.g _ _ hβ2⟩
            · exact f4 i hi
          · cases h
        · cases h
      · cases h
end
end Go.AI
set_option linter.unusedVariables false
set_option linter.unusedSimpArgs false
namespace Go.AI
open Go

theorem lookB_none : ∀ (l : List (Id × Box)) (id : Id), id ∉ l.map (·.1) → lookB l id = none
  | [], _, _ => rfl
  | (k, v) :: l, id, h => by
    simp only [List.map_cons, List.mem_cons, not_or] at h
    simp only [lookB, Id.beq_false h.1, cond_false]
    exact lookB_none l id h.2
theorem lookB_ov : ∀ (l : List (Id × Box)) (B : Id → Option Box) (id : Id), (l.map (·.1)).Nodup → ov B l id = (lookB l id).or (B id)
  | [], B, id, _ => rfl
  | (k, v) :: l, B, id, h => by
    simp only [List.map_cons, List.nodup_cons] at h
    rw [ov_cons, lookB_ov l _ id h.2]
    by_cases e : id = k
    · subst e
      rw [lookB_none l id h.1, updB_same]
      simp [lookB, Id.beq_self]
    · rw [updB_ne _ _ e]
      simp [lookB, Id.beq_false e]
theorem lookB_kB {l : List (Id × Box)} (h : (l.map (·.1)).Nodup) : lookB l.reverse = kB l := by
  funext id
  unfold kB
  rw [lookB_ov _ _ _ (by rw [List.map_reverse]; unfold List.Nodup; rw [List.pairwise_reverse]; exact List.Pairwise.imp (fun h e => h e.symm) h)]
  cases lookB l.reverse id <;> rfl

section
variable {P : Program} {A : Ann} {ow : Id → TypeId → Nat → TypeId → Bool} {st : St} {bs : List Id}
/-- what is kept has such a name -/
def KN (r : Nat) (bs : List Id) (x : Id) : Prop := (∃ t, x = .w t) ∨ (∃ i c, x = .c i c) ∨ (x ∈ bs ∧ okId r x = true)
theorem keepSlot_names {k k' : Kept} {t : Nat} {s : SK} (h : keepSlot P bs st k t s = some k') {x : Id × Box} (hx : x ∈ k'.boxes) : x ∈ k.boxes ∨ x.1 = .w t := by
  cases s with
  | any => simp only [keepSlot, Option.some.injEq] at h; subst h; exact .inl hx
  | pl e =>
    simp only [keepSlot] at h
    split at h
    · cases h; exact .inl hx
    · rename_i e' es ht
      cases hb : Nat.beq e e' with
      | false => simp [hb] at h
      | true => rw [hb, cond_true] at h; cases h; exact .inl hx
    · split at h
      · rename_i e' es hl
        cases hb : Nat.beq e e' with
        | false => simp [hb] at h
        | true => rw [hb, cond_true] at h; cases h; exact .inl hx
      · cases h
    · cases h
  | row e =>
    simp only [keepSlot] at h
    split at h
    · cases hs : (leaves P e).isSome with
      | false => simp [hs] at h
      | true =>
        rw [hs, cond_true] at h; cases h
        rcases List.mem_cons.1 hx with rfl | hx
        · exact .inr rfl
        · exact .inl hx
    · split at h
      · rename_i e' es hl
        cases hb : Nat.beq e e' with
        | false => simp [hb] at h
        | true =>
          rw [hb, cond_true] at h; cases h
          rcases List.mem_cons.1 hx with rfl | hx
          · exact .inr rfl
          · exact .inl hx
      · cases h
    · cases h
  | al t' =>
    simp only [keepSlot] at h
    split at h
    · rename_i id id' ht ht'
      cases hb : id.beq id' with
      | false => simp [hb] at h
      | true => rw [hb, cond_true] at h; cases h; exact .inl hx
    · cases h
theorem keepSlots_names : ∀ (l : List (Nat × SK)) (k k' : Kept), keepSlots P bs st k l = some k' → ∀ x, x ∈ k'.boxes → x ∈ k.boxes ∨ ∃ t, x.1 = .w t
  | [], k, k', h, x, hx => by cases h; exact .inl hx
  | (t, s) :: l, k, k', h, x, hx => by
    simp only [keepSlots] at h
    split at h
    · rename_i k1 h1
      rcases keepSlots_names l k1 k' h x hx with hx | hx
      · exact (keepSlot_names h1 hx).imp (fun h => h) fun e => ⟨t, e⟩
      · exact .inr hx
    · cases h
theorem keepBoxes_names : ∀ (l : List Id) (r0 : Nat) (k k' : Kept), keepBoxes P ow r0 bs k l = some k' → ∀ x, x ∈ k'.boxes → x ∈ k.boxes ∨ (∃ i c, x.1 = .c i c) ∨ (x.1 ∈ l ∧ okId r0 x.1 = true)
  | [], r0, k, k', h, x, hx => by cases h; exact .inl hx
  | id :: l, r0, k, k', h, x, hx => by
    simp only [keepBoxes] at h
    cases hb : okId r0 id with
    | false => simp [hb] at h
    | true =>
      rw [hb, cond_true] at h
      split at h
      · rename_i t cs hl
        split at h
        · split at h
          · rename_i cs' k1 h1
            obtain ⟨m1, e1, _, e3⟩ := keepCells_keys _ _ _ _ _ _ h1
            rcases keepBoxes_names l r0 _ k' h x hx with hx | hx | ⟨hx1, hx2⟩
            · rcases List.mem_cons.1 hx with rfl | hx
              · exact .inr (.inr ⟨List.mem_cons_self .., hb⟩)
              · rw [e1] at hx
                rcases List.mem_append.1 hx with hx | hx
                · obtain ⟨c', e⟩ := e3 x hx
                  exact .inr (.inl ⟨_, _, e⟩)
                · exact .inl hx
            · exact .inr (.inl hx)
            · exact .inr (.inr ⟨List.mem_cons_of_mem _ hx1, hx2⟩)
          · cases h
        · cases h
      · cases h
theorem keepBoxes_ok : ∀ (l : List Id) (r0 : Nat) (k k' : Kept), keepBoxes P ow r0 bs k l = some k' → ∀ x, x ∈ l → okId r0 x = true
  | [], r0, k, k', h, x, hx => by cases hx
  | id :: l, r0, k, k', h, x, hx => by
    simp only [keepBoxes] at h
    cases hb : okId r0 id with
    | false => simp [hb] at h
    | true =>
      rw [hb, cond_true] at h
      split at h
      · rename_i t cs hl
        split at h
        · split at h
          · rename_i cs' k1 h1
            rcases List.mem_cons.1 hx with rfl | hx
            · exact hb
            · exact keepBoxes_ok l r0 _ k' h x hx
          · cases h
        · cases h
      · cases h
end

theorem clean_of {P : Program} {A : Ann} {h0 : Array Obj} {W : Wr} {D : Nat → Prop} {β : GM} {st st' : St} {a : Act} {w : World} {kp : Keep}
    (R : Rel P h0 W D β (fun _ => False) st a w) (h : clean P A kp st = some st') : ∃ β', Rel P h0 W D β' (fun _ => False) st' a w := by
  unfold clean at h
  split at h
  · rename_i k1 h1
    split at h
    · rename_i k2 h2
      cases hb : nodupI (k2.boxes.map (·.1)) with
      | false => simp [hb] at h
      | true =>
        rw [hb, cond_true] at h
        cases h
        have hn := (nodupI_iff _).1 hb
        have hok := keepBoxes_ok _ _ _ _ h2
        have hw : ∀ t, memI (.w t) kp.boxes = false := fun t => by
          cases hm : memI (.w t) kp.boxes with
          | false => rfl
          | true => have := hok _ ((memI_iff _ _).1 hm); cases this
        have Z0 : ∀ id x, st.boxes id = some x → id.isZ = false := fun id x hx => nz_of R.nz hx
        have R1 := (R.weaken (S' := fun i => i = 0) (fun i hi => hi.elim)).toZ
        have e0 : zOver st.r 0 (kB []) = fun _ => none := zOver_none _ _
        have ej0 : joint st.boxes (zOver st.r 0 (kB [])) = st.boxes := by rw [e0]; exact joint_none R.nz
        have K0 : KS P h0 W D β β (fun i => i = 0) st st.r 0 kp.boxes [] st.boxes (kB []) a w :=
          ⟨by rw [e0]; exact R1, fun x hx => absurd ((R.fresh st.r 0 (.inr ⟨rfl, fun h => h⟩)).2 x) hx, rfl, rfl, by rw [ej0]; exact Ext.refl _ _ _, fun t x hm => by cases hm⟩
        obtain ⟨m, em⟩ := keepBoxes_boxes _ _ _ _ h2
        obtain ⟨⟨β1, K1⟩, sub1⟩ := keepSlots_of Z0 hw kp.slots _ _ β K0 (fun _ _ h => h) h1 (by rw [em, List.map_append] at hn; exact nodup_app hn)
        obtain ⟨β2, K2, _, f⟩ := keepBoxes_of Z0 kp.boxes kp.r k1 k2 β1 K1 sub1 h2 hn
        have nms : ∀ x, kB k2.boxes x ≠ none → KN kp.r kp.boxes x := fun x hx => by
          by_cases hm : x ∈ k2.boxes.map (·.1)
          · obtain ⟨y, hy, rfl⟩ := List.mem_map.1 hm
            rcases keepBoxes_names _ _ _ _ h2 y hy with hy | hy | hy
            · rcases keepSlots_names _ _ _ h1 y hy with hy | hy
              · cases hy
              · exact .inl hy
            · exact .inr (.inl hy)
            · exact .inr (.inr hy)
          · exact absurd (kB_none hm) hx
        have hBz : ∀ i x, zOver st.r 0 (kB k2.boxes) i = some x → joint k2.left (zOver st.r 0 (kB k2.boxes)) i = some x := fun i x h => by
          obtain ⟨y, z, rfl, _, _⟩ := zOver_some h
          rw [joint_z rfl]; exact h
        obtain ⟨e1, mm⟩ := K2.rel.mem.part (B' := zOver st.r 0 (kB k2.boxes)) hBz (D' := D) (fun k hk => .inl hk)
        obtain ⟨hN, mp⟩ := mm.pull (g := .z st.r 0) (LB := kB k2.boxes) (fun x y h => by cases h; rfl) (fun x => zOver_z _ _ _ x) (fun id b h => zOver_some h)
        have hB : (mkSt k2.tmps.reverse k2.boxes.reverse kp.r st.nt).boxes = kB k2.boxes := lookB_kB hn
        have hgk : ∀ id hd, β2 (gK st.r 0 kp.boxes id) = some hd → β2 (.z st.r 0 id) = some hd := fun id hd e => by
          unfold gK at e
          split at e
          · rename_i hm
            obtain ⟨_, hd', g1, g2⟩ := f id ((memI_iff _ _).1 hm)
            rw [g1] at e; cases e; exact g2
          · exact e
        have ext : Ext (NN D β2 (joint k2.left (zOver st.r 0 (kB k2.boxes))) w.heap) w.heap (fun x => β2 (gK st.r 0 kp.boxes x)) (NN D (fun x => β2 (.z st.r 0 x)) (kB k2.boxes) w.heap) w.heap (fun x => β2 (.z st.r 0 x)) :=
          ⟨fun b hb => ⟨(hN b).1 (e1.n b hb).1, rfl⟩, hgk⟩
        refine ⟨fun x => β2 (.z st.r 0 x), ⟨by rw [hB]; exact mp, fun r' i hr => ?_, ?_, fun t => ?_, R.nt, R.df, fun r' i x => ?_, R.en⟩⟩
        · have hr' : kp.r ≤ r' := by
            have : kp.r < r' ∨ (r' = kp.r ∧ ¬ False) := hr
            omega
          have key : ∀ x : Id, (¬ KN kp.r kp.boxes x) → β2 (.z st.r 0 x) = none := fun x hx => by
            cases hc : β2 (.z st.r 0 x) with
            | none => rfl
            | some y => exact absurd (nms x (K2.nm x (by rw [hc]; simp))) hx
          refine ⟨fun c => key _ ?_, fun x => key _ ?_⟩
          · rintro (⟨t, h⟩ | ⟨i, c, h⟩ | ⟨_, h⟩)
            · cases h
            · cases h
            · have h : Nat.blt r' kp.r = true := h
              rw [Nat.blt_eq] at h
              omega
          · rintro (⟨t, h⟩ | ⟨i, c, h⟩ | ⟨_, h⟩)
            · cases h
            · cases h
            · cases h
        · rw [hB]
          have fr := K2.rel.frame
          refine ⟨fr.sz, fr.same, fun id x hd b c1 c2 c3 c4 => ?_, fun i hd c => ?_⟩
          · exact fr.own (.z st.r 0 id) (x.mapId (.z st.r 0)) hd b (hBz _ _ (by rw [zOver_z, c1]; rfl)) c2 c3 c4
          · have := nms (.p i) (K2.nm _ (by rw [c]; simp))
            rcases this with ⟨t, h⟩ | ⟨i, c, h⟩ | ⟨hm, _⟩
            · cases h
            · cases h
            · obtain ⟨_, hd', g1, g2⟩ := f _ hm
              have c : β2 (.z st.r 0 (.p i)) = some hd := c
              rw [g2] at c; cases c
              exact fr.pn i _ g1
        · rw [hB]
          show VR _ _ _ _ (lookT k2.tmps.reverse t) _
          rcases lookT_mem k2.tmps.reverse t with e | e
          · rw [e]; exact .any _
          · exact VR.mono ext (K2.tm t _ (List.mem_reverse.1 e) _ (R.tm t))
        · rw [hB]
          cases hc : kB k2.boxes (.z r' i x) with
          | none => rfl
          | some y =>
            rcases nms (.z r' i x) (by rw [hc]; simp) with ⟨t, h⟩ | ⟨i, c, h⟩ | ⟨_, h⟩
            · cases h
            · cases h
            · cases h
    · cases h
  · cases h
end Go.AI
set_option linter.unusedVariables false
set_option linter.unusedSimpArgs false
namespace Go.AI
open Go

/-- where a run ends -/
def Ends (P : Program) (A : Ann) (F : FuncId) (fn : Func) (pts : List TypeId) (res : Res) (h0 : Array Obj) (D : Nat → Prop) (β0 : GM) (LB : Id → Option Box) (b : Go.Frame) (cs : List Go.Frame) (e : World) (m : Machine) : Prop :=
  ∃ a' todo' v w', Steps P m (lone { b.at a' todo' with mode := .returning } cs w') ∧ a'.defers = [] ∧ (results fn a'.tmps).run P w' = .ok v w' ∧ Post P A F fn D β0 LB h0 pts res v w'.heap ∧ Env e w'

/-- a run from a place and a state on has such results -/
def Runs (P : Program) (A : Ann) (F : FuncId) (fn : Func) (pts : List TypeId) (todo : List Item) (st : St) (res : Res) : Prop :=
  ∀ (h0 : Array Obj) (W : Wr) (D : Nat → Prop) (β0 : GM) (LB : Id → Option Box), (∀ k, W.w k → blkOf β0 LB k) → (∀ i, W.g i = β0 (.p i)) →
    ∀ (β : GM) (a : Act) (w : World), Rel P h0 W D β (fun _ => False) st a w → ∀ (b : Go.Frame) (cs : List Go.Frame), Ends P A F fn pts res h0 D β0 LB b cs W.e (lone (b.at a todo) cs w)

theorem Ends.of {P : Program} {A : Ann} {F : FuncId} {fn : Func} {pts : List TypeId} {res : Res} {h0 : Array Obj} {D : Nat → Prop} {β0 : GM} {LB : Id → Option Box} {b : Go.Frame} {cs : List Go.Frame} {e0 : World} {m m1 : Machine}
    (h : Steps P m m1) (e : Ends P A F fn pts res h0 D β0 LB b cs e0 m1) : Ends P A F fn pts res h0 D β0 LB b cs e0 m := by
  obtain ⟨a', todo', v, w', s, r⟩ := e
  exact ⟨a', todo', v, w', h.trans s, r⟩

theorem Ends.loop {P : Program} {A : Ann} {F : FuncId} {fn : Func} {pts : List TypeId} {res : Res} {h0 : Array Obj} {D : Nat → Prop} {β0 : GM} {LB : Id → Option Box} {b : Go.Frame} {cs : List Go.Frame} {c : Code} {k : List Item} {a : Act} {w e0 : World}
    (e : Ends P A F fn pts res h0 D β0 LB b cs e0 (lone (b.at a (.inLoop c :: k)) cs w)) : Ends P A F fn pts res h0 D β0 LB b cs e0 (lone (b.at a (.code (.loop c) :: k)) cs w) := by
  obtain ⟨a', todo', v, w', ⟨n, s⟩, r⟩ := e
  refine ⟨a', todo', v, w', ?_, r⟩
  cases n with
  | zero =>
    simp only [runN, Stepped.next.injEq] at s
    have : (lone (b.at a (.inLoop c :: k)) cs w).gs = (lone { b.at a' todo' with mode := .returning } cs w').gs := by rw [s]
    simp [lone, Frame.at] at this
  | succ n =>
    simp only [runN, step_inLoop] at s
    exact .head step_loop ⟨n, s⟩

section
variable {P : Program} {A : Ann} {F : FuncId} {fn : Func} {pts : List TypeId} {call : CallF} {R : List Item → St → Option Res}

theorem adv_sound (hc : CallOk P A call) (hR : ∀ todo st res, R todo st = some res → Runs P A F fn pts todo st res) :
    ∀ (n : Nat) (fst : Bool) (todo : List Item) (st : St) (res : Res), adv P A F fn pts call R n fst todo st = some res → Runs P A F fn pts todo st res := by
  intro n
  induction n with
  | zero => intro fst todo st res h; cases h
  | succ n ih =>
    intro fst todo st res h h0 W D β0 LB hW hG β a w Rl b cs
    have go : ∀ {m1 : Machine} {a1 : Act} {todo1 : List Item} {st1 : St} {β1 : GM} {w1 : World} {f1 : Bool}, Steps P (lone (b.at a todo) cs w) (lone (b.at a1 todo1) cs w1) → Rel P h0 W D β1 (fun _ => False) st1 a1 w1 →
        adv P A F fn pts call R n f1 todo1 st1 = some res → Ends P A F fn pts res h0 D β0 LB b cs W.e (lone (b.at a todo) cs w) :=
      fun {m1 a1 todo1 st1 β1 w1 f1} s r e => (ih f1 todo1 st1 res e h0 W D β0 LB hW hG β1 a1 w1 r b cs).of s
    simp only [adv] at h
    split at h
    · obtain ⟨v, h1, h2⟩ := finish_sound Rl h hW hG
      exact ⟨a, [], v, w, .one step_end, Rl.df, h1, h2, Rl.en⟩
    · rename_i k
      obtain ⟨v, h1, h2⟩ := finish_sound Rl h hW hG
      exact ⟨a, _, v, w, .one step_ret, Rl.df, h1, h2, Rl.en⟩
    · exact go (m1 := lone default [] w) (.one step_skip) Rl h
    · exact go (m1 := lone default [] w) (.one step_label) Rl h
    · exact go (m1 := lone default [] w) (.one step_inBlock) Rl h
    · exact go (m1 := lone default [] w) (.one step_inScope) Rl h
    · exact go (m1 := lone default [] w) (.one step_seq) Rl h
    · rename_i c x y k
      split at h
      · rename_i d
        split at h
        · rename_i t ht
          have hx := Rl.tm d
          rw [ht] at hx
          have hv : a.eval (.tmp d) = .bool t := hx.leaf
          cases t with
          | true =>
            rw [cond_true] at h
            exact go (m1 := lone default [] w) (.one (by have := step_cond (P := P) (b := b) (k := k) (cs := cs) (w := w) (x := x) (y := y) hv; simpa using this)) (Rl.same d hx) h
          | false =>
            rw [cond_false] at h
            exact go (m1 := lone default [] w) (.one (by have := step_cond (P := P) (b := b) (k := k) (cs := cs) (w := w) (x := x) (y := y) hv; simpa using this)) (Rl.same d hx) h
        · cases h
      · rename_i t
        have hv : a.eval (.const (.bool t)) = .bool t := rfl
        cases t with
        | true =>
          rw [cond_true] at h
          exact go (m1 := lone default [] w) (.one (by have := step_cond (P := P) (b := b) (k := k) (cs := cs) (w := w) (x := x) (y := y) hv; simpa using this)) Rl h
        | false =>
          rw [cond_false] at h
          exact go (m1 := lone default [] w) (.one (by have := step_cond (P := P) (b := b) (k := k) (cs := cs) (w := w) (x := x) (y := y) hv; simpa using this)) Rl h
      · cases h
    · exact go (m1 := lone default [] w) (.one step_block) Rl h
    · exact go (m1 := lone default [] w) (.one step_scope) Rl h
    · rename_i c k
      exact Ends.loop (ih false (.inLoop c :: k) st res h h0 W D β0 LB hW hG β a w Rl b cs)
    · rename_i c k
      cases fst with
      | true => exact go (m1 := lone default [] w) (.one step_inLoop) Rl h
      | false =>
        rw [cond_false] at h
        split at h
        · split at h
          · rename_i st1 h1
            obtain ⟨β1, R1⟩ := clean_of Rl h1
            exact hR _ _ _ h h0 W D β0 LB hW hG β1 a w R1 b cs
          · cases h
        · exact go (m1 := lone default [] w) (.one step_inLoop) Rl h
    · rename_i id k
      split at h
      · rename_i k' hk
        exact go (m1 := lone default [] w) (.one (step_exit hk)) Rl h
      · cases h
    · rename_i id ops draw k
      split at h
      · split at h
        · rename_i st1 h1
          obtain ⟨β1, R1⟩ := clean_of Rl h1
          exact hR _ _ _ h h0 W D β0 LB hW hG β1 a w R1 b cs
        · cases h
      · obtain ⟨e, a', w', ⟨rfl, st', β', R1, hk, _⟩, harr⟩ := aregion_sound Rl hc h id b k cs
        exact go (m1 := lone default [] w) harr R1 hk
    · cases h
end
end Go.AI
set_option linter.unusedVariables false
set_option linter.unusedSimpArgs false
namespace Go.AI
open Go

/-- no function with a body is the runtime's counter -/
def NoCount (P : Program) : Prop := ∀ (f : FuncId) (fn : Func), P.funcs[f]? = some fn → fn.body.isSome = true → (fn.name == "runtime.NumGoroutine") = false

theorem run_callFunc {P : Program} (hP : NoCount P) {f : FuncId} {fn : Func} (hf : P.funcs[f]? = some fn) {c : Code} (hb : fn.body = some c) (args : Array Value) (w : World) :
    (callFunc f args).run P w = .ok (.enter f args) w := by
  have h := hP f fn hf (by rw [hb]; rfl)
  unfold callFunc
  have h2 : ¬ fn.name = "runtime.NumGoroutine" := by simpa using h
  simp [hf, h2, hb]

theorem run_ext {P : Program} {f : FuncId} {fn : Func} (hf : P.funcs[f]? = some fn) (hb : fn.body = none) (h2 : (fn.name == "runtime.NumGoroutine") = false) (h3 : Extern.findNext fn = none) {e : Array Value → Sem Value} (h4 : Extern.find fn = some e) {args : Array Value} {v : Value} {w : World} (h5 : (e args).run P w = .ok v w) :
    (callFunc f args).run P w = .ok (.value v) w := by
  have h2 : ¬ fn.name = "runtime.NumGoroutine" := by simpa using h2
  unfold callFunc
  simp [hf, h2, hb, h3, h4, h5]
theorem run_sub64 {P : Program} {f : FuncId} {fn : Func} (hf : P.funcs[f]? = some fn) (hb : fn.body = none) (hn : fn.name = "math/bits.Sub64") (ho : fn.origin = "") {x y b : Int} (h1 : b.toNat ≤ 1) (w : World) :
    (callFunc f #[.int .u64 x, .int .u64 y, .int .u64 b]).run P w = .ok (.value (.tuple #[.int .u64 (Int.ofNat ((x.toNat + 2 ^ 64 - y.toNat - b.toNat) % 2 ^ 64)), .int .u64 (Int.ofNat (if x.toNat < y.toNat + b.toNat then 1 else 0))])) w := by
  have h2 : (fn.name == "runtime.NumGoroutine") = false := by rw [hn]; decide +kernel
  have h3 : Extern.findNext fn = none := by
    unfold Extern.findNext
    simp only [hn, ho]
    kernel_rfl
  have h4 : Extern.find fn = some (fun args => do
      let (x, y, b) ← Extern.MathBitsCarry.three "Sub64" args
      pure (Extern.MathBitsCarry.pair ((x + Extern.MathBitsCarry.m64 - y - b) % Extern.MathBitsCarry.m64) (if x < y + b then 1 else 0))) := by
    unfold Extern.find
    simp only [hn, ho]
    kernel_rfl
  have h5 : ¬ b.toNat > 1 := by omega
  have h6 : (Extern.MathBitsCarry.three "Sub64" #[.int .u64 x, .int .u64 y, .int .u64 b]).run P w = .ok (x.toNat, y.toNat, b.toNat) w := by
    show (do
      let c := (← asInt (.int .u64 b)).toNat
      if c > 1 then unsupported (.noEntry ("extern/math/bits." ++ "Sub64" ++ ": a carry that is neither 0 nor 1"))
      pure ((← asInt (.int .u64 x)).toNat, (← asInt (.int .u64 y)).toNat, c) : Sem (Nat × Nat × Nat)).run P w = _
    have k : ∀ n : Int, asInt (.int .u64 n) = (pure n : Sem Int) := fun _ => rfl
    simp only [k, Sem.run_bind, Sem.run_pure, Result.andThen_ok, if_neg h5]
  refine run_ext hf hb h2 h3 h4 ?_
  rw [Sem.run_bind, h6]
  rfl

theorem extR_ok {P : Program} {A : Ann} {f : FuncId} {fn : Func} {ps : List PV} {bs : List BX} {res : Res} (hf : P.funcs[f]? = some fn) (h : extR P A f fn ps bs = some res) :
    ∃ fn avs ms n bl, P.funcs[f]? = some fn ∧ handV P (A.ownA f) fn.params.toList ps 0 0 = some (avs, ms, n) ∧ handB P A bs 0 = some bl ∧ n + fn.nfree = bs.length ∧
    ∀ (D : Nat → Prop) (β0 : GM) (w : World) (vs fvs : List Value), Hand P D β0 (ov (fun _ => none) (ms ++ bl)) w.heap → vs.length = avs.length →
      (∀ i, i < avs.length → VR P (NN D β0 (ov (fun _ => none) (ms ++ bl)) w.heap) w.heap β0 (avs.getD i .any) (vs.getD i undef)) →
      fvs.length = fn.nfree → (∀ x, x < fn.nfree → PtrV β0 (.p (n + x)) 0 (fvs.getD x undef)) →
      ∀ (o : Oper) (a : Act) (next : Act → World → Prop) (Q : Exit → Act → World → Prop),
        (∀ v w', Post P A f fn D β0 (ov (fun _ => none) (ms ++ bl)) w.heap (bs.map (·.1)) res v w'.heap → Env w w' → next (a.put o.dst v) w') → o.upon P a next Q ((callFunc f (vs ++ fvs).toArray).run P w) := by
  unfold extR at h
  split at h
  · rename_i x y b t1 t2 hb hv hr
    split at h
    · rename_i h1 h2
      cases hc : (fn.name == "math/bits.Sub64" && (fn.origin == "" && (Nat.beq fn.nfree 0 && (!isAggB P t1 && (!isAggB P t2 && Nat.ble b.toNat 1))))) with
      | false => rw [hc] at h; cases h
      | true =>
        rw [hc, cond_true] at h
        cases h
        simp only [Bool.and_eq_true, Bool.not_eq_true', beq_iff_eq] at hc
        obtain ⟨c1, c2, c3, c4, c5, c6⟩ := hc
        have c3 := Nat.eq_of_beq_eq_true c3
        have c6 := Nat.le_of_ble_eq_true c6
        refine ⟨fn, _, _, _, _, hf, hv, rfl, by rw [c3]; rfl, fun D β0 w vs fvs H hl hvv hfl hfv o a next Q hn => ?_⟩
        match vs, hl with
        | [v1, v2, v3], _ =>
          have e1 : v1 = .int .u64 x := (hvv 0 (by simp)).leaf
          have e2 : v2 = .int .u64 y := (hvv 1 (by simp)).leaf
          have e3 : v3 = .int .u64 b := (hvv 2 (by simp)).leaf
          subst e1 e2 e3
          have e4 : fvs = [] := by rw [c3] at hfl; exact List.length_eq_zero_iff.1 hfl
          subst e4
          show o.upon P a next Q ((callFunc f #[.int .u64 x, .int .u64 y, .int .u64 b]).run P w)
          rw [run_sub64 hf hb c1 c2 c6 w]
          have hrv : rowsV P (A.ownR f) fn.resultTypes.toList [PV.i (Int.ofNat ((x.toNat + 2 ^ 64 - y.toNat - b.toNat) % 2 ^ 64)), PV.i (Int.ofNat (if x.toNat < y.toNat + b.toNat then 1 else 0))] 0 = [] := by
            rw [hr]; simp [rowsV, rowsO, h1, h2]
          have hnt : newTs P fn.resultTypes.toList = [] := by rw [hr]; simp [newTs, h1, h2]
          refine hn _ w ⟨β0, [], rfl, by rw [hnt]; rfl, by rw [hrv]; exact H, Nat.le_refl _, fun _ _ _ => rfl, fun x y h k hx => (by rw [hrv] at hx; cases hx), fun i hi => (by cases hi), [_, _], rfl, fun avs ms n hh => ?_⟩ (Env.refl _)
          rw [hr] at hh
          simp [handV, hand1, h1, h2, LTy.plain, mkAV, c4, c5, decO, decL, rowsO, PV.toI] at hh
          obtain ⟨rfl, _⟩ := hh
          refine ⟨rfl, fun i hi => ?_⟩
          match i, hi with
          | 0, _ => exact .v _ _ rfl
          | 1, _ => exact .v _ _ rfl
    · cases h
  · cases h

theorem lvl_ok {P : Program} {A : Ann} (hP : NoCount P) (hq : CallOk P A A.prim) : ∀ n, CallOk P A (lvl P A n).1 ∧
    ∀ (f : FuncId) (fn : Func) (pts : List TypeId) (todo : List Item) (st : St) (res : Res), P.funcs[f]? = some fn → (lvl P A n).2 f pts todo st = some res → Runs P A f fn pts todo st res
  | 0 => ⟨fun f ps bs res h => (by cases h), fun f fn pts todo st res _ h => (by cases h)⟩
  | n + 1 => by
    obtain ⟨ih1, ih2⟩ := lvl_ok hP hq n
    refine ⟨fun f ps bs res h => ?_, fun f fn pts todo st res hf h => ?_⟩
    · simp only [lvl] at h
      cases hp : A.prim f ps bs with
      | some r =>
        rw [hp] at h
        cases h
        exact hq f ps bs _ hp
      | none =>
      rw [hp] at h
      simp only at h
      split at h
      · rename_i fn hf
        split at h
        · rename_i c st hb he
          obtain ⟨avs, ms, nn, bl, e1, e2, e3, e4, e5⟩ := enter_sound he
          refine ⟨fn, avs, ms, nn, bl, hf, e1, e2, e3, fun D β0 w vs fvs H hl hv hfl hfv o a next Q hn => ?_⟩
          rw [run_callFunc hP hf hb]
          intro cs
          have hr := adv_sound ih1 (fun todo st res h => ih2 f fn _ todo st res hf h) _ _ _ _ _ h
          let b : Go.Frame := { (default : Go.Frame) with fn := f, kind := .normal }
          have henter : Go.Frame.enter P f (vs ++ fvs).toArray .normal =
              b.at { tmps := (vs ++ fvs).toArray ++ Array.replicate (fn.ntmps - (vs ++ fvs).toArray.size) undef, defers := [] } [.code c] := by
            simp [Go.Frame.enter, Go.Frame.at, hf, hb, b]
          obtain ⟨a', todo', v, w', s, hd, hrun, hp, en⟩ := hr w.heap ⟨_, _, w⟩ D β0 _ (fun _ h => h) (fun _ => rfl) β0 _ w (e5 D β0 w vs fvs H hl hv hfl hfv) b cs
          rw [← henter] at s
          exact ⟨.returned v, w', _, hn v w' hp en, s, rfl, rfl, hd, rfl, fn, hf, hrun⟩
        · exact extR_ok hf h
        · cases h
      · cases h
    · simp only [lvl, hf] at h
      exact adv_sound ih1 (fun todo st res h => ih2 f fn _ todo st res hf h) _ _ _ _ _ h

theorem callAt_ok {P : Program} {A : Ann} (hP : NoCount P) (hq : CallOk P A A.prim) (n : Nat) : CallOk P A (callAt P A n) := (lvl_ok hP hq n).1
end Go.AI
