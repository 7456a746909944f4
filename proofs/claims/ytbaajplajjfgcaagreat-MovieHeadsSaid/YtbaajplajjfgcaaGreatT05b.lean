/- A box with a slice of bytes of its own and a number: what lies in memory, and calls that are handed it. -/
import Derived.Test.YtbaajplajjfgcaaGreatAiL
set_option linter.unusedVariables false
set_option linter.unusedSimpArgs false
namespace Go.AI
open Go

def lbW (t e : TypeId) (es : List (List PV)) (fr : Int) : Id → Option Box := ov (fun _ => none) [(.p 0, .cells t [.wr (.c (.p 0) 0), .int .i64 fr]), (.c (.p 0) 0, .row e es)]
theorem lbW_c (t e : TypeId) (es : List (List PV)) (fr : Int) : lbW t e es fr (.c (.p 0) 0) = some (.row e es) := by
  unfold lbW
  rw [ov_cons, ov_cons]
  exact updB_same ..
theorem lbW_p (t e : TypeId) (es : List (List PV)) (fr : Int) : lbW t e es fr (.p 0) = some (.cells t [.wr (.c (.p 0) 0), .int .i64 fr]) := by
  unfold lbW
  rw [ov_cons, ov_cons]
  show updB (updB (fun _ => none) (.p 0) _) (.c (.p 0) 0) _ (.p 0) = _
  exact (updB_ne _ _ (fun h => by cases h)).trans (updB_same ..)
theorem lbW_some {t e : TypeId} {es : List (List PV)} {fr : Int} {id : Id} {b : Box} (h : lbW t e es fr id = some b) : (id = .p 0 ∧ b = .cells t [.wr (.c (.p 0) 0), .int .i64 fr]) ∨ (id = .c (.p 0) 0 ∧ b = .row e es) := by
  unfold lbW at h
  rcases ov_mem _ _ _ _ h with h | h
  · simp only [List.mem_cons, List.not_mem_nil, or_false, Prod.mk.injEq] at h
    exact h
  · cases h
/-- the box lies in block wb, its row in block rb -/
structure WBx (w : World) (wb : Nat) (rb : Option Nat) (es : List (List PV)) (fr : Int) : Prop where
  one : ∀ i, i < es.length → (es.getD i []).length = 1
  ex : ∃ (v : Value) (ty : TypeId) (f : Nat × Nat), w.heap[wb]? = some (.cells #[v, .int .i64 fr] ty f) ∧ unfro #[v, .int .i64 fr] f ∧
    ((rb = none ∧ es = [] ∧ ∃ a, v = .slice a 0 0) ∨
     ∃ (g cap : Nat) (c : Array Value) (ty2 : TypeId) (f2 : Nat × Nat), rb = some g ∧ g ≠ wb ∧ v = .slice (some ⟨g, 0, none⟩) es.length cap ∧ es.length ≤ cap ∧ w.heap[g]? = some (.cells c ty2 f2) ∧ unfro c f2 ∧ cap ≤ c.size ∧
      ∀ i, i < es.length → ∃ n : Int, (es.getD i []).getD 0 .u = .i n ∧ c.getD i undef = .int .u8 n)
section
variable {w w' : World} {wb : Nat} {rb : Option Nat} {es : List (List PV)} {fr : Int}
theorem WBx.lt (h : WBx w wb rb es fr) : wb < w.heap.size := by
  obtain ⟨v, ty, f, h1, _⟩ := h.ex
  exact (Array.getElem?_eq_some_iff.1 h1).1
theorem WBx.rlt (h : WBx w wb rb es fr) : ∀ g, rb = some g → g < w.heap.size ∧ g ≠ wb := fun g hg => by
  obtain ⟨v, ty, f, h1, _, ⟨h2, _⟩ | ⟨g', cap, c, ty2, f2, h2, h3, _, _, h4, _⟩⟩ := h.ex
  · rw [h2] at hg; cases hg
  · rw [h2] at hg
    cases hg
    exact ⟨(Array.getElem?_eq_some_iff.1 h4).1, h3⟩
theorem WBx.kept (h : WBx w wb rb es fr) (h1 : w'.heap[wb]? = w.heap[wb]?) (h2 : ∀ g, rb = some g → w'.heap[g]? = w.heap[g]?) : WBx w' wb rb es fr := by
  obtain ⟨v, ty, f, a1, a2, ⟨a3, a4, a5⟩ | ⟨g, cap, c, ty2, f2, b1, b2, b3, b4, b5, b6, b7, b8⟩⟩ := h.ex
  · exact ⟨h.one, v, ty, f, h1.trans a1, a2, .inl ⟨a3, a4, a5⟩⟩
  · exact ⟨h.one, v, ty, f, h1.trans a1, a2, .inr ⟨g, cap, c, ty2, f2, b1, b2, b3, b4, (h2 g b1).trans b5, b6, b7, b8⟩⟩
end
theorem handB_W {P : Program} {t e : TypeId} {A : Ann} (hlt : leaves P t = some [.sl e, .int .i64]) (how : A.ownT t e = true) (es : List (List PV)) (fr : Int) : handB P A [(t, [.l es, .i fr])] 0 = some [(.p 0, .cells t [.wr (.c (.p 0) 0), .int .i64 fr]), (.c (.p 0) 0, .row e es)] := by
  unfold handB handB
  rw [hlt]
  simp only [decO, rowsO, how, cond_true, List.getD_cons_zero, List.getD_cons_succ, decL, List.append_nil]
  rfl
def gmW (wb : Nat) (rb : Option Nat) (n cap : Nat) : GM := fun id => if id = .p 0 then some ⟨some wb, 0, 0, 0⟩ else if id = .c (.p 0) 0 then some ⟨rb, n, cap, 1⟩ else none
theorem gmW_p (wb : Nat) (rb : Option Nat) (n cap : Nat) : gmW wb rb n cap (.p 0) = some ⟨some wb, 0, 0, 0⟩ := if_pos rfl
theorem gmW_c (wb : Nat) (rb : Option Nat) (n cap : Nat) : gmW wb rb n cap (.c (.p 0) 0) = some ⟨rb, n, cap, 1⟩ := (if_neg (fun h => by cases h)).trans (if_pos rfl)
theorem gmW_no {wb : Nat} {rb : Option Nat} {n cap : Nat} {x : Id} (h1 : x ≠ .p 0) (h2 : x ≠ .c (.p 0) 0) : gmW wb rb n cap x = none := (if_neg h1).trans (if_neg h2)
section
variable {P : Program} {t e : TypeId} (hle : leaves P e = some [.int .u8])
include hle
theorem WBx.hand {w : World} {wb : Nat} {rb : Option Nat} {es : List (List PV)} {fr : Int} (h : WBx w wb rb es fr) : ∃ β : GM, Hand P (fun _ => False) β (lbW t e es fr) w.heap ∧ (∃ x, β (.p 0) = some x ∧ x.blk = some wb) ∧ (∃ x, β (.c (.p 0) 0) = some x ∧ x.blk = rb) := by
  obtain ⟨v, ty, f, a1, a2, hr⟩ := h.ex
  obtain ⟨cap, hcap⟩ : ∃ cap, (rb = none ∧ cap = 0 ∧ es = [] ∧ ∃ a, v = .slice a 0 0) ∨ ∃ g c ty2 f2, rb = some g ∧ g ≠ wb ∧ v = .slice (some ⟨g, 0, none⟩) es.length cap ∧ es.length ≤ cap ∧ w.heap[g]? = some (.cells c ty2 f2) ∧ unfro c f2 ∧ cap ≤ c.size ∧
      ∀ i, i < es.length → ∃ n : Int, (es.getD i []).getD 0 .u = .i n ∧ c.getD i undef = .int .u8 n := by
    rcases hr with ⟨b1, b2, b3⟩ | ⟨g, cap, c, ty2, f2, b⟩
    · exact ⟨0, .inl ⟨b1, rfl, b2, b3⟩⟩
    · exact ⟨cap, .inr ⟨g, c, ty2, f2, b⟩⟩
  clear hr
  refine ⟨gmW wb rb es.length cap, ⟨⟨?_, ?_, ?_, fun k h => h.elim⟩, ?_, ?_, ?_⟩, ⟨_, gmW_p .., rfl⟩, ⟨_, gmW_c .., rfl⟩⟩
  · intro id x hx
    rcases lbW_some hx with ⟨rfl, rfl⟩ | ⟨rfl, rfl⟩
    · refine ⟨_, wb, _, ty, f, gmW_p .., rfl, a1, a2, rfl, fun i hi => ?_⟩
      match i, hi with
      | 0, _ =>
        refine ⟨⟨rb, es.length, cap, 1⟩, gmW_c .., ?_⟩
        rcases hcap with ⟨b1, b2, b3, a, b4⟩ | ⟨g, c, ty2, f2, b1, b2, b3, _⟩
        · exact .inl ⟨b1, by rw [b3]; rfl, a, b4⟩
        · exact .inr ⟨g, b1, b3⟩
      | 1, _ => exact rfl
    · refine ⟨⟨rb, es.length, cap, 1⟩, gmW_c .., [.int .u8], hle, rfl, rfl, h.one, ?_, ?_⟩
      · rcases hcap with ⟨_, b2, b3, _⟩ | ⟨g, c, ty2, f2, _, _, _, b4, _⟩
        · rw [b3]; exact Nat.zero_le _
        · exact b4
      · rcases hcap with ⟨b1, b2, b3, _⟩ | ⟨g, c, ty2, f2, b1, _, _, _, b5, b6, b7, b8⟩
        · exact .inl ⟨b1, b2⟩
        · refine .inr ⟨g, c, ty2, f2, b1, b5, b6, by rw [List.length_singleton, Nat.mul_one]; exact b7, fun i j hi hj => ?_⟩
          rw [List.length_singleton] at hj ⊢
          have hj : j = 0 := by omega
          subst hj
          obtain ⟨n, c1, c2⟩ := b8 i hi
          rw [Nat.mul_one, Nat.add_zero, c1, c2]
          exact .int _ _
  · intro id id' x x' hh hh' k hx hx' hb hb' hk hk'
    rcases lbW_some hx with ⟨rfl, _⟩ | ⟨rfl, _⟩ <;> rcases lbW_some hx' with ⟨rfl, _⟩ | ⟨rfl, _⟩
    · rfl
    · rw [gmW_p] at hb
      rw [gmW_c] at hb'
      cases hb
      cases hb'
      have hk' : rb = some k := hk'
      cases hk
      rcases hcap with ⟨b1, _⟩ | ⟨g, c, ty2, f2, b1, b2, _⟩
      · rw [b1] at hk'; cases hk'
      · rw [b1] at hk'; cases hk'; exact absurd rfl b2
    · rw [gmW_p] at hb'
      rw [gmW_c] at hb
      cases hb
      cases hb'
      have hk : rb = some k := hk
      cases hk'
      rcases hcap with ⟨b1, _⟩ | ⟨g, c, ty2, f2, b1, b2, _⟩
      · rw [b1] at hk; cases hk
      · rw [b1] at hk; cases hk; exact absurd rfl b2
    · rfl
  · exact fun id x h k _ _ _ hD => hD
  · intro x hx
    by_cases h1 : x = .p 0
    · rw [h1, lbW_p]; exact fun h => by cases h
    · by_cases h2 : x = .c (.p 0) 0
      · rw [h2, lbW_c]; exact fun h => by cases h
      · exact absurd (gmW_no h1 h2) hx
  · intro x hx
    cases hb : lbW t e es fr x with
    | none => exact absurd hb hx
    | some b => rcases lbW_some hb with ⟨rfl, _⟩ | ⟨rfl, _⟩ <;> rfl
  · intro x b hb
    rcases lbW_some hb with ⟨_, rfl⟩ | ⟨_, rfl⟩ <;> rfl
theorem WBx.of_hand {w : World} {wb : Nat} {rb : Option Nat} {es : List (List PV)} {fr : Int} {D : Nat → Prop} {β : GM} (H : Hand P D β (lbW t e es fr) w.heap) (h1 : ∃ x, β (.p 0) = some x ∧ x.blk = some wb) (h2 : ∃ x, β (.c (.p 0) 0) = some x ∧ x.blk = rb) : WBx w wb rb es fr := by
  obtain ⟨x, hx, hxb⟩ := h1
  obtain ⟨y, hy, hyb⟩ := h2
  obtain ⟨y', hy', ts, r1, r2, r3, r4, r5, r6⟩ := H.mem.bx (.c (.p 0) 0) _ (lbW_c ..)
  rw [hy] at hy'
  cases hy'
  rw [hle] at r1
  cases r1
  obtain ⟨x', b, c, ty, f, c1, c2, c3, c4, c5, c6⟩ := H.mem.bx (.p 0) _ (lbW_p ..)
  rw [hx] at c1
  cases c1
  rw [hxb] at c2
  cases c2
  have v0 := c6 0 (by simp)
  have v1 : c.getD 1 undef = .int .i64 fr := c6 1 (by simp)
  have hc : c = #[c.getD 0 undef, .int .i64 fr] := by
    have c5 : c.size = 2 := c5
    apply Array.ext
    · rw [c5]; rfl
    · intro i h1 h2
      rw [c5] at h1
      match i, h1 with
      | 0, _ => simp [Array.getD, c5]
      | 1, _ =>
        rw [← v1]
        simp [Array.getD, c5]
  generalize c.getD 0 undef = v at v0 hc
  subst hc
  refine ⟨r4, v, ty, f, c3, c4, ?_⟩
  obtain ⟨z, hz, hv⟩ := v0
  rw [hy] at hz
  cases hz
  rcases hv with ⟨k1, k2, a, rfl⟩ | ⟨g, k1, rfl⟩
  · refine .inl ⟨hyb.symm.trans k1, ?_, a, rfl⟩
    rw [r3] at k2
    exact List.length_eq_zero_iff.1 k2
  · rcases r6 with ⟨k2, _⟩ | ⟨g', c', ty2, f2, k2, k3, k4, k5, k6⟩
    · rw [k1] at k2; cases k2
    · rw [k1] at k2
      cases k2
      refine .inr ⟨g, y.cap, c', ty2, f2, hyb.symm.trans k1, ?_, by rw [r3], r5, k3, k4, by rw [List.length_singleton, Nat.mul_one] at k5; exact k5, fun i hi => ?_⟩
      · intro e
        have := H.mem.dj (.c (.p 0) 0) (.p 0) _ _ _ _ g (lbW_c ..) (lbW_p ..) hy hx k1 (by rw [hxb, e])
        cases this
      · have := k6 i 0 hi (by simp)
        rw [List.length_singleton, Nat.mul_one, Nat.add_zero] at this
        generalize (es.getD i []).getD 0 .u = p at this ⊢
        generalize c'.getD i undef = u at this ⊢
        cases this with
        | int k n => exact ⟨n, rfl, rfl⟩
variable {A : Ann} (hlt : leaves P t = some [.sl e, .int .i64]) (how : A.ownT t e = true)
include hlt how
/-- a call that is handed the box -/
theorem WBx.calls (hP : NoCount P) (hq : CallOk P A A.prim) {n : Nat} {f : FuncId} {ps : List PV} {es es' : List (List PV)} {fr fr' : Int} (h : callAt P A n f ps [(t, [.l es, .i fr])] = some ([], [(t, [.l es', .i fr'])])) {fn : Func} {c : Code} (hf : P.funcs[f]? = some fn) (hbody : fn.body = some c) (hfree : fn.nfree = 0) (hres : fn.resultTypes.toList = [])
    {avs : List AV} {m : Nat} (ha : handV P (A.ownA f) fn.params.toList ps 0 0 = some (.v (.ptr (.p 0) 0) :: avs, [], m)) {args : List Value} {w : World} {wb : Nat} {rb : Option Nat} (hw : WBx w wb rb es fr) (hl : args.length = avs.length)
    (hv : ∀ i, i < avs.length → VR P (fun _ => False) w.heap (fun _ => none) (avs.getD i .any) (args.getD i undef)) :
    Calls P f (Value.pointer (some ⟨wb, 0, none⟩) :: args).toArray w fun e' w' => e' = .returned (.tuple #[]) ∧ Env w w' ∧ w.heap.size ≤ w'.heap.size ∧ (∀ b, b < w.heap.size → b ≠ wb → some b ≠ rb → w'.heap[b]? = w.heap[b]?) ∧
      ∃ rb', WBx w' wb rb' es' fr' ∧ (rb' = none ∨ rb' = rb ∨ ∃ g, rb' = some g ∧ w.heap.size ≤ g) := by
  obtain ⟨fn', avs', ms, nn, bl, g1, g2, g3, g4, g5⟩ := callAt_ok hP hq n f ps _ _ h
  rw [hf] at g1
  cases g1
  rw [ha] at g2
  cases g2
  rw [handB_W hlt how] at g3
  cases g3
  obtain ⟨β, H, hp, hr⟩ := hw.hand (t := t) hle
  obtain ⟨x, hx, hxb⟩ := hp
  obtain ⟨y, hy, hyb⟩ := hr
  have hblk : ∀ k, blkOf β (lbW t e es fr) k → k = wb ∨ some k = rb := by
    rintro k ⟨id, b, hh, b1, b2, b3⟩
    rcases lbW_some b1 with ⟨rfl, _⟩ | ⟨rfl, _⟩
    · rw [hx] at b2; cases b2; rw [hxb] at b3; cases b3; exact .inl rfl
    · rw [hy] at b2; cases b2; rw [hyb] at b3; exact .inr b3.symm
  have up := g5 (fun _ => False) β w (Value.pointer (some ⟨wb, 0, none⟩) :: args) [] H (by rw [List.length_cons, List.length_cons, hl]) (fun i hi => by
      match i with
      | 0 => exact .v _ _ ⟨x, wb, hx, hxb, rfl⟩
      | i + 1 =>
        rw [List.getD_cons_succ, List.getD_cons_succ]
        exact VR.mono ⟨fun b hb => hb.elim, fun id k hk => by cases hk⟩ (hv i (by simpa using hi))) (by rw [hfree]; rfl) (fun x hx => by rw [hfree] at hx; exact absurd hx (Nat.not_lt_zero _))
    { (default : Oper) with dst := some 0 } { tmps := #[undef], defers := [] } (fun a' w' => a'.tmps = #[.tuple #[]] ∧ Env w w' ∧ w.heap.size ≤ w'.heap.size ∧ (∀ b, b < w.heap.size → b ≠ wb → some b ≠ rb → w'.heap[b]? = w.heap[b]?) ∧
      ∃ rb', WBx w' wb rb' es' fr' ∧ (rb' = none ∨ rb' = rb ∨ ∃ g, rb' = some g ∧ w.heap.size ≤ g)) (fun _ _ _ => False) (fun v w' hp en => by
      obtain ⟨β2, bl2, d1, d2, H2, hsz, hsame, hnew, hsm, vs, rfl, hrs⟩ := hp
      rw [handB_W hlt how] at d1
      cases d1
      rw [hres] at H2 hrs hnew
      have hvs : vs = [] := by
        have := (hrs [] [] _ rfl).1
        exact List.length_eq_zero_iff.1 this.symm
      subst hvs
      have q0 := hsm 0 (by simp)
      obtain ⟨y2, hy2⟩ := H2.mem.hdr (show lbW t e es' fr' (.c (.p 0) 0) = _ from lbW_c ..)
      refine ⟨rfl, en, hsz, fun b hb hb1 hb2 => hsame b hb (fun hk => ?_), y2.blk, WBx.of_hand (t := t) hle H2 ⟨x, q0.trans hx, hxb⟩ ⟨y2, hy2, rfl⟩, ?_⟩
      · rcases hblk b hk with h | h
        · exact hb1 h
        · exact hb2 h
      · cases hk : y2.blk with
        | none =>
          exact .inl rfl
        | some g =>
          by_cases hg : w.heap.size ≤ g
          · exact .inr (.inr ⟨g, rfl, hg⟩)
          · refine .inr (.inl ?_)
            rcases hblk g (hnew _ _ _ g (show lbW t e es' fr' (.c (.p 0) 0) = _ from lbW_c ..) hy2 hk (by omega)) with h | h
            · have := H2.mem.dj (.c (.p 0) 0) (.p 0) _ _ _ _ g (lbW_c ..) (lbW_p ..) hy2 (q0.trans hx) hk (by rw [hxb, h])
              cases this
            · exact h)
  rw [List.append_nil, run_callFunc hP hf hbody] at up
  have up : Calls P f (Value.pointer (some ⟨wb, 0, none⟩) :: args).toArray w _ := up
  refine up.mono fun e w' h => ?_
  cases e with
  | returned v =>
    obtain ⟨h1, h2⟩ := h
    have h1 : (Array.setIfInBounds #[undef] 0 v) = #[.tuple #[]] := h1
    have : v = .tuple #[] := by simpa using h1
    subst this
    exact ⟨rfl, h2⟩
  | panicked ch => exact h.elim
  | outgrown => obtain ⟨_, _, h⟩ := h; exact h.elim
end
end Go.AI
