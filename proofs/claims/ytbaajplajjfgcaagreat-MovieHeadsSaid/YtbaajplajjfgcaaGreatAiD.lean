/- The interpreter's soundness, twenty-first part: every operation, and its guard. -/
import Derived.Test.YtbaajplajjfgcaaGreatAiC
import Derived.Orders
set_option linter.unusedVariables false
set_option linter.unusedSimpArgs false
namespace Go.AI
open Go

section
variable {α : Type} {P : Program} {A : Ann} {F : FuncId} {h0 : Array Obj} {W : Wr} {D : Nat → Prop} {β : GM} {S : Nat → Prop} {st : St} {a : Act} {w : World} {call : CallF} {K : St → Option α} {res : α}
  {o : Oper} {j : Nat} {Q : Exit → Act → World → Prop}

theorem op_sound (R : Rel P h0 W D β S st a w) (hj : S j) (hn : ∀ c, β (.n st.r j c) = none) (hz : ∀ x, β (.z st.r j x) = none) (hc : CallOk P A call)
    (h : (opK P A F o st.r j).run call st K = some res) : o.wp P a w (Good P h0 W D S st.r st.q K res) Q := by
  cases ho : o.op with
  | move x => exact op_move R (.inl ho) (by simpa only [opK, ho] using h)
  | assign x => exact op_move R (.inr ho) (by simpa only [opK, ho] using h)
  | pick c x y => exact op_pick R ho h
  | alloc e => exact op_alloc R hj hn ho h
  | box e x => exact op_box R hj hn ho h
  | build t ps => exact op_build R ho h
  | buildSlice t n ps => exact op_buildSlice R hj hn hz ho h
  | load t x => exact op_load R ho h
  | store t x y => exact op_store R ho h
  | nilCheck x => exact op_nilCheck R ho h
  | binOp op t x y yt => exact op_binOp R ho h
  | unOp op t x => exact op_unOp R ho h
  | convert s d x => exact op_convert R hj hn ho h
  | makeFunc f x c => exact op_makeFunc R ho h
  | makeSlice t l c => exact op_makeSlice R hj hn ho h
  | slice t x lo hi mx =>
    cases mx with
    | none => exact op_slice R ho h
    | some m => simp [opK, ho, Acc.run] at h
  | fieldAddr s x f => exact op_fieldAddr R ho h
  | field s x f => exact op_field R ho h
  | indexAddr t x ix => exact op_indexAddr R ho h
  | index t x ix => exact op_index R ho h
  | extract x i => exact op_extract R ho h
  | call c =>
    cases hcc : c.callee with
    | value x => exact op_call R hj hn hz hc ho hcc h
    | invoke r m => simp [opK, ho, hcc, Acc.run] at h
    | builtin b =>
      cases b with
      | len => exact op_len R ho hcc h
      | append => exact op_append R hj hn ho hcc h
      | max => exact op_minmax R true ho hcc h
      | min => exact op_minmax R false ho hcc h
      | _ => simp [opK, ho, hcc, Acc.run] at h
  | _ => simp [opK, ho, Acc.run] at h

theorem Rel.same (R : Rel P h0 W D β S st a w) (d : Nat) {x : AV} (h : VR P (NN D β st.boxes w.heap) w.heap β x (a.tmps.getD d undef)) : Rel P h0 W D β S (st.set d x) a w := by
  refine ⟨R.mem, R.fresh, R.frame, fun t => ?_, R.nt, R.df, R.nz, R.en⟩
  show VR _ _ _ _ (bif Nat.beq t d then x else st.tmps t) _
  cases hb : Nat.beq t d with
  | true => have := Nat.eq_of_beq_eq_true hb; subst this; exact h
  | false => exact R.tm t

theorem VR.undef {N : Nat → Prop} {hp : Array Obj} {v : Value} (h : VR P N hp β .und v) : v = undef := by cases h; rfl
theorem VR.bool {N : Nat → Prop} {hp : Array Obj} {b : Bool} {v : Value} (h : VR P N hp β (.v (.bool b)) v) : v = .bool b := h.leaf

theorem getD_bool {l : Array Value} {d : Nat} {b : Bool} (h : l.getD d undef = .bool b) : l[d]? = some (.bool b) := by
  rw [Array.getD_eq_getD_getElem?] at h
  cases hh : l[d]? with
  | none => rw [hh] at h; cases h
  | some x => rw [hh] at h; exact congrArg some h

/-- an operation with its guard -/
theorem go_sound {all : Array Oper} (R : Rel P h0 W D β S st a w) (hj : S j) (hn : ∀ c, β (.n st.r j c) = none) (hz : ∀ x, β (.z st.r j x) = none) (hc : CallOk P A call) (hi : all[j]? = some o)
    (h : (goK P A F all o st.r j).run call st K = some res) : wpOp P all Q j (Good P h0 W D S st.r st.q K res) a w := by
  unfold wpOp
  rw [hi]
  simp only
  unfold goK at h
  cases hg : o.guard with
  | none =>
    rw [hg] at h
    have : Region.wanted o (yielded all a.tmps) = true := by unfold Region.wanted; rw [hg]
    rw [if_pos this]
    exact .inl (op_sound R hj hn hz hc h)
  | some gw =>
    obtain ⟨g, want⟩ := gw
    rw [hg] at h
    obtain ⟨d, hd, h⟩ := run_orFail _ _ _ h
    have hw : ∀ {b : Bool}, a.tmps.getD d undef = .bool b → Region.wanted o (yielded all a.tmps) = (b == want) := fun {b} hb => by
      unfold Region.wanted yielded
      rw [hg]
      simp only [hd, Option.bind_some, getD_bool hb]
      cases b <;> cases want <;> rfl
    have skip : ∀ {st' : St}, Rel P h0 W D β S st' a w → st'.r = st.r → st'.q = st.q → (putK o.dst .und .done).run call st' K = some res → Good P h0 W D S st.r st.q K res (a.put o.dst undef) w := fun R' e1 e2 h' => by
      rw [← e1, ← e2]; exact R'.good_put .und h'
    simp only [Acc.run] at h
    have hv := R.tm d
    split at h
    · rename_i b hb
      rw [hb] at hv
      have hvb := hv.bool
      have R' : Rel P h0 W D β S (st.set d (.v (.bool b))) a w := R.same d (by rw [hvb]; exact .v _ _ rfl)
      have hwb := hw hvb
      cases want with
      | true =>
        cases b with
        | true =>
          rw [if_pos (by rw [hwb]; rfl)]
          exact .inl (op_sound (st := st.set d _) (Q := Q) R' hj hn hz hc h)
        | false =>
          rw [if_neg (by rw [hwb]; decide)]
          exact skip R' rfl rfl (by simpa using h)
      | false =>
        cases b with
        | true =>
          rw [if_neg (by rw [hwb]; decide)]
          exact skip R' rfl rfl (by simpa using h)
        | false =>
          rw [if_pos (by rw [hwb]; rfl)]
          exact .inl (op_sound (st := st.set d _) (Q := Q) R' hj hn hz hc h)
    · rename_i hb
      rw [hb] at hv
      have hvu := hv.undef
      have : Region.wanted o (yielded all a.tmps) = false := by
        unfold Region.wanted yielded
        rw [hg]
        simp only [hd, Option.bind_some]
        rw [Array.getD_eq_getD_getElem?] at hvu
        cases hh : a.tmps[d]? with
        | none => cases want <;> rfl
        | some x =>
          rw [hh] at hvu
          simp only [Option.getD_some] at hvu
          subst hvu
          cases want <;> rfl
      rw [if_neg (by rw [this]; decide)]
      exact skip R rfl rfl h
    · cases h
end
end Go.AI
set_option linter.unusedVariables false
set_option linter.unusedSimpArgs false
namespace Go.AI
open Go

def agree (s s' : St) : Loc → Prop
  | .t t => s.tmps t = s'.tmps t
  | .b id => s.boxes id = s'.boxes id
theorem agree_ext {s s' : St} (h : ∀ l, agree s s' l) (h1 : s.r = s'.r) (h2 : s.nt = s'.nt) (h3 : s.q = s'.q) : s = s' := by
  obtain ⟨t, b, r, n, q⟩ := s
  obtain ⟨t', b', r', n', q'⟩ := s'
  have e1 : t = t' := funext fun x => h (.t x)
  have e2 : b = b' := funext fun x => h (.b x)
  simp only at h1 h2 h3
  subst e1 e2 h1 h2 h3
  rfl
theorem agree_set {s s' : St} {d : Nat} {v : AV} {l : Loc} (h : l ≠ .t d → agree s s' l) : agree (s.set d v) (s'.set d v) l := by
  cases l with
  | t t =>
    show (bif Nat.beq t d then v else s.tmps t) = (bif Nat.beq t d then v else s'.tmps t)
    cases hb : Nat.beq t d with
    | true => rfl
    | false => exact h (by rintro ⟨⟩; simp at hb)
  | b id => exact h (by simp)
theorem agree_setB {s s' : St} {d : Id} {v : Option Box} {l : Loc} (h : l ≠ .b d → agree s s' l) : agree (s.setB d v) (s'.setB d v) l := by
  cases l with
  | t t => exact h (by simp)
  | b id =>
    show updB s.boxes d v id = updB s'.boxes d v id
    by_cases e : id = d
    · subst e; rw [updB_same, updB_same]
    · rw [updB_ne _ _ e, updB_ne _ _ e]; exact h (by rintro ⟨⟩; exact e rfl)
theorem agree_set_ne {s : St} {d : Nat} {v : AV} {l : Loc} (h : l ≠ .t d) : agree (s.set d v) s l := by
  cases l with
  | t t =>
    show (bif Nat.beq t d then v else s.tmps t) = s.tmps t
    cases hb : Nat.beq t d with
    | true => exact absurd (Nat.eq_of_beq_eq_true hb) (fun e => h (by rw [e]))
    | false => rfl
  | b id => rfl
theorem agree_setB_ne {s : St} {d : Id} {v : Option Box} {l : Loc} (h : l ≠ .b d) : agree (s.setB d v) s l := by
  cases l with
  | t t => rfl
  | b id => exact updB_ne s.boxes v (fun e => h (by rw [e]))
theorem agree.trans {a b c : St} {l : Loc} (h : agree a b l) (h' : agree b c l) : agree a c l := by
  cases l <;> exact Eq.trans h h'
theorem agree.symm {a b : St} {l : Loc} (h : agree a b l) : agree b a l := by
  cases l <;> exact Eq.symm h
theorem agree.refl (a : St) (l : Loc) : agree a a l := by
  cases l <;> rfl
theorem set_self {s : St} {d : Nat} {v : AV} (h : s.tmps d = v) : s.set d v = s := by
  refine agree_ext (fun l => ?_) rfl rfl rfl
  by_cases e : l = .t d
  · subst e
    show (bif Nat.beq d d then v else s.tmps d) = s.tmps d
    simp [h]
  · exact agree_set_ne e

/-- an operation's run, with the places that it reads and writes -/
inductive Ex (call : CallF) : Acc → St → St → List Loc → List Loc → Prop
  | done (s : St) : Ex call .done s s [] []
  | getT {t : Nat} {k : AV → Acc} {s s1 : St} {rd wr : List Loc} (h : Ex call (k (s.tmps t)) s s1 rd wr) : Ex call (.getT t k) s s1 (.t t :: rd) wr
  | getB {id : Id} {k : Option Box → Acc} {s s1 : St} {rd wr : List Loc} (h : Ex call (k (s.boxes id)) s s1 rd wr) : Ex call (.getB id k) s s1 (.b id :: rd) wr
  | setT {d : Nat} {v : AV} {k : Acc} {s s1 : St} {rd wr : List Loc} (hd : Nat.blt d s.nt = true) (h : Ex call k (s.set d v) s1 rd wr) : Ex call (.setT d v k) s s1 rd (.t d :: wr)
  | setB {id : Id} {b : Option Box} {k : Acc} {s s1 : St} {rd wr : List Loc} (hq : (!s.q || id.fresh s.r) = true) (h : Ex call k (s.setB id b) s1 rd wr) : Ex call (.setB id b k) s s1 rd (.b id :: wr)
  | test {k : Acc} {s s1 : St} {rd wr : List Loc} (h : Ex call k s s1 rd wr) : Ex call (.test true k) s s1 rd wr
  | fork {b : Bool} {x y : Acc} {s s1 : St} {rd wr : List Loc} (h : Ex call (bif b then x else y) s s1 rd wr) : Ex call (.fork b x y) s s1 rd wr
  | br {d : Nat} {want b : Bool} {x y : Acc} {s s1 : St} {rd wr : List Loc} (hd : s.tmps d = .v (.bool b)) (h : Ex call (bif b == want then x else y) s s1 rd wr) : Ex call (.br d want x y) s s1 (.t d :: rd) wr
  | und {d : Nat} {want : Bool} {x y : Acc} {s s1 : St} {rd wr : List Loc} (hd : s.tmps d = .und) (h : Ex call y s s1 rd wr) : Ex call (.br d want x y) s s1 (.t d :: rd) wr
  | call {f : FuncId} {ps : List PV} {bs : List BX} {k : Res → Acc} {r : Res} {s s1 : St} {rd wr : List Loc} (hq : (!s.q || bs.isEmpty) = true) (hc : call f ps bs = some r) (h : Ex call (k r) s s1 rd wr) :
      Ex call (.call f ps bs k) s s1 rd wr

section
variable {α : Type} {call : CallF}

theorem run_ex {K : St → Option α} {res : α} : ∀ (x : Acc) (s : St), x.run call s K = some res → ∃ s1 rd wr, Ex call x s s1 rd wr ∧ K s1 = some res := by
  intro x
  induction x with
  | done => intro s h; exact ⟨s, _, _, .done s, h⟩
  | fail => intro s h; cases h
  | getT t k ih => intro s h; obtain ⟨s1, rd, wr, e, hk⟩ := ih _ s h; exact ⟨s1, _, _, .getT e, hk⟩
  | getB id k ih => intro s h; obtain ⟨s1, rd, wr, e, hk⟩ := ih _ s h; exact ⟨s1, _, _, .getB e, hk⟩
  | setT d v k ih =>
    intro s h
    simp only [Acc.run] at h
    cases hb : Nat.blt d s.nt with
    | false => simp [hb] at h
    | true => rw [hb, cond_true] at h; obtain ⟨s1, rd, wr, e, hk⟩ := ih _ h; exact ⟨s1, _, _, .setT hb e, hk⟩
  | setB id b k ih =>
    intro s h
    simp only [Acc.run] at h
    cases hb : (!s.q || id.fresh s.r) with
    | false => simp [hb] at h
    | true => rw [hb, cond_true] at h; obtain ⟨s1, rd, wr, e, hk⟩ := ih _ h; exact ⟨s1, _, _, .setB hb e, hk⟩
  | test b k ih =>
    intro s h
    obtain ⟨rfl, h⟩ := run_test _ _ _ h
    obtain ⟨s1, rd, wr, e, hk⟩ := ih _ h; exact ⟨s1, _, _, .test e, hk⟩
  | fork b x y ihx ihy =>
    intro s h
    cases b with
    | true => obtain ⟨s1, rd, wr, e, hk⟩ := ihx _ h; exact ⟨s1, _, _, .fork e, hk⟩
    | false => obtain ⟨s1, rd, wr, e, hk⟩ := ihy _ h; exact ⟨s1, _, _, .fork e, hk⟩
  | br d want x y ihx ihy =>
    intro s h
    simp only [Acc.run] at h
    split at h
    · rename_i b hb
      cases want <;> cases b <;> simp only [cond_true, cond_false] at h <;> rw [set_self hb] at h
      · obtain ⟨s1, rd, wr, e, hk⟩ := ihx _ h; exact ⟨s1, _, _, .br hb e, hk⟩
      · obtain ⟨s1, rd, wr, e, hk⟩ := ihy _ h; exact ⟨s1, _, _, .br hb e, hk⟩
      · obtain ⟨s1, rd, wr, e, hk⟩ := ihy _ h; exact ⟨s1, _, _, .br hb e, hk⟩
      · obtain ⟨s1, rd, wr, e, hk⟩ := ihx _ h; exact ⟨s1, _, _, .br hb e, hk⟩
    · rename_i hb
      obtain ⟨s1, rd, wr, e, hk⟩ := ihy _ h; exact ⟨s1, _, _, .und hb e, hk⟩
    · cases h
  | call f ps bs k ih =>
    intro s h
    simp only [Acc.run] at h
    cases hb : (!s.q || bs.isEmpty) with
    | false => simp [hb] at h
    | true =>
      rw [hb, cond_true, Option.bind_eq_some_iff] at h
      obtain ⟨r, hr, h⟩ := h
      obtain ⟨s1, rd, wr, e, hk⟩ := ih _ _ h; exact ⟨s1, _, _, .call hb hr e, hk⟩

theorem runL_ex {K : St → Foot → Option α} {res : α} : ∀ (x : Acc) (s : St) (f : Foot), x.runL call s f K = some res → ∃ s1 rd wr f1, Ex call x s s1 rd wr ∧ K s1 f1 = some res ∧ (∀ l, l ∈ rd ∨ l ∈ f.rd → l ∈ f1.rd) ∧ (∀ l, l ∈ wr ∨ l ∈ f.wr → l ∈ f1.wr) := by
  intro x
  induction x with
  | done => intro s f h; exact ⟨s, _, _, f, .done s, h, fun l hl => hl.elim (fun h => by cases h) id, fun l hl => hl.elim (fun h => by cases h) id⟩
  | fail => intro s f h; cases h
  | getT t k ih =>
    intro s f h; obtain ⟨s1, rd, wr, f1, e, hk, h1, h2⟩ := ih _ s _ h
    refine ⟨s1, _, _, f1, .getT e, hk, fun l hl => h1 l ?_, h2⟩
    simp only [List.mem_cons] at hl ⊢; rcases hl with (hl | hl) | hl <;> simp [hl]
  | getB id k ih =>
    intro s f h; obtain ⟨s1, rd, wr, f1, e, hk, h1, h2⟩ := ih _ s _ h
    refine ⟨s1, _, _, f1, .getB e, hk, fun l hl => h1 l ?_, h2⟩
    simp only [List.mem_cons] at hl ⊢; rcases hl with (hl | hl) | hl <;> simp [hl]
  | setT d v k ih =>
    intro s f h
    simp only [Acc.runL] at h
    cases hb : Nat.blt d s.nt with
    | false => simp [hb] at h
    | true =>
      rw [hb, cond_true] at h; obtain ⟨s1, rd, wr, f1, e, hk, h1, h2⟩ := ih _ _ h
      refine ⟨s1, _, _, f1, .setT hb e, hk, h1, fun l hl => h2 l ?_⟩
      simp only [List.mem_cons] at hl ⊢; rcases hl with (hl | hl) | hl <;> simp [hl]
  | setB id b k ih =>
    intro s f h
    simp only [Acc.runL] at h
    cases hb : (!s.q || id.fresh s.r) with
    | false => simp [hb] at h
    | true =>
      rw [hb, cond_true] at h; obtain ⟨s1, rd, wr, f1, e, hk, h1, h2⟩ := ih _ _ h
      refine ⟨s1, _, _, f1, .setB hb e, hk, h1, fun l hl => h2 l ?_⟩
      simp only [List.mem_cons] at hl ⊢; rcases hl with (hl | hl) | hl <;> simp [hl]
  | test b k ih =>
    intro s f h
    simp only [Acc.runL] at h
    cases b with
    | false => simp at h
    | true => obtain ⟨s1, rd, wr, f1, e, hk, h1, h2⟩ := ih _ _ h; exact ⟨s1, _, _, f1, .test e, hk, h1, h2⟩
  | fork b x y ihx ihy =>
    intro s f h
    cases b with
    | true => obtain ⟨s1, rd, wr, f1, e, hk, h1, h2⟩ := ihx _ _ h; exact ⟨s1, _, _, f1, .fork e, hk, h1, h2⟩
    | false => obtain ⟨s1, rd, wr, f1, e, hk, h1, h2⟩ := ihy _ _ h; exact ⟨s1, _, _, f1, .fork e, hk, h1, h2⟩
  | br d want x y ihx ihy =>
    intro s f h
    simp only [Acc.runL] at h
    split at h
    · rename_i b hb
      cases want <;> cases b <;> simp only [cond_true, cond_false] at h <;> rw [set_self hb] at h
      · obtain ⟨s1, rd, wr, f1, e, hk, h1, h2⟩ := ihx _ _ h
        refine ⟨s1, _, _, f1, .br hb e, hk, fun l hl => h1 l ?_, h2⟩
        simp only [List.mem_cons] at hl ⊢; rcases hl with (hl | hl) | hl <;> simp [hl]
      · obtain ⟨s1, rd, wr, f1, e, hk, h1, h2⟩ := ihy _ _ h
        refine ⟨s1, _, _, f1, .br hb e, hk, fun l hl => h1 l ?_, h2⟩
        simp only [List.mem_cons] at hl ⊢; rcases hl with (hl | hl) | hl <;> simp [hl]
      · obtain ⟨s1, rd, wr, f1, e, hk, h1, h2⟩ := ihy _ _ h
        refine ⟨s1, _, _, f1, .br hb e, hk, fun l hl => h1 l ?_, h2⟩
        simp only [List.mem_cons] at hl ⊢; rcases hl with (hl | hl) | hl <;> simp [hl]
      · obtain ⟨s1, rd, wr, f1, e, hk, h1, h2⟩ := ihx _ _ h
        refine ⟨s1, _, _, f1, .br hb e, hk, fun l hl => h1 l ?_, h2⟩
        simp only [List.mem_cons] at hl ⊢; rcases hl with (hl | hl) | hl <;> simp [hl]
    · rename_i hb
      obtain ⟨s1, rd, wr, f1, e, hk, h1, h2⟩ := ihy _ _ h
      refine ⟨s1, _, _, f1, .und hb e, hk, fun l hl => h1 l ?_, h2⟩
      simp only [List.mem_cons] at hl ⊢; rcases hl with (hl | hl) | hl <;> simp [hl]
    · cases h
  | call g ps bs k ih =>
    intro s f h
    simp only [Acc.runL] at h
    cases hb : (!s.q || bs.isEmpty) with
    | false => simp [hb] at h
    | true =>
      rw [hb, cond_true, Option.bind_eq_some_iff] at h
      obtain ⟨r, hr, h⟩ := h
      obtain ⟨s1, rd, wr, f1, e, hk, h1, h2⟩ := ih _ _ _ h; exact ⟨s1, _, _, f1, .call hb hr e, hk, h1, h2⟩

theorem ex_run {x : Acc} {s s1 : St} {rd wr : List Loc} (h : Ex call x s s1 rd wr) (K : St → Option α) : x.run call s K = K s1 := by
  induction h with
  | done s => rfl
  | getT h ih => exact ih
  | getB h ih => exact ih
  | setT hd h ih => simp only [Acc.run, hd, cond_true]; exact ih
  | setB hq h ih => simp only [Acc.run, hq, cond_true]; exact ih
  | test h ih => exact ih
  | @fork b x y s s1 rd wr h ih => cases b <;> exact ih
  | @br d want b x y s s1 rd wr hd h ih =>
    simp only [Acc.run, hd]
    cases want <;> cases b <;> simp only [cond_true, cond_false] <;> rw [set_self hd] <;> exact ih
  | und hd h ih => simp only [Acc.run, hd]; exact ih
  | call hq hc h ih => simp only [Acc.run, hq, cond_true, hc, Option.bind_some]; exact ih

structure Ex.Out (s s1 : St) (wr : List Loc) : Prop where
  out : ∀ l, l ∉ wr → agree s1 s l
  r : s1.r = s.r
  nt : s1.nt = s.nt
  q : s1.q = s.q
theorem Ex.outs {x : Acc} {s s1 : St} {rd wr : List Loc} (h : Ex call x s s1 rd wr) : Ex.Out s s1 wr := by
  induction h with
  | done s => exact ⟨fun l _ => agree.refl s l, rfl, rfl, rfl⟩
  | getT h ih => exact ih
  | getB h ih => exact ih
  | setT hd h ih =>
    refine ⟨fun l hl => ?_, ih.r, ih.nt, ih.q⟩
    simp only [List.mem_cons, not_or] at hl
    exact (ih.out l hl.2).trans (agree_set_ne hl.1)
  | setB hq h ih =>
    refine ⟨fun l hl => ?_, ih.r, ih.nt, ih.q⟩
    simp only [List.mem_cons, not_or] at hl
    exact (ih.out l hl.2).trans (agree_setB_ne hl.1)
  | test h ih => exact ih
  | fork h ih => exact ih
  | br hd h ih => exact ih
  | und hd h ih => exact ih
  | call hq hc h ih => exact ih

theorem Ex.frame {x : Acc} {s s1 : St} {rd wr : List Loc} (h : Ex call x s s1 rd wr) : ∀ s' : St, s'.r = s.r → s'.nt = s.nt → s'.q = s.q → (∀ l, l ∈ rd → agree s' s l) →
    ∃ s1', Ex call x s' s1' rd wr ∧ ∀ l, l ∈ wr → agree s1' s1 l := by
  induction h with
  | done s => intro s' _ _ _ _; exact ⟨s', .done s', fun l hl => by cases hl⟩
  | @getT t k s s1 rd wr h ih =>
    intro s' h1 h2 h3 h4
    obtain ⟨s1', e, hw⟩ := ih s' h1 h2 h3 fun l hl => h4 l (List.mem_cons_of_mem _ hl)
    have : s'.tmps t = s.tmps t := h4 (.t t) (List.mem_cons_self ..)
    exact ⟨s1', .getT (by rw [this]; exact e), hw⟩
  | @getB t k s s1 rd wr h ih =>
    intro s' h1 h2 h3 h4
    obtain ⟨s1', e, hw⟩ := ih s' h1 h2 h3 fun l hl => h4 l (List.mem_cons_of_mem _ hl)
    have : s'.boxes t = s.boxes t := h4 (.b t) (List.mem_cons_self ..)
    exact ⟨s1', .getB (by rw [this]; exact e), hw⟩
  | @setT d v k s s1 rd wr hd h ih =>
    intro s' h1 h2 h3 h4
    obtain ⟨s1', e, hw⟩ := ih (s'.set d v) h1 h2 h3 fun l hl => agree_set fun _ => h4 l hl
    refine ⟨s1', .setT (by rw [h2]; exact hd) e, fun l hl => ?_⟩
    by_cases hm : l ∈ wr
    · exact hw l hm
    · have e1 := e.outs.out l hm
      have e2 := h.outs.out l hm
      rcases List.mem_cons.1 hl with rfl | hl
      · exact e1.trans ((agree_set fun hne => absurd rfl hne).trans e2.symm)
      · exact absurd hl hm
  | @setB d v k s s1 rd wr hq h ih =>
    intro s' h1 h2 h3 h4
    obtain ⟨s1', e, hw⟩ := ih (s'.setB d v) h1 h2 h3 fun l hl => agree_setB fun _ => h4 l hl
    refine ⟨s1', .setB (by rw [h3, h1]; exact hq) e, fun l hl => ?_⟩
    by_cases hm : l ∈ wr
    · exact hw l hm
    · have e1 := e.outs.out l hm
      have e2 := h.outs.out l hm
      rcases List.mem_cons.1 hl with rfl | hl
      · exact e1.trans ((agree_setB fun hne => absurd rfl hne).trans e2.symm)
      · exact absurd hl hm
  | test h ih => intro s' h1 h2 h3 h4; obtain ⟨s1', e, hw⟩ := ih s' h1 h2 h3 h4; exact ⟨s1', .test e, hw⟩
  | fork h ih => intro s' h1 h2 h3 h4; obtain ⟨s1', e, hw⟩ := ih s' h1 h2 h3 h4; exact ⟨s1', .fork e, hw⟩
  | @br d want b x y s s1 rd wr hd h ih =>
    intro s' h1 h2 h3 h4
    obtain ⟨s1', e, hw⟩ := ih s' h1 h2 h3 fun l hl => h4 l (List.mem_cons_of_mem _ hl)
    have : s'.tmps d = s.tmps d := h4 (.t d) (List.mem_cons_self ..)
    exact ⟨s1', .br (by rw [this]; exact hd) e, hw⟩
  | @und d want x y s s1 rd wr hd h ih =>
    intro s' h1 h2 h3 h4
    obtain ⟨s1', e, hw⟩ := ih s' h1 h2 h3 fun l hl => h4 l (List.mem_cons_of_mem _ hl)
    have : s'.tmps d = s.tmps d := h4 (.t d) (List.mem_cons_self ..)
    exact ⟨s1', .und (by rw [this]; exact hd) e, hw⟩
  | call hq hc h ih => intro s' h1 h2 h3 h4; obtain ⟨s1', e, hw⟩ := ih s' h1 h2 h3 h4; exact ⟨s1', .call (by rw [h3]; exact hq) hc e, hw⟩

/-- may two operations change places? -/
structure Apart (rx wx ry wy : List Loc) : Prop where
  wr : ∀ l, l ∈ wx → l ∉ ry
  ww : ∀ l, l ∈ wx → l ∉ wy
  rw' : ∀ l, l ∈ rx → l ∉ wy
theorem Ex.swap {x y : Acc} {s s1 s2 : St} {rx wx ry wy : List Loc} (hx : Ex call x s s1 rx wx) (hy : Ex call y s1 s2 ry wy) (ha : Apart rx wx ry wy) : ∃ t, Ex call y s t ry wy ∧ Ex call x t s2 rx wx := by
  have ox := hx.outs
  have oy := hy.outs
  obtain ⟨t, ey, wt⟩ := hy.frame s ox.r.symm ox.nt.symm ox.q.symm fun l hl => (ox.out l fun h => ha.wr l h hl).symm
  have ot := ey.outs
  obtain ⟨u, ex, wu⟩ := hx.frame t ot.r ot.nt ot.q fun l hl => ot.out l (ha.rw' l hl)
  have ou := ex.outs
  have : u = s2 := by
    refine agree_ext (fun l => ?_) ?_ ?_ ?_
    · by_cases h1 : l ∈ wx
      · exact (wu l h1).trans (oy.out l (ha.ww l h1)).symm
      · by_cases h2 : l ∈ wy
        · exact (ou.out l h1).trans (wt l h2)
        · exact (ou.out l h1).trans ((ot.out l h2).trans ((ox.out l h1).symm.trans (oy.out l h2).symm))
    · rw [ou.r, ot.r, oy.r, ox.r]
    · rw [ou.nt, ot.nt, oy.nt, ox.nt]
    · rw [ou.q, ot.q, oy.q, ox.q]
  subst this
  exact ⟨t, ey, ex⟩

/-- operations, one behind the other -/
def Chain (call : CallF) (G : Nat → Acc) (rd wr : Nat → List Loc) : List Nat → St → St → Prop
  | [], s, s' => s = s'
  | i :: l, s, s' => ∃ s1, Ex call (G i) s s1 (rd i) (wr i) ∧ Chain call G rd wr l s1 s'
theorem Chain.front {G : Nat → Acc} {rd wr : Nat → List Loc} {i : Nat} {q : List Nat} {s' : St} : ∀ (p : List Nat) (s : St), Chain call G rd wr (p ++ i :: q) s s' → (∀ x, x ∈ p → Apart (rd x) (wr x) (rd i) (wr i)) →
    ∃ s1, Ex call (G i) s s1 (rd i) (wr i) ∧ Chain call G rd wr (p ++ q) s1 s'
  | [], s, h, _ => h
  | x :: p, s, h, ha => by
    obtain ⟨s0, ex, h⟩ := h
    obtain ⟨s1, ei, h⟩ := Chain.front p s0 h fun y hy => ha y (List.mem_cons_of_mem _ hy)
    obtain ⟨t, e1, e2⟩ := ex.swap ei (ha x (List.mem_cons_self ..))
    exact ⟨t, e1, s1, e2, h⟩
end
end Go.AI
set_option linter.unusedVariables false
set_option linter.unusedSimpArgs false
namespace Go.AI
open Go

section
variable {α : Type} {call : CallF}
theorem Chain.congr {G G' : Nat → Acc} {rd wr rd' wr' : Nat → List Loc} : ∀ (l : List Nat) (s s' : St), (∀ i, i ∈ l → G i = G' i ∧ rd i = rd' i ∧ wr i = wr' i) → Chain call G rd wr l s s' → Chain call G' rd' wr' l s s'
  | [], s, s', _, h => h
  | i :: l, s, s', hc, ⟨s1, e, h⟩ => by
    obtain ⟨e1, e2, e3⟩ := hc i (List.mem_cons_self ..)
    exact ⟨s1, by rw [← e1, ← e2, ← e3]; exact e, Chain.congr l s1 s' (fun k hk => hc k (List.mem_cons_of_mem _ hk)) h⟩
theorem Chain.outs {G : Nat → Acc} {rd wr : Nat → List Loc} : ∀ (l : List Nat) (s s' : St), Chain call G rd wr l s s' → s'.r = s.r ∧ s'.nt = s.nt ∧ s'.q = s.q
  | [], s, s', h => by cases h; exact ⟨rfl, rfl, rfl⟩
  | i :: l, s, s', ⟨s1, e, h⟩ => by
    obtain ⟨h1, h2, h3⟩ := Chain.outs l s1 s' h
    have o := e.outs
    exact ⟨h1.trans o.r, h2.trans o.nt, h3.trans o.q⟩
end

section
variable {α : Type} {P : Program} {A : Ann} {F : FuncId} {call : CallF} {all : Array Oper}
def gAcc (P : Program) (A : Ann) (F : FuncId) (all : Array Oper) (r i : Nat) : Acc := match all[i]? with
  | some o => goK P A F all o r i
  | none => .fail
theorem aops_chain {K : St → Option α} {res : α} : ∀ (os : List Oper) (j : Nat) (st : St), aops P A F call all os j st K = some res → (∀ i, i < os.length → all[j + i]? = os[i]?) →
    ∃ s' rd wr, Chain call (gAcc P A F all st.r) rd wr (List.range' j os.length) st s' ∧ K s' = some res
  | [], j, st, h, _ => ⟨st, fun _ => [], fun _ => [], rfl, h⟩
  | o :: os, j, st, h, hi => by
    simp only [aops] at h
    obtain ⟨s1, rd, wr, e, h⟩ := run_ex _ _ h
    obtain ⟨s', rd', wr', c, hk⟩ := aops_chain os (j + 1) s1 h (fun i hlt => by
      have := hi (i + 1) (by simpa using hlt)
      rw [show j + 1 + i = j + (i + 1) by omega, this]; rfl)
    have h0 := hi 0 (by simp)
    refine ⟨s', fun i => if i = j then rd else rd' i, fun i => if i = j then wr else wr' i, ⟨s1, ?_, ?_⟩, hk⟩
    · simp only [if_true]
      have : gAcc P A F all st.r j = goK P A F all o st.r j := by unfold gAcc; rw [show all[j]? = some o from h0]
      rw [this]; exact e
    · refine Chain.congr _ _ _ (fun i hm => ?_) c
      have : i ≠ j := by
        have := List.mem_range'.1 hm
        omega
      exact ⟨by rw [e.outs.r], by simp [this], by simp [this]⟩

theorem aopsL_chain {K : St → List Foot → Option α} {res : α} : ∀ (os : List Oper) (j : Nat) (st : St) (fs : List Foot), aopsL P A F call all os j st fs K = some res → fs.length = j → (∀ i, i < os.length → all[j + i]? = os[i]?) →
    ∃ s' fs' rd wr, Chain call (gAcc P A F all st.r) rd wr (List.range' j os.length) st s' ∧ K s' fs' = some res ∧ fs'.length = j + os.length ∧ (∀ i, i < j → fs'.reverse.getD i ⟨[], []⟩ = fs.reverse.getD i ⟨[], []⟩) ∧
      ∀ i, j ≤ i → i < j + os.length → (∀ l, l ∈ rd i → l ∈ (fs'.reverse.getD i ⟨[], []⟩).rd) ∧ ∀ l, l ∈ wr i → l ∈ (fs'.reverse.getD i ⟨[], []⟩).wr
  | [], j, st, fs, h, hl, _ => ⟨st, fs, fun _ => [], fun _ => [], rfl, h, by simpa using hl, fun _ _ => rfl, fun i h1 h2 => by simp at h2; omega⟩
  | o :: os, j, st, fs, h, hl, hi => by
    simp only [aopsL] at h
    obtain ⟨s1, rd, wr, f1, e, h, hr, hw⟩ := runL_ex _ _ _ h
    obtain ⟨s', fs', rd', wr', c, hk, l1, g1, g2⟩ := aopsL_chain os (j + 1) s1 (f1 :: fs) h (by simp [hl]) (fun i hlt => by
      have := hi (i + 1) (by simpa using hlt)
      rw [show j + 1 + i = j + (i + 1) by omega, this]; rfl)
    have h0 := hi 0 (by simp)
    refine ⟨s', fs', fun i => if i = j then rd else rd' i, fun i => if i = j then wr else wr' i, ⟨s1, ?_, ?_⟩, hk, by rw [l1]; simp; omega, fun i hij => ?_, fun i h1 h2 => ?_⟩
    · simp only [if_true]
      have : gAcc P A F all st.r j = goK P A F all o st.r j := by unfold gAcc; rw [show all[j]? = some o from h0]
      rw [this]; exact e
    · refine Chain.congr _ _ _ (fun i hm => ?_) c
      have : i ≠ j := by
        have := List.mem_range'.1 hm
        omega
      exact ⟨by rw [e.outs.r], by simp [this], by simp [this]⟩
    · rw [g1 i (by omega)]
      simp [List.getD, List.getElem?_append_left, hl, hij]
    · by_cases e1 : i = j
      · subst e1
        have : fs'.reverse.getD i ⟨[], []⟩ = f1 := by
          rw [g1 i (Nat.lt_succ_self _)]
          simp [List.getD, List.getElem?_append_right, hl]
        rw [this]
        simp only [if_true]
        exact ⟨fun l hl => hr l (.inl hl), fun l hl => hw l (.inl hl)⟩
      · simp only [if_neg e1]
        exact g2 i (by omega) (by simp at h2; omega)
end

/-! ### which operations are apart -/
theorem Loc.beq_iff (a b : Loc) : a.beq b = true ↔ a = b := by
  cases a <;> cases b <;> simp [Loc.beq, Id.beq_iff]
theorem hit_of {a b : List Loc} (h : hit a b = false) : ∀ l, l ∈ a → l ∉ b := by
  intro l h1 h2
  unfold hit at h
  rw [List.any_eq_false] at h
  refine h l h1 ?_
  rw [List.any_eq_true]
  exact ⟨l, h2, (Loc.beq_iff l l).2 rfl⟩
theorem apartF_of {f g : Foot} (h : apartF f g = true) {rx wx ry wy : List Loc} (h1 : ∀ l, l ∈ rx → l ∈ f.rd) (h2 : ∀ l, l ∈ wx → l ∈ f.wr) (h3 : ∀ l, l ∈ ry → l ∈ g.rd) (h4 : ∀ l, l ∈ wy → l ∈ g.wr) : Apart rx wx ry wy := by
  simp only [apartF, Bool.and_eq_true, Bool.not_eq_true'] at h
  obtain ⟨a, b, c⟩ := h
  exact ⟨fun l x y => hit_of a l (h2 l x) (h3 l y), fun l x y => hit_of b l (h2 l x) (h4 l y), fun l x y => hit_of c l (h1 l x) (h4 l y)⟩

theorem apartOne_of (bits : List Nat) {f : Foot} {m : Nat} : ∀ (gs : List Foot), apartAll.apartOne f m gs = true → ∀ i, i < gs.length → m.testBit i = true ∨ apartF (gs.reverse.getD i ⟨[], []⟩) f = true
  | [], _, i, hi => absurd hi (Nat.not_lt_zero _)
  | g :: gs, h, i, hi => by
    simp only [apartAll.apartOne, Bool.and_eq_true, Bool.or_eq_true] at h
    by_cases e : i = gs.length
    · subst e
      refine h.1.imp id fun h => ?_
      simpa [List.getD, List.getElem?_append_right] using h
    · have hi' : i < gs.length := by simp at hi; omega
      refine (apartOne_of bits gs h.2 i hi').imp id fun h => ?_
      have : (g :: gs).reverse.getD i ⟨[], []⟩ = gs.reverse.getD i ⟨[], []⟩ := by simp [List.getD, List.getElem?_append_left, hi']
      rw [this]; exact h
theorem apartAll_of (bits : List Nat) : ∀ (fs : List Foot) (ms : List Nat), fs.length = ms.length → apartAll bits fs ms = true → ∀ i k, i < k → k < fs.length →
    (ms.reverse.getD k 0).testBit i = true ∨ apartF (fs.reverse.getD i ⟨[], []⟩) (fs.reverse.getD k ⟨[], []⟩) = true
  | [], ms, _, _, i, k, _, hk => absurd hk (Nat.not_lt_zero _)
  | f :: fs, [], hl, _, _, _, _, _ => by simp at hl
  | f :: fs, m :: ms, hl, h, i, k, hik, hk => by
    simp only [apartAll, Bool.and_eq_true] at h
    have hl' : fs.length = ms.length := by simpa using hl
    by_cases e : k = fs.length
    · subst e
      have e1 : (f :: fs).reverse.getD fs.length ⟨[], []⟩ = f := by simp [List.getD, List.getElem?_append_right]
      have e2 : (m :: ms).reverse.getD fs.length 0 = m := by simp [List.getD, List.getElem?_append_right, hl']
      have e3 : (f :: fs).reverse.getD i ⟨[], []⟩ = fs.reverse.getD i ⟨[], []⟩ := by simp [List.getD, List.getElem?_append_left, hik]
      rw [e1, e2, e3]
      exact apartOne_of bits fs h.1 i hik
    · have hk' : k < fs.length := by simp at hk; omega
      have e1 : (f :: fs).reverse.getD k ⟨[], []⟩ = fs.reverse.getD k ⟨[], []⟩ := by simp [List.getD, List.getElem?_append_left, hk']
      have e2 : (m :: ms).reverse.getD k 0 = ms.reverse.getD k 0 := by simp [List.getD, List.getElem?_append_left, ← hl', hk']
      have e3 : (f :: fs).reverse.getD i ⟨[], []⟩ = fs.reverse.getD i ⟨[], []⟩ := by
        have : i < fs.length := by omega
        simp [List.getD, List.getElem?_append_left, this]
      rw [e1, e2, e3]
      exact apartAll_of bits fs ms hl' h.2 i k hik hk'

/-! ### what comes ahead -/
/-- a set of operations that holds whatever its members wait for -/
def Closed (ops : Array Oper) (L : Nat → Prop) : Prop := ∀ k o, L k → ops[k]? = some o → ∀ e, e ∈ o.after → Region.binds .any e = true → L e.on
def Waits (ops : Array Oper) (L : Nat → Prop) (k : Nat) : Prop := ∀ o, ops[k]? = some o → ∀ e, e ∈ o.after → Region.binds .any e = true → L e.on

theorem bits_fold (acc : Array Nat) (i : Nat) : ∀ (es : List Edge) (s : Nat), (es.foldl (fun s e => if Region.binds .any e then s ||| 2 ^ e.on ||| acc.getD e.on 0 else s) s).testBit i = true →
    s.testBit i = true ∨ ∃ e, e ∈ es ∧ Region.binds .any e = true ∧ (i = e.on ∨ (acc.getD e.on 0).testBit i = true)
  | [], s, h => .inl h
  | e :: es, s, h => by
    rcases bits_fold acc i es _ h with h | ⟨e', h1, h2⟩
    · cases hb : Region.binds .any e with
      | false => simp only [hb, Bool.false_eq_true, if_false] at h; exact .inl h
      | true =>
        simp only [hb, if_true, Nat.testBit_or, Bool.or_eq_true] at h
        rcases h with (h | h) | h
        · exact .inl h
        · rw [Nat.testBit_two_pow] at h
          exact .inr ⟨e, List.mem_cons_self .., hb, .inl (by simpa using h : e.on = i).symm⟩
        · exact .inr ⟨e, List.mem_cons_self .., hb, .inr h⟩
    · exact .inr ⟨e', List.mem_cons_of_mem _ h1, h2⟩

theorem before_fold (ops : Array Oper) : ∀ (l pre : List Oper) (acc : Array Nat), ops.toList = pre ++ l → acc.size = pre.length →
    (∀ k, k < acc.size → ∀ i, (acc.getD k 0).testBit i = true → ∀ L, Closed ops L → Waits ops L k → L i) →
    let out := l.foldl (fun acc o => acc.push (o.after.foldl (fun s e => if Region.binds .any e then s ||| 2 ^ e.on ||| acc.getD e.on 0 else s) 0)) acc
    out.size = ops.size ∧ ∀ k, k < out.size → ∀ i, (out.getD k 0).testBit i = true → ∀ L, Closed ops L → Waits ops L k → L i
  | [], pre, acc, hp, hs, hg => by
    refine ⟨?_, hg⟩
    simp only [List.foldl_nil]
    rw [hs, ← Array.length_toList, hp]; simp
  | o :: l, pre, acc, hp, hs, hg => by
    simp only [List.foldl_cons]
    refine before_fold ops l (pre ++ [o]) _ (by simp [hp]) (by simp [hs]) fun k hk i hb L hc hw => ?_
    have ho : ops[pre.length]? = some o := by
      rw [← Array.getElem?_toList, hp]; simp
    by_cases e : k = acc.size
    · subst e
      have hget : (acc.push (o.after.foldl (fun s e => if Region.binds .any e then s ||| 2 ^ e.on ||| acc.getD e.on 0 else s) 0)).getD acc.size 0 = o.after.foldl (fun s e => if Region.binds .any e then s ||| 2 ^ e.on ||| acc.getD e.on 0 else s) 0 := by
        rw [Array.getD_eq_getD_getElem?, Array.getElem?_push]; simp
      rw [hget, ← Array.foldl_toList] at hb
      rcases bits_fold acc i _ _ hb with h | ⟨e, h1, h2, h3⟩
      · simp at h
      · have hLe : L e.on := hw o (by rw [hs]; exact ho) e (by simpa using h1) h2
        rcases h3 with rfl | h3
        · exact hLe
        · have hlt : e.on < acc.size := by
            rcases Nat.lt_or_ge e.on acc.size with h | h
            · exact h
            · rw [Array.getD_eq_getD_getElem?, Array.getElem?_eq_none h] at h3; simp at h3
          exact hg e.on hlt i h3 L hc fun o' ho' e' he' hb' => hc e.on o' hLe ho' e' he' hb'
    · have hk' : k < acc.size := by simp at hk; omega
      have hget : (acc.push (o.after.foldl (fun s e => if Region.binds .any e then s ||| 2 ^ e.on ||| acc.getD e.on 0 else s) 0)).getD k 0 = acc.getD k 0 := by
        rw [Array.getD_eq_getD_getElem?, Array.getElem?_push, if_neg (by omega), ← Array.getD_eq_getD_getElem?]
      rw [hget] at hb
      exact hg k hk' i hb L hc hw
theorem before_of (ops : Array Oper) : (Region.before ops).size = ops.size ∧ ∀ k, k < ops.size → ∀ i, ((Region.before ops).getD k 0).testBit i = true → ∀ L, Closed ops L → Waits ops L k → L i := by
  have := before_fold ops ops.toList [] #[] rfl rfl (fun k hk => absurd hk (Nat.not_lt_zero _))
  simp only at this
  have e : Region.before ops = ops.toList.foldl (fun acc o => acc.push (o.after.foldl (fun s e => if Region.binds .any e then s ||| 2 ^ e.on ||| acc.getD e.on 0 else s) 0)) #[] := by
    unfold Region.before
    rw [← Array.foldl_toList]
  rw [e]
  refine ⟨this.1, fun k hk => this.2 k (by rw [this.1]; exact hk)⟩
end Go.AI
set_option linter.unusedVariables false
set_option linter.unusedSimpArgs false
namespace Go.AI
open Go

section
variable {α : Type} {P : Program} {A : Ann} {F : FuncId} {h0 : Array Obj} {W : Wr} {D : Nat → Prop} {β : GM} {S : Nat → Prop} {st s' : St} {a : Act} {w : World} {call : CallF} {K : St → Option α} {res : α}
  {all : Array Oper} {Q : Exit → Act → World → Prop} {r : Nat} {rd wr : Nat → List Loc}

theorem one_sound (R : Rel P h0 W D β S st a w) {i : Nat} (hi : ¬ S i) (hc : CallOk P A call) (hlt : i < all.size) {s1 : St} {rx wx : List Loc} (e : Ex call (gAcc P A F all st.r i) st s1 rx wx) :
    wpOp P all Q i (fun a w => ∃ β', Rel P h0 W D β' (fun x => S x ∨ x = i) s1 a w) a w := by
  classical
  have hio : all[i]? = some all[i] := by simp [hlt]
  have R' := R.weaken (S' := fun x => S x ∨ x = i) (fun _ => .inl)
  have fr := R.fresh st.r i (.inr ⟨rfl, hi⟩)
  let K : St → Option Unit := fun s => if s = s1 then some () else none
  have h : (goK P A F all all[i] st.r i).run call st K = some () := by
    have : gAcc P A F all st.r i = goK P A F all all[i] st.r i := by unfold gAcc; rw [hio]
    rw [← this, ex_run e K]
    simp [K]
  refine wpOp_mono ?_ (go_sound (Q := Q) R' (.inr rfl) fr.1 fr.2 hc hio h)
  rintro a w ⟨st', β', R1, _, _, hk⟩
  have : st' = s1 := by
    rcases Classical.em (st' = s1) with h | h
    · exact h
    · simp [K, h] at hk
  subst this
  exact ⟨β', R1⟩

def Done (P : Program) (h0 : Array Obj) (W : Wr) (D : Nat → Prop) (s' : St) : Exit → Act → World → Prop := fun e a w => e = .normal ∧ ∃ β', Rel P h0 W D β' (fun _ => True) s' a w

theorem seq_sound (hc : CallOk P A call) : ∀ (l : List Nat) (st : St) (β : GM) (S : Nat → Prop) (a : Act) (w : World), Rel P h0 W D β S st a w → st.r = r → (∀ i, i ∈ l → ¬ S i ∧ i < all.size) → l.Nodup →
    Chain call (gAcc P A F all r) rd wr l st s' → wpOps P all (Done P h0 W D s') l a w
  | [], st, β, S, a, w, R, hr, _, _, h => by cases h; exact ⟨rfl, β, R.weaken fun _ _ => trivial⟩
  | i :: l, st, β, S, a, w, R, hr, hi, hn, ⟨s1, e, h⟩ => by
    rw [wpOps_cons]
    obtain ⟨h1, h2⟩ := hi i (List.mem_cons_self ..)
    refine wpOp_mono ?_ (one_sound R h1 hc h2 (by rw [hr]; exact e))
    rintro a w ⟨β', R'⟩
    refine seq_sound hc l s1 β' _ a w R' (by rw [e.outs.r, hr]) (fun k hk => ⟨?_, (hi k (List.mem_cons_of_mem _ hk)).2⟩) (List.nodup_cons.1 hn).2 h
    rintro (h | rfl)
    · exact (hi k (List.mem_cons_of_mem _ hk)).1 h
    · exact (List.nodup_cons.1 hn).1 hk

theorem getD_setI (l : Array Bool) (i k : Nat) (d : Bool) (hi : i < l.size) : (l.setIfInBounds i true).getD k d = if k = i then true else l.getD k d := by
  simp only [Array.getD_eq_getD_getElem?, Array.getElem?_setIfInBounds]
  by_cases e : i = k
  · subst e; simp [hi]
  · rw [if_neg e, if_neg (Ne.symm e)]
theorem mem_ready {listed : Array Bool} {i : Nat} : i ∈ Region.ready .any all listed ↔ ∃ o, all[i]? = some o ∧ listed.getD i true = false ∧ ∀ e, e ∈ o.after → Region.binds .any e = true → listed.getD e.on false = true := by
  unfold Region.ready
  rw [List.mem_filter, List.mem_range]
  constructor
  · rintro ⟨h1, h2⟩
    have ho : all[i]? = some all[i] := by simp [h1]
    rw [ho] at h2
    simp only [Option.map_some, Option.getD_some, Bool.and_eq_true, Bool.not_eq_true', Array.all_eq_true'] at h2
    refine ⟨_, ho, h2.1, fun e he hb => ?_⟩
    have := h2.2 e he
    simpa [hb] using this
  · rintro ⟨o, ho, h1, h2⟩
    have hlt : i < all.size := by
      rcases Nat.lt_or_ge i all.size with h | h
      · exact h
      · simp [Array.getElem?_eq_none h] at ho
    refine ⟨hlt, ?_⟩
    rw [ho]
    simp only [Option.map_some, Option.getD_some, Bool.and_eq_true, Bool.not_eq_true', Array.all_eq_true']
    refine ⟨h1, fun e he => ?_⟩
    cases hb : Region.binds .any e with
    | false => rfl
    | true => simpa using h2 e he hb

theorem getD_tf {l : Array Bool} {i : Nat} (h : i < l.size) : l.getD i true = l.getD i false := by simp [Array.getD, h]

theorem any_sound (hc : CallOk P A call) (hord : ∀ i o, all[i]? = some o → ∀ e, e ∈ o.after → Region.binds .any e = true → e.on < i) :
    ∀ (fuel : Nat) (listed : Array Bool) (l : List Nat) (st : St) (β : GM) (S : Nat → Prop) (a : Act) (w : World), Rel P h0 W D β S st a w → st.r = r → (∀ i, i ∈ l → ¬ S i ∧ i < all.size) → listed.size = all.size →
    (∀ i, i < all.size → (listed.getD i true = false ↔ i ∈ l)) → Closed all (fun i => listed.getD i false = true) → l.length ≤ fuel →
    l.Pairwise (fun x y => x < y ∧ (((Region.before all).getD y 0).testBit x = true ∨ Apart (rd x) (wr x) (rd y) (wr y))) →
    Chain call (gAcc P A F all r) rd wr l st s' → wpAny P .any all (Done P h0 W D s') fuel listed a w := by
  intro fuel
  induction fuel with
  | zero =>
    intro listed l st β S a w R hr hi hs hl hcl hlen hp h
    obtain rfl := List.eq_nil_of_length_eq_zero (Nat.le_zero.1 hlen)
    cases h
    refine ⟨?_, rfl, β, R.weaken fun _ _ => trivial⟩
    cases hrd : Region.ready .any all listed with
    | nil => rfl
    | cons x xs =>
      have hx : x ∈ Region.ready .any all listed := by rw [hrd]; exact List.mem_cons_self ..
      obtain ⟨o, ho, h1, _⟩ := mem_ready.1 hx
      have hlt : x < all.size := by
        rcases Nat.lt_or_ge x all.size with h | h
        · exact h
        · simp [Array.getElem?_eq_none h] at ho
      exact absurd ((hl x hlt).1 h1) (by simp)
  | succ fuel ih =>
    intro listed l st β S a w R hr hi hs hl hcl hlen hp h
    refine ⟨fun hnil => ?_, fun i hir => ?_⟩
    · cases l with
      | nil => cases h; exact ⟨rfl, β, R.weaken fun _ _ => trivial⟩
      | cons x l =>
        exfalso
        have hxlt := (hi x (List.mem_cons_self ..)).2
        have ho : all[x]? = some all[x] := by simp [hxlt]
        have : x ∈ Region.ready .any all listed := by
          refine mem_ready.2 ⟨_, ho, (hl x hxlt).2 (List.mem_cons_self ..), fun e he hb => ?_⟩
          have hlt := hord x _ ho e he hb
          rw [← getD_tf (by omega)]
          cases hb2 : listed.getD e.on true with
          | true => rfl
          | false =>
            exfalso
            have := (hl e.on (by omega)).1 hb2
            rcases List.mem_cons.1 this with h | h
            · omega
            · have := (List.pairwise_cons.1 hp).1 _ h; omega
        rw [hnil] at this
        cases this
    · obtain ⟨o, ho, h1, h2⟩ := mem_ready.1 hir
      have hlt : i < all.size := by
        rcases Nat.lt_or_ge i all.size with h | h
        · exact h
        · simp [Array.getElem?_eq_none h] at ho
      have hil := (hl i hlt).1 h1
      obtain ⟨p, q, rfl⟩ := List.append_of_mem hil
      obtain ⟨hp1, hp2, hp3⟩ := List.pairwise_append.1 hp
      obtain ⟨hp4, hp5⟩ := List.pairwise_cons.1 hp2
      obtain ⟨s1, e, h⟩ := Chain.front p st h (fun x hx => by
        rcases (hp3 x hx i (List.mem_cons_self ..)).2 with hb | ha
        · exfalso
          have hxl := hi x (List.mem_append_left _ hx)
          have := (before_of all).2 i hlt x hb _ hcl (fun o' ho' e he hb => by rw [ho] at ho'; cases ho'; exact h2 e he hb)
          have h3 := (hl x hxl.2).2 (List.mem_append_left _ hx)
          rw [getD_tf (by omega)] at h3
          have this : listed.getD x false = true := this
          rw [h3] at this; cases this
        · exact ha)
      refine wpOp_mono ?_ (one_sound R (hi i hil).1 hc hlt (by rw [hr]; exact e))
      rintro a w ⟨β', R'⟩
      have hne : ∀ k, k ∈ p ++ q → k ≠ i := by
        rintro k hk rfl
        rcases List.mem_append.1 hk with h | h
        · have := (hp3 k h k (List.mem_cons_self ..)).1; omega
        · have := (hp4 k h).1; omega
      have hsub : ∀ k, k ∈ p ++ q → k ∈ p ++ i :: q := fun k hk => by
        rcases List.mem_append.1 hk with h | h
        · exact List.mem_append_left _ h
        · exact List.mem_append_right _ (List.mem_cons_of_mem _ h)
      refine ih _ (p ++ q) s1 β' _ a w R' (by rw [e.outs.r, hr]) (fun k hk => ⟨?_, (hi k (hsub k hk)).2⟩) (by simpa using hs) (fun k hk => ?_) ?_ ?_ ?_ h
      · rintro (h | rfl)
        · exact (hi k (hsub k hk)).1 h
        · exact hne k hk rfl
      · rw [getD_setI _ _ _ _ (by omega)]
        by_cases e2 : k = i
        · subst e2
          rw [if_pos rfl]
          constructor
          · intro h; cases h
          · intro h; exact absurd rfl (hne k h)
        · rw [if_neg e2, hl k hk]
          constructor
          · intro h
            rcases List.mem_append.1 h with h | h
            · exact List.mem_append_left _ h
            · rcases List.mem_cons.1 h with h | h
              · exact absurd h e2
              · exact List.mem_append_right _ h
          · exact hsub k
      · intro k o' hk ho' e' he' hb'
        have hk : (listed.setIfInBounds i true).getD k false = true := hk
        show (listed.setIfInBounds i true).getD e'.on false = true
        rw [getD_setI _ _ _ _ (by omega)] at hk ⊢
        split
        · rfl
        · by_cases e2 : k = i
          · subst e2; rw [ho] at ho'; cases ho'; exact h2 e' he' hb'
          · rw [if_neg e2] at hk; exact hcl k o' hk ho' e' he' hb'
      · simp at hlen ⊢; omega
      · refine List.pairwise_append.2 ⟨hp1, hp5, fun x hx y hy => hp3 x hx y (List.mem_cons_of_mem _ hy)⟩

theorem Rel.next (R : Rel P h0 W D β (fun _ => True) st a w) : Rel P h0 W D β (fun _ => False) { st with r := st.r + 1 } a w :=
  ⟨R.mem, fun r' i h => R.fresh r' i (.inl (by rcases h with h | ⟨h, _⟩ <;> simp only at h <;> omega)), R.frame, R.tm, R.nt, R.df, R.nz, R.en⟩

/-- a region's operations -/
theorem aseq_sound (R : Rel P h0 W D β (fun _ => False) st a w) (hc : CallOk P A call) {draw : Bool} (h : aseq P A F call all draw st K = some res) (id : Nat) :
    ∃ s', K s' = some res ∧ (∃ rd wr, Chain call (gAcc P A F all st.r) rd wr (List.range all.size) st s') ∧ (Code.region id all draw).wp P (Done P h0 W D s') a w := by
  have hidx : ∀ i, i < all.toList.length → all[0 + i]? = all.toList[i]? := fun i _ => by simp
  have hrange : List.range' 0 all.toList.length = List.range all.size := by rw [Array.length_toList, List.range_eq_range']
  cases draw with
  | false =>
    simp only [aseq] at h
    obtain ⟨s', rd, wr, c, hk⟩ := aops_chain all.toList 0 st h hidx
    rw [hrange] at c
    refine ⟨s', hk, ⟨rd, wr, c⟩, wp_region ?_⟩
    exact seq_sound hc _ st β _ a w R rfl (fun i hi => ⟨fun h => h, by simpa using hi⟩) List.nodup_range c
  | true =>
    simp only [aseq] at h
    cases hb : (P.follows .mixedOrders && all.toList.zipIdx.all (fun x => x.1.after.all fun e => !Region.binds .any e || Nat.blt e.on x.2)) with
    | false => simp [hb] at h
    | true =>
      rw [hb, cond_true] at h
      simp only [Bool.and_eq_true] at hb
      obtain ⟨hm, hord⟩ := hb
      obtain ⟨s', fs', rd, wr, c, hk, hl, _, hf⟩ := aopsL_chain all.toList 0 st [] h rfl hidx
      rw [hrange] at c
      cases hap : apartAll [] fs' (Region.before all).toList.reverse with
      | false => simp [hap] at hk
      | true =>
        rw [hap, cond_true] at hk
        have hsz := (before_of all).1
        have hl' : fs'.length = all.size := by simpa using hl
        have hap' := apartAll_of [] fs' _ (by simp [hsz, hl']) hap
        rw [List.reverse_reverse] at hap'
        refine ⟨s', hk, ⟨rd, wr, c⟩, wp_region_any hm ?_⟩
        refine any_sound hc (fun i o ho e he hb => ?_) all.size _ (List.range all.size) st β _ a _ (R.world rfl ⟨rfl, rfl⟩) rfl (fun i hi => ⟨fun h => h, by simpa using hi⟩) (by simp) (fun i hi => ?_) (fun k o hk => ?_) (by simp) ?_ c
        · have hmem : (o, i) ∈ all.toList.zipIdx := by
            rw [List.mem_zipIdx_iff_getElem?]
            simpa using ho
          have := List.all_eq_true.1 hord _ hmem
          rw [Array.all_eq_true'] at this
          have := this e he
          simpa [hb, Nat.blt_eq] using this
        · simp [Array.getD, hi]
        · have hk : (Array.replicate all.size false).getD k false = true := hk
          rcases Nat.lt_or_ge k all.size with h | h
          · simp [Array.getD, h] at hk
          · simp [Array.getD, Nat.not_lt.2 h] at hk
        · refine List.Pairwise.imp_of_mem ?_ (List.pairwise_lt_range (n := all.size))
          intro x y hx hy hxy
          have hy' : y < all.size := by simpa using hy
          refine ⟨hxy, ?_⟩
          have f1 := hf x (Nat.zero_le _) (by simp; omega)
          have f2 := hf y (Nat.zero_le _) (by simpa using hy')
          refine (hap' x y hxy (by omega)).imp (fun h => ?_) (fun h => apartF_of h f1.1 f1.2 f2.1 f2.2)
          rwa [arr_getD] at h
end
end Go.AI
set_option linter.unusedVariables false
set_option linter.unusedSimpArgs false
namespace Go.AI
open Go

/-- slots are written at one place alone -/
def Acc.Only (d : Option Tmp) : Acc → Prop
  | .done | .fail => True
  | .getT _ k => ∀ v, (k v).Only d
  | .getB _ k => ∀ b, (k b).Only d
  | .setT t _ k => d = some t ∧ k.Only d
  | .setB _ _ k => k.Only d
  | .test _ k => k.Only d
  | .fork _ x y => x.Only d ∧ y.Only d
  | .br _ _ x y => x.Only d ∧ y.Only d
  | .call _ _ _ k => ∀ r, (k r).Only d

section
variable {d : Option Tmp}
theorem done_only : Acc.done.Only d := trivial
theorem fail_only : Acc.fail.Only d := trivial
theorem getT_only {t : Nat} {k : AV → Acc} (h : ∀ v, (k v).Only d) : (Acc.getT t k).Only d := h
theorem getB_only {t : Id} {k : Option Box → Acc} (h : ∀ v, (k v).Only d) : (Acc.getB t k).Only d := h
theorem setB_only {t : Id} {b : Option Box} {k : Acc} (h : k.Only d) : (Acc.setB t b k).Only d := h
theorem test_only {b : Bool} {k : Acc} (h : k.Only d) : (Acc.test b k).Only d := h
theorem fork_only {b : Bool} {x y : Acc} (hx : x.Only d) (hy : y.Only d) : (Acc.fork b x y).Only d := ⟨hx, hy⟩
theorem br_only {t : Nat} {b : Bool} {x y : Acc} (hx : x.Only d) (hy : y.Only d) : (Acc.br t b x y).Only d := ⟨hx, hy⟩
theorem call_only {f : FuncId} {ps : List PV} {bs : List BX} {k : Res → Acc} (h : ∀ v, (k v).Only d) : (Acc.call f ps bs k).Only d := h
theorem cond_only {b : Bool} {x y : Acc} (hx : x.Only d) (hy : y.Only d) : (bif b then x else y).Only d := by cases b <;> assumption
theorem orFail_only {γ : Type} {o : Option γ} {k : γ → Acc} (h : ∀ v, (k v).Only d) : (orFail o k).Only d := by
  cases o with
  | none => exact trivial
  | some x => exact h x
theorem evK_only {o : Operand} {k : AV → Acc} (h : ∀ v, (k v).Only d) : (evK o k).Only d := by
  unfold evK; split <;> first | exact h _ | exact h
theorem evsK_only : ∀ {os : List Operand} {k : List AV → Acc}, (∀ v, (k v).Only d) → (evsK os k).Only d
  | [], k, h => h _
  | o :: os, k, h => evK_only fun _ => evsK_only fun _ => h _
theorem putK_only {v : AV} {k : Acc} (h : k.Only d) : (putK d v k).Only d := by
  cases d with
  | none => exact h
  | some t => exact ⟨rfl, h⟩
theorem setBsK_only : ∀ {l : List (Id × Box)} {k : Acc}, k.Only d → (setBsK l k).Only d
  | [], k, h => h
  | (id, b) :: l, k, h => setBsK_only (l := l) h
theorem loadK_only {P : Program} {t : TypeId} {l : AL} {k : List AL → Acc} (h : ∀ v, (k v).Only d) : (loadK P t l k).Only d := by
  unfold loadK
  refine orFail_only fun ts => ?_
  split
  · refine getB_only fun b => ?_
    split
    · exact test_only (h _)
    · exact test_only (h _)
    · exact trivial
  · exact orFail_only h
  · refine getB_only fun b => ?_
    split
    · exact test_only (orFail_only h)
    · exact trivial
  · exact trivial
theorem packK_only {P : Program} {x : Bool} {y : TypeId → Bool} {t : LTy} {l : AL} {k : PV → List Id → Acc} (h : ∀ v i, (k v i).Only d) : (packK P x y t l k).Only d := by
  unfold packK
  split
  · refine getB_only fun b => ?_
    split
    · exact test_only (h _ _)
    · exact trivial
  · exact test_only (h _ _)
  · refine getB_only fun b => ?_
    split
    · exact test_only (setB_only (h _ _))
    · exact trivial
  · exact test_only (h _ _)
  · exact test_only (h _ _)
  · exact orFail_only fun p => h _ _
theorem packsK_only {P : Program} {x : Bool} {y : TypeId → Bool} : ∀ {ts : List LTy} {ls : List AL} {k : List PV → List Id → Acc}, (∀ v i, (k v i).Only d) → (packsK P x y ts ls k).Only d
  | [], [], k, h => h _ _
  | t :: ts, l :: ls, k, h => by simp only [packsK]; exact packK_only fun _ _ => packsK_only fun _ _ => h _ _
  | [], _ :: _, k, h => trivial
  | _ :: _, [], k, h => trivial
theorem packVsK_only {P : Program} {x : Bool} {y : TypeId → Bool} : ∀ {ts : List TypeId} {ls : List AV} {k : List PV → List Id → Acc}, (∀ v i, (k v i).Only d) → (packVsK P x y ts ls k).Only d
  | [], [], k, h => h _ _
  | t :: ts, l :: ls, k, h => by simp only [packVsK]; exact orFail_only fun _ => orFail_only fun _ => test_only (packsK_only fun _ _ => packVsK_only fun _ _ => h _ _)
  | [], _ :: _, k, h => trivial
  | _ :: _, [], k, h => trivial
theorem bxK_only {P : Program} {A : Ann} {id : Id} {k : BX → Acc} (h : ∀ v, (k v).Only d) : (bxK P A id k).Only d := by
  unfold bxK
  refine getB_only fun b => ?_
  split
  · refine setB_only (orFail_only fun _ => test_only (packsK_only fun _ ids => ?_))
    split
    · exact h _
    · exact trivial
  · exact trivial
theorem bxsK_only {P : Program} {A : Ann} : ∀ {ids : List Id} {k : List BX → Acc}, (∀ v, (k v).Only d) → (bxsK P A ids k).Only d
  | [], k, h => h _
  | id :: ids, k, h => bxK_only fun _ => bxsK_only fun _ => h _
theorem backK_only {P : Program} {A : Ann} {r j : Nat} {tys : List TypeId} {res : Res} {rts : List TypeId} {own : TypeId → Bool} {ids : List Id} {k : AV → Acc} (h : ∀ v, (k v).Only d) : (backK P A r j tys res rts own ids k).Only d := by
  unfold backK
  exact orFail_only fun _ => orFail_only fun _ => test_only (setBsK_only (h _))
theorem callK_only {P : Program} {A : Ann} {r j : Nat} {f : FuncId} {cap : List Id} {args : List AV} {k : AV → Acc} (h : ∀ v, (k v).Only d) : (callK P A r j f cap args k).Only d := by
  unfold callK
  exact orFail_only fun _ => packVsK_only fun _ _ => test_only (bxsK_only fun _ => call_only fun _ => backK_only h)
theorem fillEK_only {P : Program} {e : TypeId} : ∀ {parts : List (Nat × AV)} {es : List (List PV)} {k : List (List PV) → Acc}, (∀ v, (k v).Only d) → (fillEK P e es parts k).Only d
  | [], es, k, h => h _
  | (i, v) :: rest, es, k, h => by
    simp only [fillEK]
    refine orFail_only fun _ => orFail_only fun _ => test_only (packsK_only fun _ ids => ?_)
    split
    · exact test_only (fillEK_only h)
    · exact trivial
theorem listK_only {e : TypeId} {l : AL} {k : List (List PV) → Acc} (h : ∀ v, (k v).Only d) : (listK e l k).Only d := by
  unfold listK
  split
  · exact test_only (h _)
  · exact h _
  · refine getB_only fun b => ?_
    split
    · exact test_only (h _)
    · exact trivial
  · exact trivial
theorem appendK_only {P : Program} {nid : Id} {e : TypeId} {s : AL} {xs : List (List PV)} {k : AL → Acc} (h : ∀ v, (k v).Only d) : (appendK P nid e s xs k).Only d := by
  unfold appendK
  refine orFail_only fun _ => orFail_only fun _ => test_only ?_
  split
  · exact test_only (setB_only (h _))
  · refine getB_only fun b => ?_
    split
    · exact test_only (test_only (setB_only (setB_only (h _))))
    · exact trivial
  · exact trivial
theorem sliceArrK_only {P : Program} {e : TypeId} {n : Nat} {id : Id} {off : Nat} {l u : Int} {k : AL → Acc} (h : ∀ v, (k v).Only d) : (sliceArrK P e n id off l u k).Only d := by
  unfold sliceArrK
  split
  · refine orFail_only fun _ => getB_only fun b => ?_
    split
    · exact test_only (orFail_only fun _ => setB_only (h _))
    · exact test_only (orFail_only fun _ => h _)
    · exact trivial
  · exact trivial
theorem bndK_only {o : Option Operand} {x : Int} {k : Int → Acc} (h : ∀ v, (k v).Only d) : (bndK o x k).Only d := by
  unfold bndK
  split
  · exact h _
  · refine evK_only fun v => ?_
    split
    · exact h _
    · exact trivial
end

theorem opK_only (P : Program) (A : Ann) (F : FuncId) (o : Oper) (r j : Nat) : (opK P A F o r j).Only o.dst := by
  dsimp only [opK]
  split <;> repeat' with_reducible (first
    | exact done_only
    | exact fail_only
    | apply putK_only
    | apply evK_only
    | apply evsK_only
    | apply orFail_only
    | apply loadK_only
    | apply callK_only
    | apply fillEK_only
    | apply listK_only
    | apply appendK_only
    | apply sliceArrK_only
    | apply bndK_only
    | apply getB_only
    | apply setB_only
    | apply test_only
    | apply fork_only
    | apply cond_only
    | (intro _)
    | split)
theorem goK_only (P : Program) (A : Ann) (F : FuncId) (all : Array Oper) (o : Oper) (r j : Nat) : (goK P A F all o r j).Only o.dst := by
  unfold goK
  split
  · exact opK_only ..
  · exact orFail_only fun _ => br_only (opK_only ..) (putK_only trivial)

section
variable {call : CallF}
theorem Ex.only {x : Acc} {s s1 : St} {rd wr : List Loc} (h : Ex call x s s1 rd wr) {d : Option Tmp} : x.Only d → ∀ t, d ≠ some t → s1.tmps t = s.tmps t := by
  induction h with
  | done s => intro _ t _; rfl
  | getT h ih => intro ho t ht; exact ih (ho _) t ht
  | getB h ih => intro ho t ht; exact ih (ho _) t ht
  | @setT d' v k s s1 rd wr hd h ih =>
    intro ho t ht
    obtain ⟨e, ho⟩ := ho
    rw [ih ho t ht]
    have : Nat.beq t d' = false := by
      cases hb : Nat.beq t d' with
      | false => rfl
      | true => have := Nat.eq_of_beq_eq_true hb; subst this; exact absurd e ht
    show (bif Nat.beq t d' then v else s.tmps t) = _
    rw [this]; rfl
  | setB hq h ih => intro ho t ht; exact ih ho t ht
  | test h ih => intro ho t ht; exact ih ho t ht
  | @fork b x y s s1 rd wr h ih => intro ho t ht; exact ih (by cases b; exact ho.2; exact ho.1) t ht
  | @br d' want b x y s s1 rd wr hd h ih =>
    intro ho t ht
    refine ih ?_ t ht
    cases (b == want) with
    | true => exact ho.1
    | false => exact ho.2
  | und hd h ih => intro ho t ht; exact ih ho.2 t ht
  | call hq hc h ih => intro ho t ht; exact ih (ho _) t ht
theorem Ex.quiet {x : Acc} {s s1 : St} {rd wr : List Loc} (h : Ex call x s s1 rd wr) : s.q = true → ∀ id, id.fresh s.r = false → s1.boxes id = s.boxes id := by
  induction h with
  | done s => intro _ t _; rfl
  | getT h ih => exact ih
  | getB h ih => exact ih
  | setT hd h ih => exact ih
  | @setB id' b k s s1 rd wr hq h ih =>
    intro hs id hid
    rw [ih hs id hid]
    have : id ≠ id' := by
      rintro rfl
      rw [hs, hid] at hq; cases hq
    exact updB_ne s.boxes b this
  | test h ih => exact ih
  | fork h ih => exact ih
  | br hd h ih => exact ih
  | und hd h ih => exact ih
  | call hq hc h ih => exact ih
end
end Go.AI
set_option linter.unusedVariables false
set_option linter.unusedSimpArgs false
namespace Go.AI
open Go

section
variable {α : Type} {P : Program} {A : Ann} {F : FuncId} {h0 : Array Obj} {W : Wr} {D : Nat → Prop} {β : GM} {S : Nat → Prop} {st s' : St} {a : Act} {w : World} {call : CallF} {K : St → Option α} {res : α}
  {all : Array Oper} {Q : Exit → Act → World → Prop} {r : Nat} {rd wr : Nat → List Loc}

theorem Chain.only : ∀ (l : List Nat) (s s' : St), Chain call (gAcc P A F all r) rd wr l s s' → ∀ t, (∀ o, o ∈ all.toList → o.dst ≠ some t) → s'.tmps t = s.tmps t
  | [], s, s', h, t, _ => by cases h; rfl
  | i :: l, s, s', ⟨s1, e, h⟩, t, ht => by
    rw [Chain.only l s1 s' h t ht]
    cases ho : all[i]? with
    | none =>
      unfold gAcc at e
      rw [ho] at e
      cases e
    | some o =>
      refine e.only (d := o.dst) (by unfold gAcc; rw [ho]; exact goK_only ..) t (ht o ?_)
      have := Array.mem_of_getElem? ho
      simpa using this
theorem Chain.quiet : ∀ (l : List Nat) (s s' : St), Chain call (gAcc P A F all r) rd wr l s s' → s.q = true → ∀ id, id.fresh s.r = false → s'.boxes id = s.boxes id
  | [], s, s', h, _, _, _ => by cases h; rfl
  | i :: l, s, s', ⟨s1, e, h⟩, hq, id, hid => by
    have o := e.outs
    rw [Chain.quiet l s1 s' h (by rw [o.q]; exact hq) id (by rw [o.r]; exact hid)]
    exact e.quiet hq id hid

theorem Rel.part (R : Rel P h0 W D β S st a w) {B' : Id → Option Box} (hB : ∀ i x, B' i = some x → st.boxes i = some x) :
    Ext (NN D β st.boxes w.heap) w.heap β (NN D β B' w.heap) w.heap β ∧ Rel P h0 W D β S { st with boxes := B' } a w := by
  obtain ⟨e, m⟩ := R.mem.part hB (D' := D) fun k hk => .inl hk
  refine ⟨e, R.step m e (R.frame.of_sub (fun i x k b h1 h2 h3 => ⟨i, x, k, hB i x h1, h2, h3⟩) fun _ => rfl) R.fresh (fun r i x => ?_) (Env.refl w)⟩
  cases h : B' (.z r i x) with
  | none => rfl
  | some y => have := hB _ _ h; rw [R.nz] at this; cases this

theorem tellK_of (R : Rel P h0 W D β S st a w) : ∀ (l : List (Tmp × LTy)) (ps : List PV), tellK l st = some ps → ∀ k, k < l.length →
    RP P (NN D β st.boxes w.heap) w.heap (l.getD k (0, .no)).2 (ps.getD k .u) (a.tmps.getD (l.getD k (0, .no)).1 undef)
  | [], ps, h, k, hk => absurd hk (Nat.not_lt_zero _)
  | (d, t) :: l, ps, h, k, hk => by
    simp only [tellK] at h
    have hv := R.tm d
    split at h
    · rename_i v hd
      rw [hd] at hv
      split at h
      · rename_i p ps' h1 h2
        cases h
        cases k with
        | zero => exact pvL_RP h1 hv.leaf
        | succ k => simpa using tellK_of R l ps' h2 k (by simpa using hk)
      · cases h
    · cases h

theorem untell_of : ∀ (l : List (Tmp × LTy)) (c : Nat) (ps : List PV) (st st' : St), untell st ps l c = some st' → Rel P h0 W D β S st a w →
    (∀ k, k < l.length → RP P (NN D β st.boxes w.heap) w.heap (l.getD k (0, .no)).2 (ps.getD (c + k) .u) (a.tmps.getD (l.getD k (0, .no)).1 undef)) → Rel P h0 W D β S st' a w ∧ st'.r = st.r ∧ st'.q = st.q
  | [], c, ps, st, st', h, R, _ => by cases h; exact ⟨R, rfl, rfl⟩
  | (d, t) :: l, c, ps, st, st', h, R, hr => by
    simp only [untell] at h
    cases hb : Nat.blt d st.nt with
    | false => simp [hb] at h
    | true =>
      rw [hb, cond_true] at h
      have h0 := hr 0 (by simp)
      simp only [List.getD_cons_zero, Nat.add_zero] at h0
      obtain ⟨g1, g2, g3⟩ := untell_of l (c + 1) ps _ st' h (R.same d (.v _ _ h0.dec)) (fun k hk => by
        have := hr (k + 1) (by simpa using hk)
        rw [show c + 1 + k = c + (k + 1) by omega]
        simp only [List.getD_cons_succ] at this
        exact this)
      exact ⟨g1, g2, g3⟩

theorem kill_of (st : St) : ∀ (os : List Oper), (st.kill os).boxes = st.boxes ∧ (st.kill os).r = st.r ∧ (st.kill os).nt = st.nt ∧ (st.kill os).q = st.q ∧
    ∀ t, (st.kill os).tmps t = .any ∨ ((∀ o, o ∈ os → o.dst ≠ some t) ∧ (st.kill os).tmps t = st.tmps t)
  | [] => ⟨rfl, rfl, rfl, rfl, fun t => .inr ⟨fun o h => (by cases h), rfl⟩⟩
  | o :: os => by
    obtain ⟨h1, h2, h3, h4, h5⟩ := kill_of st os
    unfold St.kill
    split
    · rename_i d hd
      refine ⟨h1, h2, h3, h4, fun t => ?_⟩
      show (bif Nat.beq t d then AV.any else (st.kill os).tmps t) = _ ∨ _ ∧ (bif Nat.beq t d then AV.any else (st.kill os).tmps t) = _
      cases hb : Nat.beq t d with
      | true => exact .inl rfl
      | false =>
        refine (h5 t).imp id fun ⟨g1, g2⟩ => ⟨fun o' ho' => ?_, g2⟩
        rcases List.mem_cons.1 ho' with rfl | ho'
        · rw [hd]; intro e; cases e; simp at hb
        · exact g1 o' ho'
    · rename_i hd
      refine ⟨h1, h2, h3, h4, fun t => (h5 t).imp id fun ⟨g1, g2⟩ => ⟨fun o' ho' => ?_, g2⟩⟩
      rcases List.mem_cons.1 ho' with rfl | ho'
      · rw [hd]; simp
      · exact g1 o' ho'

/-- a region -/
theorem aregion_sound (R : Rel P h0 W D β (fun _ => False) st a w) (hc : CallOk P A call) {draw : Bool} (h : aregion P A F call all draw st K = some res) (id : Nat) :
    (Code.region id all draw).wp P (fun e a w => e = .normal ∧ ∃ st' β', Rel P h0 W D β' (fun _ => False) st' a w ∧ K st' = some res ∧ st'.q = st.q) a w := by
  unfold aregion at h
  split at h
  · rename_i ds hds
    rw [Option.bind_eq_some_iff] at h
    obtain ⟨ps, h1, h2⟩ := h
    have Rq : Rel P h0 W D β (fun _ => False) { st with q := true } a w := ⟨R.mem, R.fresh, R.frame, R.tm, R.nt, R.df, R.nz, R.en⟩
    obtain ⟨s', hk, ⟨rd, wr, c⟩, hwp⟩ := aseq_sound Rq hc h1 id
    split at h2
    · rename_i st' hst'
      refine wp_mono hwp ?_
      rintro e a' w' ⟨rfl, β', R'⟩
      refine ⟨rfl, ?_⟩
      obtain ⟨o1, o2, o3⟩ := c.outs
      have hB : ∀ i x, st.boxes i = some x → s'.boxes i = some x := fun i x hx => by
        cases hf : i.fresh st.r with
        | false => rw [Chain.quiet _ _ _ c rfl i hf]; exact hx
        | true =>
          exfalso
          cases i with
          | n r' i' c' =>
            have : r' = st.r := Nat.eq_of_beq_eq_true hf
            subst this
            have := R.no_box ((R.fresh st.r i' (.inr ⟨rfl, fun h => h⟩)).1 c')
            rw [this] at hx; cases hx
          | _ => cases hf
      obtain ⟨e, R2⟩ := R'.part hB
      obtain ⟨k1, k2, k3, k4, k5⟩ := kill_of st all.toList
      have R3 : Rel P h0 W D β' (fun _ => True) (st.kill all.toList) a' w' := by
        refine ⟨by rw [k1]; exact R2.mem, by rw [k2]; have := R2.fresh; simp only [o1] at this; exact this, by rw [k1]; exact R2.frame, fun t => ?_, by rw [R2.nt, k3]; exact o2, R2.df, by rw [k1]; exact R2.nz, R2.en⟩
        rcases k5 t with h | ⟨h, h'⟩
        · rw [h]; exact .any _
        · rw [h', k1]
          have := R2.tm t
          simp only at this
          rw [Chain.only _ _ _ c t h] at this
          exact this
      obtain ⟨R4, r1, r2⟩ := untell_of ds 0 ps _ st' hst' R3 (fun k hk' => by
        rw [Nat.zero_add, k1]
        exact (tellK_of R' ds ps hk k hk').mono e.n)
      exact ⟨_, β', R4.next, by rw [r1, k2]; exact h2, by show st'.q = st.q; rw [r2, k4]⟩
    · cases h2
  · obtain ⟨s', hk, ⟨rd, wr, c⟩, hwp⟩ := aseq_sound R hc h id
    refine wp_mono hwp ?_
    rintro e a' w' ⟨rfl, β', R'⟩
    exact ⟨rfl, _, β', R'.next, hk, (c.outs).2.2⟩
end
end Go.AI
set_option linter.unusedVariables false
set_option linter.unusedSimpArgs false
namespace Go.AI
open Go

theorem eqTys_of : ∀ {xs ys : List TypeId}, eqTys xs ys = true → xs = ys
  | [], [], _ => rfl
  | x :: xs, y :: ys, h => by
    simp only [eqTys, Bool.and_eq_true] at h
    rw [Nat.eq_of_beq_eq_true h.1, eqTys_of h.2]
  | [], _ :: _, h => by cases h
  | _ :: _, [], h => by cases h

section
variable {P : Program} {A : Ann} {F : FuncId} {h0 : Array Obj} {W : Wr} {D : Nat → Prop} {β : GM} {S : Nat → Prop} {st : St} {a : Act} {w : World}

theorem resVs_of {ev : Acc → St → Prop} (E : Ev ev) (R : Rel P h0 W D β S st a w) {f : ResultVar → Sem Value} (f1 : ∀ t, f (.tmp t) = pure (a.tmps.getD t undef)) (f2 : ∀ b t, f (.cell b t) = (do loadVar t (← asAddr (a.tmps.getD b undef)))) :
    ∀ (rs : List ResultVar) (k : List AV → Acc), ev (resVs P rs k) st → ∃ (as : List AV) (vs : List Value), ev (k as) st ∧ vs.length = as.length ∧
      (∀ i, i < as.length → VR P (NN D β st.boxes w.heap) w.heap β (as.getD i .any) (vs.getD i undef)) ∧ (rs.mapM f).run P w = .ok vs w
  | [], k, h => ⟨[], [], h, rfl, fun i hi => absurd hi (Nat.not_lt_zero _), by simp⟩
  | .tmp t :: rs, k, h => by
    simp only [resVs] at h
    have h := E.getT h
    obtain ⟨as, vs, h1, h2, h3, h4⟩ := resVs_of E R f1 f2 rs _ h
    refine ⟨_, a.tmps.getD t undef :: vs, h1, by simp [h2], fun i hi => ?_, ?_⟩
    · cases i with
      | zero => exact R.tm t
      | succ i => simpa using h3 i (by simpa using hi)
    · rw [List.mapM_cons, f1]
      simp only [Sem.run_bind, Sem.run_pure, Result.andThen_ok, h4]
  | .cell b t :: rs, k, h => by
    simp only [resVs] at h
    have h := E.getT h
    have hx := R.tm b
    split at h
    · rename_i l hb
      rw [hb] at hx
      obtain ⟨ts, ls, bk, off, vs0, g1, g2, g3, g4, g5, g6, h⟩ := loadK_ev E R hx.leaf h
      obtain ⟨av, hav, h⟩ := E.orFail h
      obtain ⟨m1, m2⟩ := VR.mk hav (by omega) g6
      obtain ⟨as, vs, h1, h2, h3, h4⟩ := resVs_of E R f1 f2 rs _ h
      refine ⟨_, valOf P t vs0 :: vs, h1, by simp [h2], fun i hi => ?_, ?_⟩
      · cases i with
        | zero => exact m1
        | succ i => simpa using h3 i (by simpa using hi)
      · have hl : (loadVar t ⟨bk, off, none⟩).run P w = .ok (valOf P t vs0) w := run_loadVar g1 w bk off vs0 g4 g5 (fun ha => by have := m2 ha; omega)
        rw [List.mapM_cons, f2, g2]
        simp only [Sem.run_bind, asAddr, Sem.run_pure, Result.andThen_ok, hl, h4]
    · exact absurd h E.fail

def resF (a : Act) : ResultVar → Sem Value
  | .tmp t => pure (a.tmps.getD t undef)
  | .cell b t => do loadVar t (← asAddr (a.tmps.getD b undef))
theorem finish_sound (R : Rel P h0 W D β (fun _ => False) st a w) {pts : List TypeId} {fn : Func} {res : Res} (h : finish P A F pts fn st = some res) {β0 : GM} {LB : Id → Option Box}
    (hW : ∀ k, W.w k → blkOf β0 LB k) (hG : ∀ i, W.g i = β0 (.p i)) : ∃ v, (results fn a.tmps).run P w = .ok v w ∧ Post P A F fn D β0 LB h0 pts res v w.heap := by
  unfold finish at h
  have E := Ev.fin res
  obtain ⟨as, vs, h, hl, hv, hrun⟩ := resVs_of (f := resF a) E R (fun _ => rfl) (fun _ _ => rfl) _ _ h
  have R' := R.weaken (S' := fun i => i = 0) (fun i hi => hi.elim)
  have fr := R.fresh st.r 0 (.inr ⟨rfl, fun h => h⟩)
  have Z0 := R'.toZS rfl fr.1 fr.2
  have hN0 : ZN D β st st.r 0 (fun _ => none) w = NN D β st.boxes w.heap := by
    show NN D β (joint st.boxes (zOver st.r 0 fun _ => none)) w.heap = _
    rw [zOver_none, joint_none R.nz]
  obtain ⟨ps, ids, st1, β1, h1, sb1, l1, f1⟩ := packVsK_of E fn.resultTypes.toList as vs 0 st β _ _ Z0 hl (by rw [hN0]; exact hv) h
  obtain ⟨Z1, e1, vals⟩ := f1 ps (fun i _ => by rw [Nat.zero_add])
  obtain ⟨bs, bl, st2, β2, h2, sb2, lbs, hbl, Z2, e2, f2⟩ := bxsK_of E (idsP pts.length ++ ids) 0 st1 β1 _ _ (Z1.up fun z hz => bef_next hz) h1
  rw [← ov_append] at Z2 e2
  obtain ⟨hty, h2⟩ := E.test h2
  have hty := eqTys_of hty
  have hres : res = (ps, bs) := by
    simp only [finish.finA, Option.some.injEq] at h2
    exact h2.symm
  subst hres
  have hpl : (idsP pts.length).length = pts.length := by simp [idsP]
  refine ⟨oneR vs, ?_, ?_⟩
  · have e : (results fn a.tmps).run P w = (fn.results.mapM (resF a) >>= fun vs => (pure (if h : vs.size = 1 then vs[0] else .tuple vs) : Sem Value)).run P w := rfl
    rw [e]
    have e2 : ∀ f : ResultVar → Sem Value, fn.results.mapM f = List.toArray <$> fn.results.toList.mapM f := fun f => by
      conv => lhs; rw [← Array.toArray_toList (xs := fn.results)]
      rw [List.mapM_toArray]
    rw [e2]
    simp only [Sem.run_bind, Sem.run_map, hrun, Result.andThen_ok, Sem.run_pure]
    congr 1
    match vs with
    | [] => rfl
    | [x] => rfl
    | x :: y :: l => simp [oneR]
  · obtain ⟨Hd, hNN⟩ := Z2.hand (D' := D) (fun k hk => .inl hk)
    refine ⟨fun x => β2 (.z st.r 0 x), bl, hbl, hty, Hd, Z2.rel.frame.sz, fun b hb hn => Z2.rel.frame.same b hb fun hw => hn (hW b hw), fun x y h k g1 g2 g3 g4 => hW k (Z2.rel.frame.own (.z st.r 0 x) (y.mapId (.z st.r 0)) h k ?_ g2 g3 g4), fun i hi => ?_, vs, rfl, fun avs ms n hh => ?_⟩
    · rw [joint_z rfl, zOver_z, g1]; rfl
    · obtain ⟨hd, k1, k2, _⟩ := f2 i (by rw [List.length_append, hpl]; omega)
      rw [Nat.zero_add] at k2
      have : (idsP pts.length ++ ids).getD i (.p 0) = .p i := by
        have h1 : i < (idsP pts.length).length := by rw [hpl]; exact hi
        simp only [List.getD, List.getElem?_append_left h1]
        simp [idsP, hi]
      rw [this] at k1
      show β2 (.z st.r 0 (.p i)) = _
      rw [k2, ← hG i]
      exact (Z2.rel.frame.pn i hd k1).symm
    · obtain ⟨n1, n2, n3⟩ := vals pts.length avs ms n hh
      refine ⟨by rw [n2, hl, l1], fun i hi => ?_⟩
      have hgS : (fun x => β2 (gS st.r 0 (idsP pts.length ++ ids) x)) = fun x => β2 (.z st.r 0 x) := by
        funext x
        cases x with
        | p i =>
          simp only [gS]
          split
          · rename_i hi
            obtain ⟨hd, k1, k2, _⟩ := f2 i hi
            rw [k1, ← k2, Nat.zero_add]
          · rfl
        | _ => rfl
      have := n3 (gS st.r 0 (idsP pts.length ++ ids)) (fun c => rfl) (fun q hq => by
        show (if pts.length + q < (idsP pts.length ++ ids).length then _ else _) = _
        rw [if_pos (by rw [List.length_append, hpl]; omega)]
        rw [show pts.length + q = (idsP pts.length).length + q by rw [hpl]]
        simp [List.getD, List.getElem?_append_right]) i (by rw [← l1, ← hl]; exact hi)
      have := VR.mono (e2.comp (gS st.r 0 (idsP pts.length ++ ids))) this
      rw [hgS] at this
      exact VR.mono ⟨fun b hb => ⟨hNN b hb, rfl⟩, fun _ _ h => h⟩ this
end
end Go.AI
set_option linter.unusedVariables false
set_option linter.unusedSimpArgs false
namespace Go.AI
open Go

theorem lookT_numb : ∀ (l : List AV) (i t : Nat), lookT (numb i l) t = if i ≤ t then l.getD (t - i) .any else .any
  | [], i, t => by simp [numb, lookT]
  | v :: l, i, t => by
    simp only [numb, lookT]
    cases hb : Nat.beq t i with
    | true =>
      have := Nat.eq_of_beq_eq_true hb
      subst this
      simp
    | false =>
      have hne : t ≠ i := by rintro rfl; simp at hb
      rw [cond_false, lookT_numb l (i + 1) t]
      by_cases h : i ≤ t
      · rw [if_pos h, if_pos (by omega)]
        obtain ⟨k, hk⟩ : ∃ k, t - i = k + 1 := ⟨t - i - 1, by omega⟩
        rw [hk, show t - (i + 1) = k by omega]
        rfl
      · rw [if_neg h, if_neg (by omega)]

section
variable {P : Program} {A : Ann} {f : FuncId} {fn : Func} {D : Nat → Prop} {β0 : GM} {w : World}

theorem handV_len {own : TypeId → Bool} : ∀ (ts : List TypeId) (ps : List PV) (c kk : Nat) (avs : List AV) (ms : List (Id × Box)) (n : Nat), handV P own ts ps c kk = some (avs, ms, n) → avs.length = ts.length
  | [], _, _, _, _, _, _, h => by cases h; rfl
  | t :: ts, ps, c, kk, avs, ms, n, h => by
    unfold handV at h
    split at h
    · split at h
      · split at h
        · rename_i h2
          cases h
          simp [handV_len ts _ _ _ _ _ _ h2]
        · cases h
      · cases h
    · cases h

theorem enter_sound {ps : List PV} {bs : List BX} {st : St} (h : enter P A f fn ps bs = some st) : ∃ avs ms n bl, handV P (A.ownA f) fn.params.toList ps 0 0 = some (avs, ms, n) ∧ handB P A bs 0 = some bl ∧ n + fn.nfree = bs.length ∧ st.q = false ∧
    ∀ (D : Nat → Prop) (β0 : GM) (w : World) (vs fvs : List Value), Hand P D β0 (ov (fun _ => none) (ms ++ bl)) w.heap → vs.length = avs.length →
      (∀ i, i < avs.length → VR P (NN D β0 (ov (fun _ => none) (ms ++ bl)) w.heap) w.heap β0 (avs.getD i .any) (vs.getD i undef)) →
      fvs.length = fn.nfree → (∀ x, x < fn.nfree → PtrV β0 (.p (n + x)) 0 (fvs.getD x undef)) →
      Rel P w.heap ⟨blkOf β0 (ov (fun _ => none) (ms ++ bl)), fun i => β0 (.p i), w⟩ D β0 (fun _ => False) st { tmps := (vs ++ fvs).toArray ++ Array.replicate (fn.ntmps - (vs ++ fvs).toArray.size) undef, defers := [] } w := by
  unfold enter at h
  split at h
  · rename_i l ms n bl hV hB
    cases hb : (Nat.beq (n + fn.nfree) bs.length && Nat.ble (fn.params.size + fn.nfree) fn.ntmps) with
    | false => simp [hb] at h
    | true =>
      rw [hb, cond_true] at h
      cases h
      simp only [Bool.and_eq_true] at hb
      have hlen := handV_len _ _ _ _ _ _ _ hV
      refine ⟨l, ms, n, bl, hV, hB, Nat.eq_of_beq_eq_true hb.1, rfl, fun D β0 w vs fvs H hvl hv hfl hfv => ?_⟩
      have none_of : ∀ x : Id, x.isE = false → β0 x = none := fun x hx => by
        cases hb : β0 x with
        | none => rfl
        | some k =>
          have := H.kd x (H.nm x (by rw [hb]; simp))
          rw [hx] at this; cases this
      have hnt := Nat.le_of_ble_eq_true hb.2
      refine ⟨H.mem, fun r' i _ => ⟨fun c => none_of _ rfl, fun x => none_of _ rfl⟩, ⟨Nat.le_refl _, fun _ _ _ => rfl, fun id x h k h1 h2 h3 _ => ⟨id, x, h, h1, h2, h3⟩, fun i h hh => hh⟩, fun t => ?_, ?_, rfl, fun r i x => ?_, Env.refl w⟩
      · show VR _ _ _ _ (lookT (numb 0 _) t) _
        rw [lookT_numb, if_pos (Nat.zero_le _), Nat.sub_zero]
        have hsz : (vs ++ fvs).length = (l ++ (List.range fn.nfree).map fun x => AV.v (.ptr (.p (n + x)) 0)).length := by simp [hvl, hfl]
        by_cases ht : t < (l ++ (List.range fn.nfree).map fun x => AV.v (.ptr (.p (n + x)) 0)).length
        · have hval : ((vs ++ fvs).toArray ++ Array.replicate (fn.ntmps - (vs ++ fvs).toArray.size) undef).getD t undef = (vs ++ fvs).getD t undef := by
            rw [Array.getD_eq_getD_getElem?, Array.getElem?_append_left (by simpa [hvl, hfl] using ht)]
            simp [List.getD]
          rw [hval]
          by_cases ht2 : t < l.length
          · have := hv t ht2
            have e1 : (l ++ (List.range fn.nfree).map fun x => AV.v (.ptr (.p (n + x)) 0)).getD t .any = l.getD t .any := by simp [List.getD, List.getElem?_append_left ht2]
            have e2 : (vs ++ fvs).getD t undef = vs.getD t undef := by simp [List.getD, List.getElem?_append_left (hvl ▸ ht2 : t < vs.length)]
            rw [e1, e2]; exact this
          · obtain ⟨k, rfl⟩ : ∃ k, t = l.length + k := ⟨t - l.length, by omega⟩
            have hk : k < fn.nfree := by simp at ht; omega
            have e1 : (l ++ (List.range fn.nfree).map fun x => AV.v (.ptr (.p (n + x)) 0)).getD (l.length + k) .any = .v (.ptr (.p (n + k)) 0) := by
              simp [List.getD, List.getElem?_append_right, hk]
            have e2 : (vs ++ fvs).getD (l.length + k) undef = fvs.getD k undef := by
              rw [← hvl]
              simp [List.getD, List.getElem?_append_right]
            rw [e1, e2]
            exact .v _ _ (hfv k hk)
        · have : (l ++ (List.range fn.nfree).map fun x => AV.v (.ptr (.p (n + x)) 0)).getD t .any = .any := by
            simp only [List.getD, List.getElem?_eq_none (Nat.not_lt.1 ht)]; rfl
          rw [this]; exact .any _
      · have : (vs ++ fvs).toArray.size = fn.params.size + fn.nfree := by simp [hvl, hfl, hlen]
        show (_ ++ _ : Array Value).size = fn.ntmps
        rw [Array.size_append, Array.size_replicate, this]
        omega
      · cases hb : ov (fun _ => none) (ms ++ bl) (.z r i x) with
        | none => exact hb
        | some y => have := H.kd (.z r i x) (by rw [hb]; simp); cases this
  · cases h
end
end Go.AI
