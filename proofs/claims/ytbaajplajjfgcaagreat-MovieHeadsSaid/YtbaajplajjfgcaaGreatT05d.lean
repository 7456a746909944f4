/- deflate.Raw walked: what stands between its rounds. -/
import Derived.Test.YtbaajplajjfgcaaGreatT05c
import Derived.BigCall
set_option linter.unusedVariables false
set_option linter.unusedSimpArgs false
namespace Go.AI
open Go Go.RowKit Go.Proofs Go.Maps
theorem wpList_extract0 {P : Program} {w : World} {ops : Array Oper} {rest : List Oper} {o : Oper} {a : Act} {Q : Exit → Act → World → Prop} (hg : o.guard = none) (x : Operand) (hop : o.op = Op.extract x 0) {u v : Value} (hx : a.eval x = .tuple #[u, v])
    (hK : wpList P ops Q rest (a.put o.dst u) w) : wpList P ops Q (o :: rest) a w := by
  refine wpList_plain hg fun K' hK' => ?_
  unfold Oper.wp
  simp [execOp, hop, hx, Instr.extract]
  exact hK' _ _ hK
theorem wpList_extract1 {P : Program} {w : World} {ops : Array Oper} {rest : List Oper} {o : Oper} {a : Act} {Q : Exit → Act → World → Prop} (hg : o.guard = none) (x : Operand) (hop : o.op = Op.extract x 1) {u v : Value} (hx : a.eval x = .tuple #[u, v])
    (hK : wpList P ops Q rest (a.put o.dst v) w) : wpList P ops Q (o :: rest) a w := by
  refine wpList_plain hg fun K' hK' => ?_
  unfold Oper.wp
  simp [execOp, hop, hx, Instr.extract]
  exact hK' _ _ hK
theorem wfk {k j : Nat} (h : k + j ≤ 1000000) : (Lit.int .i64 ((k : Int) + (j : Int))).wf = true := by
  have e1 : IntKind.min .i64 = -9223372036854775808 := by decide
  have e2 : IntKind.max .i64 = 9223372036854775807 := by decide
  simp only [Lit.wf, Bool.and_eq_true, decide_eq_true_eq, e1, e2]
  omega
abbrev Sw := List (List PV) × Int
/-- one round: how many bytes, and what was written -/
noncomputable def stepZ (l : List UInt8) (i : Nat) (st : Sw) : Nat × Sw :=
  if i + 3 ≤ l.length ∧ (bestF l i (posL l i (bAt l i) (bAt l (i + 1)) (bAt l (i + 2)))).1 ≠ 0 then
    ((bestF l i (posL l i (bAt l i) (bAt l (i + 1)) (bAt l (i + 2)))).1.toNat, g5 f___celluloid_deflate_writer__run [.i (bestF l i (posL l i (bAt l i) (bAt l (i + 1)) (bAt l (i + 2)))).1, .i (bestF l i (posL l i (bAt l i) (bAt l (i + 1)) (bAt l (i + 2)))).2] st)
  else (1, g5 f___celluloid_deflate_writer__symbol [.i (bAt l i)] st)
noncomputable def loopZ (l : List UInt8) : Nat → Nat → Sw → Sw
  | 0, _, st => st
  | f + 1, i, st => if i < l.length then loopZ l f (i + (stepZ l i st).1) (stepZ l i st).2 else st
noncomputable def st0Z : Sw := g5 f___celluloid_deflate_writer__bits [.i 1, .i 2] (g5 f___celluloid_deflate_writer__bits [.i 1, .i 1] ([], 0))
noncomputable def outZ (l : List UInt8) : Sw := g5 f___celluloid_deflate_writer__symbol [.i 256] (loopZ l l.length 0 st0Z)
/-- blocks of the writer -/
abbrev NoW (wb : Nat) (rb : Option Nat) : Nat → Prop := fun g => g = wb ∨ some g = rb
structure RawI (l : List UInt8) (w wr : World) (mb k : Nat) (rb : Option Nat) (st : Sw) : Prop where
  wb : WBx wr w.heap.size rb st.1 st.2
  wk : Wk st.1 st.2
  map : MapAt l wr mb (mb + 1) k
  sh : wr.Shuns mb (NoW w.heap.size rb)
  bel : Bel w.heap.size w wr
  rb0 : ∀ g, rb = some g → w.heap.size ≤ g
  mlt : mb < wr.heap.size
  mb0 : w.heap.size < mb
theorem RawI.no {l : List UInt8} {w wr : World} {mb k : Nat} {rb : Option Nat} {st : Sw} (h : RawI l w wr mb k rb st) : ¬ NoW w.heap.size rb mb := by
  rintro (e | e)
  · have := h.mb0; omega
  · obtain ⟨D, ⟨es, clock, hb, _⟩, _⟩ := h.map
    obtain ⟨v, ty, f, _, _, ⟨h2, _⟩ | ⟨g', cap, c, ty2, f2, h2, h3, _, _, h4, _⟩⟩ := h.wb.ex
    · rw [h2] at e; cases e
    · rw [h2] at e
      cases e
      rw [hb] at h4
      cases h4
theorem RawI.grow {l : List UInt8} {w wr w' : World} {mb k : Nat} {rb : Option Nat} {st : Sw} (h : RawI l w wr mb k rb st) (hb : Bel wr.heap.size wr w') : RawI l w w' mb k rb st := by
  have hs := hb.size
  refine ⟨h.wb.kept (hb.block _ h.wb.lt) (fun g hg => hb.block _ (h.wb.rlt g hg).1), h.wk, h.map.kept h.sh hs h.mlt h.no (fun k hk _ => hb.block k hk), fun es clock he => h.sh es clock ?_, h.bel.trans (hb.mono h.bel.size), h.rb0, Nat.lt_of_lt_of_le h.mlt hs, h.mb0⟩
  rw [← he]
  exact (hb.block mb h.mlt).symm
theorem RawI.skip {l : List UInt8} {w wr : World} {mb k : Nat} {rb : Option Nat} {st : Sw} (h : RawI l w wr mb k rb st) (hi : l.length < k + 3) : RawI l w wr mb (k + 1) rb st :=
  ⟨h.wb, h.wk, h.map.skip hi, h.sh, h.bel, h.rb0, h.mlt, h.mb0⟩
theorem RawI.write {l : List UInt8} {w wr w' : World} {mb k : Nat} {rb : Option Nat} {st st' : Sw} (h : RawI l w wr mb k rb st) (ho : WOut wr w' w.heap.size rb st') (hk : Wk st'.1 st'.2) : ∃ rb', RawI l w w' mb k rb' st' := by
  obtain ⟨en, hs, hsame, rb', hw, hr⟩ := ho
  have hsame' : ∀ b, b < wr.heap.size → ¬ NoW w.heap.size rb b → w'.heap[b]? = wr.heap[b]? := fun b hb hn => hsame b hb (fun e => hn (.inl e)) (fun e => hn (.inr e))
  have hz := h.bel.size
  refine ⟨rb', hw, hk, h.map.kept h.sh hs h.mlt h.no hsame', ?_, ⟨⟨en.1.trans h.bel.env.1, en.2.trans h.bel.env.2⟩, Nat.le_trans h.bel.size hs, fun b hb => (hsame b (by omega) (by omega) (fun e => by have := h.rb0 b e.symm; omega)).trans (h.bel.block b hb)⟩, fun g hg => ?_, Nat.lt_of_lt_of_le h.mlt hs, h.mb0⟩
  · obtain ⟨D, hD, _⟩ := h.map
    have s1 := h.sh.reno (No' := NoW w.heap.size rb') hD (fun g hg => by
      rcases hg with e | e
      · exact .inl (.inl e)
      · rcases hr with r | r | ⟨g', r, hg'⟩
        · rw [r] at e; cases e
        · exact .inl (.inr (by rw [e, r]))
        · rw [r] at e
          cases e
          exact .inr hg')
    intro es clock he
    exact s1 es clock ((hsame' mb h.mlt h.no).symm.trans he)
  · rcases hr with r | r | ⟨g', r, hg'⟩
    · rw [r] at hg; cases hg
    · exact h.rb0 g (by rw [← r]; exact hg)
    · rw [r] at hg; cases hg; omega
theorem run_zero84 (u : World) : (zeroValue 164).run Tryz.prog u = .ok (.slice none 0 0) u := by kernel_rfl
theorem ne_nil_row {w : World} {base : Nat} {e : TypeId} {v : Value} {zs : List Int} (ho : w.ownsInts base e .i64 v zs) (h : zs ≠ []) : rowDatum (H := Value) .i64 v zs = datM zs := by
  rw [ho.datum_pos h]
  unfold datM
  rw [if_neg h]
/-- a place is laid into the map -/
theorem RawI.entry {l : List UInt8} {w wr : World} {mb k : Nat} {rb : Option Nat} {st : Sw} (h : RawI l w wr mb k rb st) (hk3 : k + 3 ≤ l.length) (hl : l.length ≤ 262144) :
    ∃ (v : Value) (s0 : Nat) (w1 : World), (Instr.mapEntry 176 (.map (some mb)) (triV (bAt l k) (bAt l (k + 1)) (bAt l (k + 2)))).run Tryz.prog wr = .ok (.tuple #[v, goInt s0]) w1 ∧ wr.grownBy w1 (some mb) ∧ w1.heap.size = wr.heap.size ∧ wr.ownsInts (mb + 1) 3 .i64 v (posL l k (bAt l k) (bAt l (k + 1)) (bAt l (k + 2))) ∧
      ∀ (w2 : World) (v' : Value), w1.grownBy w2 v.ownBlock → w2.ownsInts (mb + 1) 3 .i64 v' (posL l k (bAt l k) (bAt l (k + 1)) (bAt l (k + 2)) ++ [((k : Nat) : Int)]) → (v'.ownBlock = v.ownBlock ∨ ∃ g, v'.ownBlock = some g ∧ wr.heap.size ≤ g) →
        ∃ w3, (Instr.entryStore 176 (.map (some mb)) (goInt s0) v').run Tryz.prog w2 = .ok () w3 ∧ RawI l w w3 mb (k + 1) rb st ∧ wr.heap.size ≤ w3.heap.size := by
  obtain ⟨D, hD, hat⟩ := h.map
  have ha := bAt_u8 l k
  have hb := bAt_u8 l (k + 1)
  have hc := bAt_u8 l (k + 2)
  obtain ⟨v, zs, s0, w1, e1, e2, e3, e4, e5, e6, e7, e8⟩ := groups_entry keyed304 Tryz.underlying176 run_zero84 hD (by unfold maxLen; omega) h.sh (keyTri ha hb hc)
  rw [hat _ _ _ ha hb hc] at e4
  have hzs := datM_row e5 e4
  subst hzs
  refine ⟨v, s0, w1, e1, e2, e3, e5, fun w2 v' hg ho hloc => ?_⟩
  have hlen := posL_len l k (bAt l k) (bAt l (k + 1)) (bAt l (k + 2))
  have hwlt := h.wb.lt
  have hno : ∀ g, v'.ownBlock = some g → ¬ NoW w.heap.size rb g := fun g hgv => by
    rcases hloc with e | ⟨g', e, hg'⟩
    · exact e7 g (e ▸ hgv)
    · rw [e] at hgv
      cases hgv
      rintro (q | q)
      · omega
      · have := (h.wb.rlt _ q.symm).1; omega
  obtain ⟨w3, f1, f2, f3, f4⟩ := e8 w2 v' _ hg ho (by rw [List.length_append, List.length_singleton]; omega) hloc hno
  have hs2 := hg.size
  have hs3 := f3.size
  rw [e3] at hs2
  have nm := h.no
  have keep : ∀ b, b < wr.heap.size → b ≠ mb → some b ≠ v.ownBlock → w3.heap[b]? = wr.heap[b]? := fun b hb1 hb2 hb3 =>
    ((f3.block b (by omega) (fun e => hb2 (by cases e; rfl))).trans (hg.block b (by rw [e3]; exact hb1) hb3)).trans (e2.block b hb1 (fun e => hb2 (by cases e; rfl)))
  refine ⟨w3, f1, ⟨h.wb.kept (keep _ hwlt (fun e => nm (.inl e.symm)) (fun e => e7 _ e.symm (.inl rfl))) (fun g hg' => keep _ (h.wb.rlt g hg').1 (fun e => nm (.inr (by rw [hg', e]))) (fun e => e7 _ e.symm (.inr hg'.symm))), h.wk,
    ⟨_, f2, fun a b c wa wb wc => ?_⟩, f4, ⟨⟨(f3.os.trans (hg.os.trans e2.os)).trans h.bel.env.1, (f3.output.trans (hg.output.trans e2.output)).trans h.bel.env.2⟩, Nat.le_trans h.bel.size (by omega), fun b hb' => ?_⟩, h.rb0, Nat.lt_of_lt_of_le h.mlt (by omega), h.mb0⟩, by omega⟩
  · have hm : IsMap D := by
      obtain ⟨es, clock, _, _, _, e, _⟩ := hD
      exact ⟨_, e⟩
    by_cases e : bAt l k = a ∧ bAt l (k + 1) = b ∧ bAt l (k + 2) = c
    · obtain ⟨rfl, rfl, rfl⟩ := e
      rw [atKey_put_same hm (by unfold triK WideAt.IsKeyLit; trivial), posL_next, if_pos ⟨hk3, rfl, rfl, rfl⟩]
      exact ne_nil_row ho (by simp)
    · rw [atKey_put_other (fun q => e (by
        obtain ⟨q1, q2, q3⟩ := triK_inj wa wb wc ha hb hc q
        exact ⟨q1.symm, q2.symm, q3.symm⟩)), hat a b c wa wb wc, posL_next, if_neg (fun q => e q.2), List.append_nil]
  · have hz := h.bel.size
    refine (keep b (by omega) (by have := h.mb0; omega) (fun q => ?_)).trans (h.bel.block b hb')
    have := (e5.1.lt b q.symm).1
    have := h.mb0
    omega
end Go.AI
