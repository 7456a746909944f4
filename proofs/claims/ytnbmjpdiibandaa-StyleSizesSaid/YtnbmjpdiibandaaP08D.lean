/- What well-formed cells are: fills, lines, lists of them. -/
import Derived.Test.YtnbmjpdiibandaaP08a
import Derived.Test.YtnbmjpdiibandaaAiL
set_option linter.unusedVariables false
set_option linter.unusedSimpArgs false
set_option maxRecDepth 100000
namespace Go.AI
open Go Go.Proofs

theorem PWL.split {P : Program} {us : List LTy} : ∀ {ts : List LTy} {ps : List PV}, PWL P (ts ++ us) ps → ∃ a b, ps = a ++ b ∧ PWL P ts a ∧ PWL P us b
  | [], ps, h => ⟨[], ps, rfl, ⟨rfl, fun j hj => by simp at hj⟩, h⟩
  | t :: ts, ps, h => by
    obtain ⟨p, q, rfl, hp, hq⟩ := h.cons
    obtain ⟨a, b, rfl, ha, hb⟩ := PWL.split (ts := ts) hq
    refine ⟨p :: a, b, rfl, ?_, hb⟩
    refine ⟨by simp [ha.1], fun j hj => ?_⟩
    cases j with
    | zero => exact hp
    | succ j => simpa using ha.2 j (by simpa using hj)
theorem rows_of {α : Type} {P : Program} (e : α → List PV) (wf : α → Prop) {ts : List LTy} (h : ∀ x, PWL P ts x → ∃ a, x = e a ∧ wf a) : ∀ es : List (List PV), (∀ x, x ∈ es → PWL P ts x) → ∃ l : List α, es = l.map e ∧ ∀ a, a ∈ l → wf a
  | [], _ => ⟨[], rfl, fun a ha => by cases ha⟩
  | x :: es, hx => by
    obtain ⟨a, rfl, ha⟩ := h x (hx x (by simp))
    obtain ⟨l, rfl, hl⟩ := rows_of e wf h es (fun y hy => hx y (by simp [hy]))
    exact ⟨a :: l, rfl, fun b hb => by rcases List.mem_cons.1 hb with rfl | hb; exact ha; exact hl b hb⟩
def I4.wf (c : I4) : Prop := I64 c.1 ∧ (I64 c.2.1 ∧ (I64 c.2.2.1 ∧ I64 c.2.2.2))
def Mat.wf (m : Mat) : Prop := I64 m.1 ∧ (I64 m.2.1 ∧ (I64 m.2.2.1 ∧ (I64 m.2.2.2.1 ∧ (I64 m.2.2.2.2.1 ∧ I64 m.2.2.2.2.2))))
abbrev L4 : List LTy := [.int .i64, .int .i64, .int .i64, .int .i64]
theorem i4_of {P : Program} {x : List PV} (h : PWL P L4 x) : ∃ c : I4, x = [.i c.1, .i c.2.1, .i c.2.2.1, .i c.2.2.2] ∧ c.wf := by
  obtain ⟨p1, q1, rfl, h1, r1⟩ := h.cons
  obtain ⟨p2, q2, rfl, h2, r2⟩ := r1.cons
  obtain ⟨p3, q3, rfl, h3, r3⟩ := r2.cons
  obtain ⟨p4, q4, rfl, h4, r4⟩ := r3.cons
  obtain rfl := r4.nil
  obtain ⟨x1, rfl, w1⟩ := h1.i64_of
  obtain ⟨x2, rfl, w2⟩ := h2.i64_of
  obtain ⟨x3, rfl, w3⟩ := h3.i64_of
  obtain ⟨x4, rfl, w4⟩ := h4.i64_of
  exact ⟨(x1, x2, x3, x4), rfl, w1, w2, w3, w4⟩
theorem int_cons {P : Program} {ts : List LTy} {x : List PV} (h : PWL P (.int .i64 :: ts) x) : ∃ (n : Int) (q : List PV), x = .i n :: q ∧ I64 n ∧ PWL P ts q := by
  obtain ⟨p1, q1, rfl, h1, r1⟩ := h.cons
  obtain ⟨x1, rfl, w1⟩ := h1.i64_of
  exact ⟨x1, q1, rfl, w1, r1⟩
theorem str_cons {P : Program} {ts : List LTy} {x : List PV} (h : PWL P (.str :: ts) x) : ∃ (n : List UInt8) (q : List PV), x = .s n :: q ∧ n.length ≤ maxLen ∧ PWL P ts q := by
  obtain ⟨p1, q1, rfl, h1, r1⟩ := h.cons
  obtain ⟨x1, rfl, w1⟩ := h1.str_of
  exact ⟨x1, q1, rfl, w1, r1⟩
theorem sl_cons {α : Type} {P : Program} {t : TypeId} {us : List LTy} {e : α → List PV} {wf : α → Prop} (hl : leaves P t = some us) (he : ∀ x, PWL P us x → ∃ a, x = e a ∧ wf a) {ts : List LTy} {x : List PV} (h : PWL P (.sl t :: ts) x) :
    ∃ (l : List α) (q : List PV), x = .l (l.map e) :: q ∧ l.length ≤ maxLen ∧ (∀ a, a ∈ l → wf a) ∧ PWL P ts q := by
  obtain ⟨p1, q1, rfl, h1, r1⟩ := h.cons
  obtain ⟨es, ts, rfl, hl', hn, hx⟩ := h1.sl_of
  rw [hl] at hl'
  cases hl'
  obtain ⟨l, rfl, hw⟩ := rows_of e wf he es hx
  exact ⟨l, q1, rfl, by simpa using hn, hw, r1⟩
def Stop.wf (s : Stop) : Prop := I64 s.ratio ∧ s.color.wf
theorem stop_of {P : Program} (x : List PV) (h : PWL P (.int .i64 :: L4) x) : ∃ s : Stop, x = s.e ∧ s.wf := by
  obtain ⟨n, q, rfl, hn, r⟩ := int_cons h
  obtain ⟨c, rfl, hc⟩ := i4_of r
  exact ⟨⟨n, c⟩, rfl, hn, hc⟩
def Strk.wf (s : Strk) : Prop := I64 s.width ∧ s.color.wf
theorem strk_of {P : Program} (x : List PV) (h : PWL P (.int .i64 :: L4) x) : ∃ s : Strk, x = s.e ∧ s.wf := by
  obtain ⟨n, q, rfl, hn, r⟩ := int_cons h
  obtain ⟨c, rfl, hc⟩ := i4_of r
  exact ⟨⟨n, c⟩, rfl, hn, hc⟩
def Fill.wf (f : Fill) : Prop := I64 f.kind ∧ (f.color.wf ∧ (Mat.wf f.mat ∧ (I64 f.spread ∧ (f.stops.length ≤ maxLen ∧ ((∀ s, s ∈ f.stops → s.wf) ∧ I64 f.id)))))
abbrev LFill (t : TypeId) : List LTy := [.int .i64, .int .i64, .int .i64, .int .i64, .int .i64, .int .i64, .int .i64, .int .i64, .int .i64, .int .i64, .int .i64, .int .i64, .sl t, .int .i64]
theorem fill_of {P : Program} {t : TypeId} (ht : leaves P t = some (.int .i64 :: L4)) (x : List PV) (h : PWL P (LFill t) x) : ∃ f : Fill, x = f.e ∧ f.wf := by
  obtain ⟨x0, q, rfl, w0, h⟩ := int_cons h
  obtain ⟨x1, q, rfl, w1, h⟩ := int_cons h
  obtain ⟨x2, q, rfl, w2, h⟩ := int_cons h
  obtain ⟨x3, q, rfl, w3, h⟩ := int_cons h
  obtain ⟨x4, q, rfl, w4, h⟩ := int_cons h
  obtain ⟨x5, q, rfl, w5, h⟩ := int_cons h
  obtain ⟨x6, q, rfl, w6, h⟩ := int_cons h
  obtain ⟨x7, q, rfl, w7, h⟩ := int_cons h
  obtain ⟨x8, q, rfl, w8, h⟩ := int_cons h
  obtain ⟨x9, q, rfl, w9, h⟩ := int_cons h
  obtain ⟨x10, q, rfl, w10, h⟩ := int_cons h
  obtain ⟨x11, q, rfl, w11, h⟩ := int_cons h
  obtain ⟨l, q, rfl, hl, hw, h⟩ := sl_cons (e := Stop.e) ht stop_of h
  obtain ⟨x12, q, rfl, w12, h⟩ := int_cons h
  obtain rfl := h.nil
  exact ⟨⟨x0, (x1, x2, x3, x4), (x5, x6, x7, x8, x9, x10), x11, l, x12⟩, rfl, w0, ⟨w1, w2, w3, w4⟩, ⟨w5, w6, w7, w8, w9, w10⟩, w11, hl, hw, w12⟩
end Go.AI
