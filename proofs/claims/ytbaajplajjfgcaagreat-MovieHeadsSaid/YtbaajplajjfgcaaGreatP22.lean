/- What is nothing: shapes, morphs, bitmaps against empty ones. -/
import Derived.Test.YtbaajplajjfgcaaGreatU22
import Derived.Test.YtbaajplajjfgcaaGreatP09
import Derived.Test.YtbaajplajjfgcaaGreatP10
import Derived.Test.YtbaajplajjfgcaaGreatT22g
set_option linter.unusedVariables false
set_option linter.unusedSimpArgs false
set_option maxRecDepth 100000
namespace Go.AI
open Go Go.Proofs

/-- an answer that is one of the two -/
def Tot (o : Option Res) : Prop := ∃ b, o = some ([.b b], [])
end Go.AI
set_option linter.unusedVariables false
set_option linter.unusedSimpArgs false
set_option maxRecDepth 100000
namespace Go.AI
open Go Go.Proofs

theorem tot_bif {c : Bool} {x y : Option Res} (hx : Tot x) (hy : Tot y) : Tot (bif c then x else y) := by cases c; exact hy; exact hx
theorem tot_bind_bif {α : Type} {c : Bool} {x y : Option α} {f : α → Option Res} (hx : Tot (x.bind f)) (hy : Tot (y.bind f)) : Tot ((bif c then x else y).bind f) := by cases c; exact hy; exact hx
theorem tot_some {α : Type} {a : α} {f : α → Option Res} (h : Tot (f a)) : Tot ((some a).bind f) := h
theorem tot_assoc {α β : Type} {x : Option α} {g : α → Option β} {f : β → Option Res} (h : Tot (x.bind fun a => (g a).bind f)) : Tot ((x.bind g).bind f) := by rw [Option.bind_assoc]; exact h
end Go.AI
set_option linter.unusedVariables false
set_option linter.unusedSimpArgs false
set_option maxRecDepth 100000
namespace Go.AI
open Go Go.Proofs

def ShortsM (l : List Fill) : Prop := ∀ f, f ∈ l → f.stops.length ≤ 9223372036854775807
def sh9M (t : T9) : Prop := t.2.2.1.length ≤ 9223372036854775807 ∧ ShortsM t.2.2.1 ∧ t.2.2.2.1.length ≤ 9223372036854775807 ∧ t.2.2.2.2.length ≤ 2 ^ 40 ∧ Shs t.2.2.2.2
/-- a tag but for its sprite's tags -/
structure Hd where
  kind : Int
  dep : Int
  col : I4
  pl : Nat → Int
  sh : T9
  mo : Mor
  bid : Int
  bw : Int
  bh : Int
  px : List (List PV)
  sid : Int
  sfr : Int
def Hd.e (h : Hd) (subs : List (List PV)) : List PV := [.i h.kind, .i h.dep, .i h.col.1, .i h.col.2.1, .i h.col.2.2.1, .i h.col.2.2.2] ++ (itE h.pl ++ (e9 h.sh ++ (h.mo.e ++ [.i h.bid, .i h.bw, .i h.bh, .l h.px, .i h.sid, .i h.sfr, .l subs])))
structure Hd.okC (h : Hd) : Prop where
  sh : sh9M h.sh
  mo : h.mo.sh
  px : h.px.length ≤ 9223372036854775807
/-- of a step nothing is asked -/
def Hd.ok (h : Hd) : Prop := h.kind ≠ 1 → h.kind ≠ 26 → h.kind ≠ 28 → h.okC
end Go.AI

set_option linter.unusedVariables false
set_option linter.unusedSimpArgs false
set_option maxRecDepth 100000
namespace Go.AI
open Go Go.Proofs

def small10 (m : Mor) : Bool := smallB m.fills m.strks && (smallB m.tofl m.tost && (smallR m.recs && smallR m.targ))
structure Mor.wf (m : Mor) : Prop where
  f : m.fills.length ≤ 9223372036854775807
  tf : m.tofl.length ≤ 9223372036854775807
  r : m.recs.length ≤ 9223372036854775807
  t : m.targ.length ≤ 9223372036854775807
  rr : ∀ r, r ∈ m.recs → r.fills.length ≤ 9223372036854775807
  tt : ∀ r, r ∈ m.targ → r.fills.length ≤ 9223372036854775807
theorem small10_c (m : Mor) (h : m.wf) : cW f_celluloidref10_Small m.e [] = some ([.b (small10 m)], []) := by
  unfold Mor.e
  rw [w_celluloidref10_Small]
  simp only [small_c h.f, small_c h.tf, small9_c h.r h.rr, small9_c h.t h.tt, Option.bind_some, Option.bind_none, andB, orB, orB2, List.getD_cons_zero, List.getD_cons_succ, toB_b, toI_i, toS_s, toL_l, cond_true, cond_false, List.length_map]
  unfold small10
  rfl
theorem mem_shortsT {l : List Fill} (h : ∀ f, f ∈ l → f.stops.length ≤ 20) : Shorts l := fun f hf => Nat.le_trans (h f hf) (by decide)
theorem small10_sh {m : Mor} (h : small10 m = true) : m.sh := by
  unfold small10 at h
  simp only [Bool.and_eq_true] at h
  obtain ⟨h1, h2, h3, h4⟩ := h
  obtain ⟨a1, a2, a3⟩ := smallB_r h1
  obtain ⟨b1, b2, b3⟩ := smallB_r h2
  obtain ⟨c1, c2⟩ := smallR_r h3
  obtain ⟨d1, d2⟩ := smallR_r h4
  exact ⟨Nat.le_trans (Nat.le_of_lt a2) (by decide), Nat.le_trans (Nat.le_of_lt b2) (by decide), mem_shortsT a1, mem_shortsT b1, Nat.le_trans (Nat.le_of_lt a3) (by decide), Nat.le_trans (Nat.le_of_lt b3) (by decide), Nat.le_trans c1 (by decide), Nat.le_trans d1 (by decide), c2, d2⟩
/-- what every tag that is read is -/
structure Hd.wf (h : Hd) : Prop where
  kind : I64 h.kind
  dep : I64 h.dep
  pl : ∀ j, j < 19 → I64 (h.pl j)
  f : h.sh.2.2.1.length ≤ 9223372036854775807
  fs : ShortsM h.sh.2.2.1
  s : h.sh.2.2.2.1.length ≤ 9223372036854775807
  r : h.sh.2.2.2.2.length ≤ 9223372036854775807
  rr : ∀ r, r ∈ h.sh.2.2.2.2 → r.fills.length ≤ 9223372036854775807
  mo : h.mo.wf
  px : h.px.length ≤ 9223372036854775807
end Go.AI
