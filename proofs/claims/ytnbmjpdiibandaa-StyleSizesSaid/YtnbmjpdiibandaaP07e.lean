/- Changes of colour and colours that are read. -/
import Derived.Test.YtnbmjpdiibandaaP07d
set_option linter.unusedVariables false
set_option linter.unusedSimpArgs false
set_option maxRecDepth 100000
namespace Go.AI
open Go Go.Proofs

def cxB (m a : List Int) : Bool := m.all (inB2 (-512) 512) && a.all (inB2 (-255) 255)
abbrev I4 := Int × Int × Int × Int
def I4.l (x : I4) : List Int := [x.1, x.2.1, x.2.2.1, x.2.2.2]
/-- four numbers, if they are there -/
def four (c : Bool) (n : Int) (d : I4) (σ : Rs) : I4 × Rs :=
  if c = true then (((sg σ n).1, (sg (sg σ n).2 n).1, (sg (sg (sg σ n).2 n).2 n).1, (sg (sg (sg (sg σ n).2 n).2 n).2 n).1), (sg (sg (sg (sg σ n).2 n).2 n).2 n).2) else (d, σ)
theorem four_len {c : Bool} {n : Int} {d : I4} {σ : Rs} (h : LenOk σ) : LenOk (four c n d σ).2 := by
  unfold four; split
  · exact sg_len (sg_len (sg_len (sg_len h n) n) n) n
  · exact h
def finCx (m a : I4) (σ : Rs) : I4 × I4 × Rs :=
  if (doneF σ (cxB m.l a.l)).2.2 ≠ 0 then ((0, 0, 0, 0), (0, 0, 0, 0), doneF σ (cxB m.l a.l)) else (m, a, doneF σ (cxB m.l a.l))
def cxOf (adds muls : Bool) (n : Int) (σ : Rs) : I4 × I4 × Rs :=
  finCx (four muls n (256, 256, 256, 256) σ).1 (four adds n (0, 0, 0, 0) (four muls n (256, 256, 256, 256) σ).2).1 (four adds n (0, 0, 0, 0) (four muls n (256, 256, 256, 256) σ).2).2
/-- a change of colour that is read -/
def takeCxF (σ : Rs) : I4 × I4 × Rs := cxOf ((pl σ 1).1 == 1) ((pl (pl σ 1).2 1).1 == 1) (pl (pl (pl σ 1).2 1).2 4).1 (pl (pl (pl σ 1).2 1).2 4).2
def encI4 (x : I4) : List PV := [.i x.1, .i x.2.1, .i x.2.2.1, .i x.2.2.2]
def encC (r : I4 × I4 × Rs) : Res := (encI4 r.1 ++ encI4 r.2.1 ++ encS r.2.2, [])

/-- a colour that is read -/
def takeKF (s : List UInt8) (a : Int) : I4 × Rs :=
  let q := bytesF s a 4
  if q.2.2.2 ≠ 0 then ((0, 0, 0, 0), ([], 0, q.2.2.2)) else ((((q.1.getD 0 0).toNat : Nat), ((q.1.getD 1 0).toNat : Nat), ((q.1.getD 2 0).toNat : Nat), ((q.1.getD 3 0).toNat : Nat)), (q.2.1, q.2.2.1, 0))
def encK (r : I4 × Rs) : Res := (encI4 r.1 ++ encS r.2, [])
theorem bt64 (s : List UInt8) (i : Nat) : IntKind.wrap .i64 (bt s (i : Int)) = (((s.getD i 0).toNat : Nat) : Int) := by
  have : (s.getD i 0).toNat < 256 := UInt8.toNat_lt _
  unfold bt; rw [Int.toNat_natCast, wrap64 (by omega) (by omega)]
theorem takeK_ans {s : List UInt8} (h : s.length ≤ 2 ^ 40) (a : Int) : Ans (fun k => call k f_field_TakeRGBA [.s s, .i a] []) (encK (takeKF s a)) := by
  refine Ans.succ (fun k => u_field_TakeRGBA k s a) (.bind (bytes_ans h a 4 (by decide)) ?_)
  unfold takeKF
  rcases bytesF_cases s a 4 with e | e | ⟨a', n', _, hn, _, hl, e⟩
  · rw [e]; exact .yes rfl (.pure _)
  · rw [e]; exact .yes rfl (.pure _)
  · rw [e]
    have hn : n' = 4 := by omega
    subst hn
    have e4 : ((s.drop ((a' + 7) / 8)).take 4).length = 4 := by rw [List.length_take, List.length_drop]; omega
    simp only [encB, List.getD_cons_zero, List.getD_cons_succ, PV.toI, PV.toS, e4]
    refine .no rfl (.yes rfl (.yes rfl (.yes rfl (.yes rfl (.pure' ?_)))))
    have b0 := bt64 ((s.drop ((a' + 7) / 8)).take 4) 0
    have b1 := bt64 ((s.drop ((a' + 7) / 8)).take 4) 1
    have b2 := bt64 ((s.drop ((a' + 7) / 8)).take 4) 2
    have b3 := bt64 ((s.drop ((a' + 7) / 8)).take 4) 3
    rw [show ((0 : Nat) : Int) = 0 from rfl] at b0
    rw [show ((1 : Nat) : Int) = 1 from rfl] at b1
    rw [show ((2 : Nat) : Int) = 2 from rfl] at b2
    rw [show ((3 : Nat) : Int) = 3 from rfl] at b3
    rw [b0, b1, b2, b3]; rfl
theorem qtakeK_ans {s : List UInt8} (h : s.length ≤ 2 ^ 40) (a : Int) : Ans (fun k => call k f_celluloidref07_TakeRGBA [.s s, .i a] []) (encK (takeKF s a)) := by
  refine Ans.succ (fun k => u_celluloidref07_TakeRGBA k s a) (.bind (rbytes_ans h a 4 (by decide)) ?_)
  unfold takeKF
  rcases bytesF_cases s a 4 with e | e | ⟨a', n', _, hn, _, hl, e⟩
  · rw [e]; exact .yes rfl (.pure _)
  · rw [e]; exact .yes rfl (.pure _)
  · rw [e]
    have hn : n' = 4 := by omega
    subst hn
    have e4 : ((s.drop ((a' + 7) / 8)).take 4).length = 4 := by rw [List.length_take, List.length_drop]; omega
    simp only [encB, List.getD_cons_zero, List.getD_cons_succ, PV.toI, PV.toS, e4]
    refine .no rfl (.yes rfl (.yes rfl (.yes rfl (.yes rfl (.pure' ?_)))))
    have b0 := bt64 ((s.drop ((a' + 7) / 8)).take 4) 0
    have b1 := bt64 ((s.drop ((a' + 7) / 8)).take 4) 1
    have b2 := bt64 ((s.drop ((a' + 7) / 8)).take 4) 2
    have b3 := bt64 ((s.drop ((a' + 7) / 8)).take 4) 3
    rw [show ((0 : Nat) : Int) = 0 from rfl] at b0
    rw [show ((1 : Nat) : Int) = 1 from rfl] at b1
    rw [show ((2 : Nat) : Int) = 2 from rfl] at b2
    rw [show ((3 : Nat) : Int) = 3 from rfl] at b3
    rw [b0, b1, b2, b3]; rfl
end Go.AI
