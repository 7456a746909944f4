/- Changes of colour and colours that are written. -/
import Derived.Test.YtnbmjpdiibandaaP07e
set_option linter.unusedVariables false
set_option linter.unusedSimpArgs false
set_option maxRecDepth 100000
namespace Go.AI
open Go Go.Proofs

def zeroI (a : I4) : Bool := a.1 == 0 && (a.2.1 == 0 && (a.2.2.1 == 0 && a.2.2.2 == 0))
def fullI (m : I4) : Bool := m.1 == 256 && (m.2.1 == 256 && (m.2.2.1 == 256 && m.2.2.2 == 256))
def cxL (m a : I4) : List Int := (if fullI m = true then [] else m.l) ++ (if zeroI a = true then [] else a.l)
/-- a change of colour, in bits -/
def cxW (m a : I4) (w : Wt) : Wt := nums 4 (cxL m a) (flagW (!fullI m) (flagW (!zeroI a) w))
def putCxF (s : List UInt8) (m a : I4) : List UInt8 × Int × Int := if cxB m.l a.l = true then ((cxW m a (s, 0)).1, 0, 0) else ([], 0, 1)
theorem cx_fits {m a : I4} (h : cxB m.l a.l = true) : ∀ v, v ∈ cxL m a → -512 ≤ v ∧ v ≤ 512 := by
  unfold cxB at h
  rw [Bool.and_eq_true, List.all_eq_true, List.all_eq_true] at h
  intro v hv
  unfold cxL at hv
  rcases List.mem_append.1 hv with hv | hv
  · split at hv
    · cases hv
    · exact inB2_iff.1 (h.1 v hv)
  · split at hv
    · cases hv
    · have := inB2_iff.1 (h.2 v hv); omega
theorem cx_wl {m a : I4} (h : cxB m.l a.l = true) : WL (cxL m a) ≤ 11 := WL_bound fun v hv => by
  have := cx_fits h v hv
  refine widthN_abs (by omega) ?_
  have e : ((2 ^ (11 - 1) : Nat) : Int) = 1024 := rfl
  rw [e]; omega
theorem cxL_len (m a : I4) : (cxL m a).length ≤ 8 := by
  unfold cxL I4.l
  split <;> split <;> simp
theorem cxNums_ans {m a : I4} (h : cxB m.l a.l = true) {w : Wt} (hw : WOk w) (hl : w.1.length ≤ 490000000) :
    Ans (fun k => call k f___celluloid_field_writer__signed [.u, .i 4, .l (ints (cxL m a))] (wbox w)) ([], wbox (nums 4 (cxL m a) w)) := by
  have h11 := cx_wl h
  have hlen := cxL_len m a
  exact wsigned_ans (fun v hv => by have := cx_fits h v hv; unfold I64; omega) (by omega) (h := 4) (by omega) (by show WL (cxL m a) < 16; omega) (by omega) hw (by omega)
def rgbaB (c : I4) : Bool := c.l.all (inB2 0 255)
def rgbaS (c : I4) : List UInt8 := [UInt8.ofNat c.1.toNat, UInt8.ofNat c.2.1.toNat, UInt8.ofNat c.2.2.1.toNat, UInt8.ofNat c.2.2.2.toNat]
theorem rightK_ans (c : I4) : Ans (fun k => call k f_field_RightRGBA [.i c.1, .i c.2.1, .i c.2.2.1, .i c.2.2.2] []) ([.b (rgbaB c)], []) := by
  refine Ans.succ (fun k => u_field_RightRGBA k ..) ?_
  exact .bind (within_ans 0 255 (l := c.l) (by simp [I4.l])) (.pure _)
theorem rgba_range {c : I4} (h : rgbaB c = true) : (0 ≤ c.1 ∧ c.1 ≤ 255) ∧ (0 ≤ c.2.1 ∧ c.2.1 ≤ 255) ∧ (0 ≤ c.2.2.1 ∧ c.2.2.1 ≤ 255) ∧ (0 ≤ c.2.2.2 ∧ c.2.2.2 ≤ 255) := by
  unfold rgbaB at h
  rw [List.all_eq_true] at h
  exact ⟨inB2_iff.1 (h _ (by simp [I4.l])), inB2_iff.1 (h _ (by simp [I4.l])), inB2_iff.1 (h _ (by simp [I4.l])), inB2_iff.1 (h _ (by simp [I4.l]))⟩
theorem rgba_bytes {c : I4} (h : rgbaB c = true) : toBytes (List.set (List.set (List.set (List.set [[PV.i 0], [PV.i 0], [PV.i 0], [PV.i 0]] 0 [PV.i (IntKind.wrap .u8 c.1)]) 1 [PV.i (IntKind.wrap .u8 c.2.1)]) 2 [PV.i (IntKind.wrap .u8 c.2.2.1)]) 3 [PV.i (IntKind.wrap .u8 c.2.2.2)]) = rgbaS c := by
  obtain ⟨h1, h2, h3, h4⟩ := rgba_range h
  rw [wrapU8' h1.1 (by omega), wrapU8' h2.1 (by omega), wrapU8' h3.1 (by omega), wrapU8' h4.1 (by omega)]
  rfl
def putKF (s : List UInt8) (c : I4) : List UInt8 × Int × Int := if rgbaB c = true then (s ++ rgbaS c, 0, 0) else ([], 0, 1)
theorem putK_ans {s : List UInt8} (hs : s.length ≤ 450000000) (f : Int) (c : I4) : Ans (fun k => call k f_field_PutRGBA [.s s, .i f, .i c.1, .i c.2.1, .i c.2.2.1, .i c.2.2.2] []) (encW (putKF s c)) := by
  refine Ans.succ (fun k => u_field_PutRGBA k ..) (.bind (rightK_ans c) ?_)
  simp only [List.getD_cons_zero, PV.toB]
  unfold putKF
  refine .ite (fun h => ?_) (fun h => ?_)
  · have h : rgbaB c = false := by simpa using h
    rw [if_neg (by rw [h]; decide)]; exact .pure _
  · have h : rgbaB c = true := by simpa using h
    rw [if_pos h, rgba_bytes h]
    exact .bind (putBytes_ans (by simp [rgbaS]; omega) f) (.pure _)
end Go.AI
