/- What is written is taken back: rectangles, matrices, changes, colours. -/
import Derived.Test.YtnbmjpdiibandaaP07e
import Derived.Test.YtnbmjpdiibandaaP07h
set_option linter.unusedVariables false
set_option linter.unusedSimpArgs false
set_option maxRecDepth 100000
namespace Go.AI
open Go Go.Proofs

/-- the reader at a writer's end -/
def rat (W w : Wt) : Rs := (W.1, ((wl w : Nat) : Int), 0)
theorem pl_back {w W : Wt} (hw : WOk w) {v n : Nat} (hn : n ≤ 31) (hv : v < 2 ^ n) (he : WExt (putN v n w) W) : pl (rat W w) n = ((v : Int), rat W (putN v n w)) := by
  unfold pl rat
  rw [if_neg (by simp)]
  exact plain_back hw hn hv he
theorem sg_back {w W : Wt} (hw : WOk w) {v : Int} {n : Nat} (hn : n ≤ 31) (hv : widthN v ≤ n) (he : WExt (putN (signU v n).toNat n w) W) : sg (rat W w) n = (v, rat W (putN (signU v n).toNat n w)) := by
  unfold sg rat
  rw [if_neg (by simp)]
  exact signed_back hw hn hv he
theorem sgs_back {W : Wt} {n : Nat} (hn : n ≤ 31) : ∀ (l : List Int) (w : Wt), WOk w → (∀ v, v ∈ l → widthN v ≤ n) → WExt (numsW n l w) W → sgs n l.length (rat W w) = (l, rat W (numsW n l w))
  | [], w, _, _, _ => rfl
  | v :: l, w, hw, hv, he => by
    obtain ⟨a, b, _⟩ := putN_ext (signU v n).toNat n w hw
    have hx := (numsW_ok n l _ a).2.1
    have h1 := sg_back hw hn (hv v (by simp)) (hx.trans he)
    simp only [List.length_cons, sgs, h1]
    rw [sgs_back hn l _ a (fun u hu => hv u (by simp [hu])) he]
    rfl
theorem tk_back {w W : Wt} (hw : WOk w) {h : Nat} (hh : h ≤ 31) {l : List Int} (h31 : WL l ≤ 31) (hwl : WL l < 2 ^ h) (he : WExt (nums h l w) W) : tk h l.length (rat W w) = (l, rat W (nums h l w)) := by
  obtain ⟨a, b, _⟩ := putN_ext (WL l) h w hw
  have hx := (numsW_ok (WL l) l _ a).2.1
  unfold tk
  rw [pl_back hw hh hwl (hx.trans he)]
  exact sgs_back h31 l _ a (fun v hv => WL_ge hv) he
theorem tk5_back {w W : Wt} (hw : WOk w) {l : List Int} (hf : Fits l) (he : WExt (nums 5 l w) W) : tk 5 l.length (rat W w) = (l, rat W (nums 5 l w)) :=
  tk_back hw (h := 5) (by omega) (by have := hf.wl; omega) (by have := hf.wl; show _ < 32; omega) he
theorem done_back {w W : Wt} (hw : WOk w) (he : WExt w W) : doneF (rat W w) true = (W.1, ((8 * w.1.length : Nat) : Int), 0) := by
  unfold doneF rat
  rw [if_neg (by simp), if_neg (by simp)]
  simp only
  rw [align_wl hw he.1]
theorem begin_back {W : Wt} {s : List UInt8} (he : WExt (s, 0) W) : beginP W.1 ((8 * s.length : Nat) : Int) = rat W (s, 0) := by
  have e : wl ((s, 0) : Wt) = 8 * s.length := by simp [wl]
  have h1 := he.1
  rw [e] at h1
  have hr : rightB W.1 ((8 * s.length : Nat) : Int) = true := right_wl (W := W) h1
  unfold beginP rat
  rw [if_pos hr, e]
  congr 2
  unfold alignF
  rw [if_pos hr]; omega
theorem flag_back {w W : Wt} (hw : WOk w) {b : Bool} (he : WExt (flagW b w) W) : pl (rat W w) 1 = ((b.toNat : Int), rat W (flagW b w)) :=
  pl_back hw (n := 1) (by omega) (by cases b <;> decide) he

theorem rect_back {w W : Wt} (hw : WOk w) {l r t b : Int} (h : rectB l r t b = true) (he : WExt (rectW l r t b w) W) : takeRectF (rat W w) = ((l, r, t, b), (W.1, ((8 * (rectW l r t b w).1.length : Nat) : Int), 0)) := by
  have ht := tk5_back hw (rectB_fits h) he
  simp only [List.length_cons, List.length_nil] at ht
  have hd := done_back (nums_ok 5 [l, r, t, b] w hw).1 he
  unfold takeRectF
  rw [ht]
  simp only [List.getD_cons_zero, List.getD_cons_succ]
  rw [h, hd, if_neg (by simp)]
  rfl
theorem opt_back {w W : Wt} (hw : WOk w) {c : Bool} {a b da db : Int} (hf : Fits [a, b]) (hd : c = false → a = da ∧ b = db) (he : WExt (optW c [a, b] w) W) : opt2 ((c.toNat : Int), rat W w) da db = ((a, b), rat W (optW c [a, b] w)) := by
  unfold opt2 optW at *
  cases c with
  | true =>
    rw [if_pos rfl] at he ⊢
    rw [if_pos (show (((true.toNat : Nat) : Int), rat W w).1 = 1 from rfl)]
    have ht := tk5_back hw hf he
    simp only [List.length_cons, List.length_nil] at ht
    rw [ht]; rfl
  | false =>
    obtain ⟨rfl, rfl⟩ := hd rfl
    rfl
theorem or_ne {a b da db : Int} (h : (a != da || b != db) = false) : a = da ∧ b = db := by
  rw [Bool.or_eq_false_iff] at h
  exact ⟨by simpa using h.1, by simpa using h.2⟩
theorem mat_back {w W : Wt} (hw : WOk w) {a b c d x y : Int} (h : matB a b c d x y = true) (he : WExt (matW a b c d x y w) W) : takeMatF (rat W w) = ((a, b, c, d, x, y), (W.1, ((8 * (matW a b c d x y w).1.length : Nat) : Int), 0)) := by
  obtain ⟨f1, f2, f3⟩ := matB_fits h
  have hd := done_back (matW_ok a b c d x y w hw).1 he
  unfold matW at he hd ⊢
  obtain ⟨p, hp⟩ : ∃ p, p = (a != 65536 || d != 65536) := ⟨_, rfl⟩
  obtain ⟨q, hq⟩ : ∃ q, q = (b != 0 || c != 0) := ⟨_, rfl⟩
  rw [← hp, ← hq] at he hd ⊢
  obtain ⟨o1, e1, _⟩ := flagW_ok p w hw
  obtain ⟨o2, e2, _⟩ := optW_ok p [a, d] _ o1
  obtain ⟨o3, e3, _⟩ := flagW_ok q _ o2
  obtain ⟨o4, e4, _⟩ := optW_ok q [b, c] _ o3
  obtain ⟨o5, e5, _⟩ := nums_ok 5 [x, y] _ o4
  have k4 := e5.trans he
  have k3 := e4.trans k4
  have k2 := e3.trans k3
  have k1 := e2.trans k2
  have r1 := flag_back hw k1
  have r2 := opt_back (da := 65536) (db := 65536) o1 f1 (fun hc => or_ne (by rw [← hp]; exact hc)) k2
  have r3 := flag_back o2 k3
  have r4 := opt_back (da := 0) (db := 0) o3 f2 (fun hc => or_ne (by rw [← hq]; exact hc)) k4
  have r5 := tk5_back o4 f3 he
  simp only [List.length_cons, List.length_nil] at r5
  unfold takeMatF
  rw [r1, r2]
  simp only
  rw [r3, r4]
  simp only
  unfold two
  rw [r5]
  unfold finM
  simp only [List.getD_cons_zero, List.getD_cons_succ]
  rw [h, hd, if_neg (by simp)]

theorem sg4_back {W : Wt} {n : Nat} {x : I4} {w : Wt} {d : I4} (h : sgs n 4 (rat W w) = (x.l, rat W (numsW n x.l w))) : four true n d (rat W w) = (x, rat W (numsW n x.l w)) := by
  have h1 := congrArg (fun r => r.1.getD 0 0) h
  have h2 := congrArg (fun r => r.1.getD 1 0) h
  have h3 := congrArg (fun r => r.1.getD 2 0) h
  have h4 := congrArg (fun r => r.1.getD 3 0) h
  have h5 := congrArg (fun r => r.2) h
  unfold four
  rw [if_pos rfl]
  exact Prod.ext (Prod.ext h1 (Prod.ext h2 (Prod.ext h3 h4))) h5
theorem numsW_append (n : Nat) : ∀ (l k : List Int) (w : Wt), numsW n (l ++ k) w = numsW n k (numsW n l w)
  | [], _, _ => rfl
  | v :: l, k, w => by simp only [List.cons_append, numsW]; exact numsW_append n l k _
theorem full_of {m : I4} (h : fullI m = true) : m = (256, 256, 256, 256) := by
  unfold fullI at h
  simp only [Bool.and_eq_true, beq_iff_eq] at h
  obtain ⟨h1, h2, h3, h4⟩ := h
  exact Prod.ext h1 (Prod.ext h2 (Prod.ext h3 h4))
theorem zero_of {m : I4} (h : zeroI m = true) : m = (0, 0, 0, 0) := by
  unfold zeroI at h
  simp only [Bool.and_eq_true, beq_iff_eq] at h
  obtain ⟨h1, h2, h3, h4⟩ := h
  exact Prod.ext h1 (Prod.ext h2 (Prod.ext h3 h4))
theorem cxW_ok (m a : I4) (w : Wt) (hw : WOk w) : WOk (cxW m a w) ∧ WExt w (cxW m a w) := by
  obtain ⟨o1, e1, _⟩ := flagW_ok (!zeroI a) w hw
  obtain ⟨o2, e2, _⟩ := flagW_ok (!fullI m) _ o1
  obtain ⟨o3, e3, _⟩ := nums_ok 4 (cxL m a) _ o2
  exact ⟨o3, e1.trans (e2.trans e3)⟩
theorem cx_back {w W : Wt} (hw : WOk w) {m a : I4} (h : cxB m.l a.l = true) (he : WExt (cxW m a w) W) : takeCxF (rat W w) = (m, a, (W.1, ((8 * (cxW m a w).1.length : Nat) : Int), 0)) := by
  have hd := done_back (cxW_ok m a w hw).1 he
  have h11 := cx_wl h
  have hL := cx_fits h
  unfold cxW at he hd ⊢
  obtain ⟨o1, e1, _⟩ := flagW_ok (!zeroI a) w hw
  obtain ⟨o2, e2, _⟩ := flagW_ok (!fullI m) _ o1
  obtain ⟨o3, e3, _⟩ := nums_ok 4 (cxL m a) _ o2
  have k2 := e3.trans he
  have k1 := e2.trans k2
  have r1 := flag_back hw k1
  have r2 := flag_back o1 k2
  unfold takeCxF
  rw [r1]
  simp only
  rw [r2]
  simp only
  generalize flagW (!fullI m) (flagW (!zeroI a) w) = w2 at o2 o3 e3 he hd k2 ⊢
  have hwl : WL (cxL m a) < 2 ^ 4 := by show _ < 16; omega
  unfold nums at he hd ⊢
  obtain ⟨o4, e4, _⟩ := putN_ext (WL (cxL m a)) 4 w2 o2
  have hx := (numsW_ok (WL (cxL m a)) (cxL m a) _ o4).2.1
  have r3 := pl_back o2 (n := 4) (by omega) hwl (hx.trans he)
  rw [show ((4 : Nat) : Int) = 4 from rfl] at r3
  rw [r3]
  simp only
  have hge : ∀ v, v ∈ cxL m a → widthN v ≤ WL (cxL m a) := fun v hv => WL_ge hv
  have h31 : WL (cxL m a) ≤ 31 := by omega
  generalize putN (WL (cxL m a)) 4 w2 = w3 at he hd o4 ⊢
  generalize WL (cxL m a) = n at he hd hge h31 ⊢
  unfold cxOf
  have hb : ∀ b : Bool, ((b.toNat : Int) == 1) = b := fun b => by cases b <;> rfl
  rw [hb, hb]
  have key : four (!fullI m) n (256, 256, 256, 256) (rat W w3) = (m, rat W (numsW n (if fullI m = true then [] else m.l) w3)) ∧ four (!zeroI a) n (0, 0, 0, 0) (rat W (numsW n (if fullI m = true then [] else m.l) w3)) = (a, rat W (numsW n (cxL m a) w3)) := by
    have e0 : numsW n (cxL m a) w3 = numsW n (if zeroI a = true then [] else a.l) (numsW n (if fullI m = true then [] else m.l) w3) := by unfold cxL; rw [numsW_append]
    rw [e0] at he ⊢
    obtain ⟨o5, e5, _⟩ := numsW_ok n (if fullI m = true then [] else m.l) w3 o4
    obtain ⟨o6, e6, _⟩ := numsW_ok n (if zeroI a = true then [] else a.l) _ o5
    refine ⟨?_, ?_⟩
    · cases hf : fullI m with
      | true => rw [full_of hf]; rfl
      | false =>
        rw [hf] at e6 he
        simp only [Bool.false_eq_true, if_false] at e6 he ⊢
        refine sg4_back (sgs_back h31 m.l w3 o4 (fun v hv => hge v ?_) (e6.trans he))
        unfold cxL; rw [hf]; simp [hv]
    · generalize numsW n (if fullI m = true then [] else m.l) w3 = w4 at he o5 ⊢
      cases hz : zeroI a with
      | true => rw [zero_of hz]; rfl
      | false =>
        rw [hz] at he
        simp only [Bool.false_eq_true, if_false] at he ⊢
        refine sg4_back (sgs_back h31 a.l w4 o5 (fun v hv => hge v ?_) he)
        unfold cxL; rw [hz]; simp [hv]
  rw [key.1]
  simp only
  rw [key.2]
  unfold finCx
  simp only
  rw [h, hd, if_neg (by simp)]
theorem k_back {s t : List UInt8} {c : I4} (h : rgbaB c = true) : takeKF (s ++ rgbaS c ++ t) ((8 * s.length : Nat) : Int) = (c, (s ++ rgbaS c ++ t, ((8 * (s ++ rgbaS c).length : Nat) : Int), 0)) := by
  obtain ⟨h1, h2, h3, h4⟩ := rgba_range h
  have hl : (rgbaS c).length = 4 := rfl
  have e : bytesF (s ++ rgbaS c ++ t) ((8 * s.length : Nat) : Int) 4 = (rgbaS c, s ++ rgbaS c ++ t, ((8 * (s ++ rgbaS c).length : Nat) : Int), 0) := by
    unfold bytesF
    have hr : rightB (s ++ rgbaS c ++ t) ((8 * s.length : Nat) : Int) = true := rightB_iff.2 ⟨by omega, by simp; omega⟩
    rw [if_neg (ng2 hr (by omega)), if_neg (by simp [hl]; omega)]
    have e1 : ((((8 * s.length : Nat) : Int) + 7) / 8).toNat = s.length := by omega
    rw [e1, List.append_assoc, List.drop_left]
    refine Prod.ext ?_ (Prod.ext rfl (Prod.ext ?_ rfl))
    · show (rgbaS c ++ t).take 4 = rgbaS c
      rw [List.take_left' hl]
    · simp [hl]; omega
  unfold takeKF
  rw [e]
  simp only
  rw [if_neg (by simp)]
  have k : ∀ v : Int, 0 ≤ v → v ≤ 255 → ((((UInt8.ofNat v.toNat).toNat : Nat)) : Int) = v := fun v a b => by
    rw [byte_nat _ (by omega)]; omega
  refine Prod.ext (Prod.ext ?_ (Prod.ext ?_ (Prod.ext ?_ ?_))) rfl
  · exact k _ h1.1 h1.2
  · exact k _ h2.1 h2.2
  · exact k _ h3.1 h3.2
  · exact k _ h4.1 h4.2
end Go.AI
