/- What is written is read back: colours, matrices, stops, fills, lines, both lists. -/
import Derived.Test.YtnbmjpdiibandaaP08h
import Derived.Test.YtnbmjpdiibandaaP08d
set_option linter.unusedVariables false
set_option linter.unusedSimpArgs false
set_option maxRecDepth 100000
namespace Go.AI
open Go Go.Proofs

/-- a reader between what stands ahead of it, and behind -/
def rdAt (s t : List UInt8) : Rs := (s ++ t, ((8 * s.length : Nat) : Int), 0)
theorem rdAt_assoc (s t u : List UInt8) : ((s ++ (t ++ u), ((8 * (s ++ t).length : Nat) : Int), 0) : Rs) = rdAt (s ++ t) u := by unfold rdAt; rw [List.append_assoc]
theorem right_at (s t : List UInt8) : rightB (s ++ t) ((8 * s.length : Nat) : Int) = true := rightB_iff.2 ⟨by omega, by simp; omega⟩
theorem bytes_back (s t u : List UInt8) : bytesF (s ++ (t ++ u)) ((8 * s.length : Nat) : Int) t.length = (t, rdAt (s ++ t) u) := by
  unfold bytesF
  rw [if_neg (ng2 (right_at s (t ++ u)) (by omega)), if_neg (by simp; omega)]
  have e1 : ((((8 * s.length : Nat) : Int) + 7) / 8).toNat = s.length := by omega
  rw [e1, List.drop_left, Int.toNat_natCast, List.take_left]
  rw [← rdAt_assoc]
  congr 3
  simp; omega
theorem lit1_back {n : Int} (h0 : 0 ≤ n) (h1 : n < 256) (s t : List UInt8) : lit (rdAt s (oneS n ++ t)) 1 = (n, rdAt (s ++ oneS n) t) := by
  have e := bytes_back s (oneS n) t
  unfold lit rdAt
  rw [if_neg (by simp)]
  unfold littleF
  rw [if_neg (by decide)]
  rw [show (1 : Int) = (((oneS n).length : Nat) : Int) from rfl, e]
  refine Prod.ext ?_ rfl
  show (((UInt8.ofNat (n % 256).toNat).toNat + 256 * 0 : Nat) : Int) = n
  rw [byte_nat _ (by omega)]; omega
theorem lit2_back {n : Int} (h0 : 0 ≤ n) (h1 : n < 65536) (s t : List UInt8) : lit (rdAt s (twoS n ++ t)) 2 = (n, rdAt (s ++ twoS n) t) := by
  have e := bytes_back s (twoS n) t
  unfold lit rdAt
  rw [if_neg (by simp)]
  unfold littleF
  rw [if_neg (by decide)]
  rw [show (2 : Int) = (((twoS n).length : Nat) : Int) from rfl, e]
  refine Prod.ext ?_ rfl
  have e1 : Int.tmod n 256 = n % 256 := Int.tmod_eq_emod_of_nonneg h0
  have e2 : IntKind.wrap .i64 (Int.tdiv n 256) = n / 256 := by rw [Int.tdiv_eq_ediv_of_nonneg h0, wrap64 (by omega) (by omega)]
  show (((UInt8.ofNat (Int.tmod n 256 % 256).toNat).toNat + 256 * ((UInt8.ofNat (IntKind.wrap .i64 (Int.tdiv n 256) % 256).toNat).toNat + 256 * 0) : Nat) : Int) = n
  rw [e1, e2, byte_nat _ (by omega), byte_nat _ (by omega)]; omega
theorem col_back {c : I4} (h : rgbaB c = true) (s t : List UInt8) : col (rdAt s (rgbaS c ++ t)) = (c, rdAt (s ++ rgbaS c) t) := by
  unfold col rdAt
  rw [if_neg (by simp)]
  have := k_back (s := s) (t := t) h
  rw [List.append_assoc] at this
  dsimp only
  rw [this, List.append_assoc]
theorem mt_back {m : Mat} (h : mB m = true) (s t : List UInt8) : mt (rdAt s (matS m ++ t)) = (m, rdAt (s ++ matS m) t) := by
  unfold mt rdAt
  rw [if_neg (by simp)]
  have hm : (matW m.1 m.2.1 m.2.2.1 m.2.2.2.1 m.2.2.2.2.1 m.2.2.2.2.2 (s, 0)).1 = s ++ matS m := mat_behind s _ _ _ _ _ _
  have he : WExt (matW m.1 m.2.1 m.2.2.1 m.2.2.2.1 m.2.2.2.2.1 m.2.2.2.2.2 (s, 0)) (s ++ (matS m ++ t), 0) := by
    have := append_ext (s ++ matS m) t (matW m.1 m.2.1 m.2.2.1 m.2.2.2.1 m.2.2.2.2.1 m.2.2.2.2.2 (s, 0)).2
    rw [List.append_assoc, ← hm] at this
    exact this
  have hb := begin_back (W := (s ++ (matS m ++ t), 0)) (s := s) (append_ext s (matS m ++ t) 0)
  dsimp only at hb ⊢
  rw [hb, mat_back (ok_zero s) h he, hm, List.append_assoc]
theorem stops_back : ∀ (l : List Stop) (last : Int), 0 ≤ last → stopsB last l = true → ∀ s t : List UInt8, stopsP l.length last (rdAt s (stopsS l ++ t)) = (l, rdAt (s ++ stopsS l) t)
  | [], last, _, _, s, t => by simp [stopsP, stopsS]
  | x :: l, last, h0, h, s, t => by
    obtain ⟨hc, hr, h1, h2⟩ := stopsB_cons h
    have e1 := lit1_back (n := x.ratio) (by omega) (by omega) s (rgbaS x.color ++ (stopsS l ++ t))
    have e2 := col_back hc (s ++ oneS x.ratio) (stopsS l ++ t)
    have e3 := stops_back l x.ratio (by omega) hr (s ++ oneS x.ratio ++ rgbaS x.color) t
    have e : stop1 last (rdAt s (stopsS (x :: l) ++ t)) = (x, rdAt (s ++ oneS x.ratio ++ rgbaS x.color) (stopsS l ++ t)) := by
      unfold stop1
      simp only [stopsS, List.append_assoc] at e1 e2 ⊢
      rw [e1]
      simp only [decide_eq_false (p := x.ratio < last) (by omega), Bool.and_false, cond_false]
      rw [e2]
    unfold stopsP
    simp only [List.length_cons]
    rw [e]
    dsimp only
    rw [e3]
    simp [stopsS]
theorem fill_back {f : Fill} (h : fillB f = true) (s t : List UInt8) : fillP (rdAt s (fillS f ++ t)) = (f, rdAt (s ++ fillS f) t) := by
  have k0 : 0 ≤ f.kind ∧ f.kind < 256 := by
    cases k : kindS f.kind with
    | true => unfold kindS at k; simp only [beq_iff_eq] at k; omega
    | false =>
      cases k' : kindP f.kind with
      | true => unfold kindP at k'; simp only [Bool.or_eq_true, beq_iff_eq] at k'; omega
      | false => have := (fillB_grad h k k').1; unfold kindG at this; simp only [Bool.or_eq_true, beq_iff_eq] at this; omega
  unfold fillP
  cases k : kindS f.kind with
  | true =>
    obtain ⟨hc, hf⟩ := fillB_solid h k
    have e0 : fillS f = oneS f.kind ++ rgbaS f.color := by unfold fillS; rw [k]; rfl
    have e1 := lit1_back k0.1 k0.2 s (rgbaS f.color ++ t)
    have e2 := col_back hc (s ++ oneS f.kind) t
    rw [e0, List.append_assoc, e1]
    dsimp only
    rw [k, cond_true, e2, List.append_assoc]
    have : (⟨f.kind, f.color, (0, 0, 0, 0, 0, 0), 0, [], 0⟩ : Fill) = f := by rw [show f.kind = 0 by rw [hf]]; exact hf.symm
    simp only [this]
  | false =>
    cases k' : kindP f.kind with
    | true =>
      obtain ⟨hm, h1, h2, hf⟩ := fillB_pic h k k'
      have e0 : fillS f = oneS f.kind ++ (twoS f.id ++ matS f.mat) := by unfold fillS; rw [k, k']; rfl
      have e1 := lit1_back k0.1 k0.2 s (twoS f.id ++ (matS f.mat ++ t))
      have e2 := lit2_back h1 h2 (s ++ oneS f.kind) (matS f.mat ++ t)
      have e3 := mt_back hm (s ++ oneS f.kind ++ twoS f.id) t
      rw [e0]
      simp only [List.append_assoc] at e1 e2 e3 ⊢
      rw [e1]
      dsimp only
      rw [k, cond_false, k', cond_true, e2]
      dsimp only
      rw [e3]
      have : (⟨f.kind, (0, 0, 0, 0), f.mat, 0, [], f.id⟩ : Fill) = f := hf.symm
      simp only [this]
    | false =>
      obtain ⟨kg, hf, hs, hm, h1, h2, h3, h4⟩ := fillB_grad h k k'
      have e0 : fillS f = oneS f.kind ++ (matS f.mat ++ (oneS (64 * f.spread + f.stops.length) ++ stopsS f.stops)) := by unfold fillS; rw [k, k']; rfl
      have e1 := lit1_back k0.1 k0.2 s (matS f.mat ++ (oneS (64 * f.spread + f.stops.length) ++ (stopsS f.stops ++ t)))
      have e2 := mt_back hm (s ++ oneS f.kind) (oneS (64 * f.spread + f.stops.length) ++ (stopsS f.stops ++ t))
      have e3 := lit1_back (n := 64 * f.spread + f.stops.length) (by omega) (by omega) (s ++ oneS f.kind ++ matS f.mat) (stopsS f.stops ++ t)
      have e4 := stops_back f.stops 0 (by omega) hs (s ++ oneS f.kind ++ matS f.mat ++ oneS (64 * f.spread + f.stops.length)) t
      have hb : badN (64 * f.spread + f.stops.length) = false := by
        unfold badN
        simp only [Bool.or_eq_false_iff, decide_eq_false_iff_not, beq_eq_false_iff_ne]
        omega
      rw [e0]
      simp only [List.append_assoc] at e1 e2 e3 e4 ⊢
      rw [e1]
      dsimp only
      rw [k, cond_false, k', cond_false, kg, cond_true, e2]
      dsimp only
      unfold gradS
      rw [e3]
      dsimp only
      rw [hb, Bool.and_false, cond_false, show ((64 * f.spread + (f.stops.length : Int)) % 16).toNat = f.stops.length by omega, show (64 * f.spread + (f.stops.length : Int)) / 64 = f.spread by omega, e4]
      have : (⟨f.kind, (0, 0, 0, 0), f.mat, f.spread, f.stops, 0⟩ : Fill) = f := hf.symm
      simp only [this]
theorem fills_back : ∀ (l : List Fill), (∀ f, f ∈ l → fillB f = true) → ∀ s t : List UInt8, fillsP l.length (rdAt s (fillsS l ++ t)) = (l, rdAt (s ++ fillsS l) t)
  | [], _, s, t => by simp [fillsP, fillsS]
  | f :: l, h, s, t => by
    have e1 := fill_back (h f (by simp)) s (fillsS l ++ t)
    have e2 := fills_back l (fun g hg => h g (by simp [hg])) (s ++ fillS f) t
    simp only [fillsS, List.length_cons, fillsP, List.append_assoc] at e1 e2 ⊢
    rw [e1]
    dsimp only
    rw [e2]
theorem strks_back : ∀ (l : List Strk), (∀ f, f ∈ l → strkB f = true) → ∀ s t : List UInt8, strksP l.length (rdAt s (strksS l ++ t)) = (l, rdAt (s ++ strksS l) t)
  | [], _, s, t => by simp [strksP, strksS]
  | f :: l, h, s, t => by
    obtain ⟨w0, w1, hc⟩ := strkB_r (h f (by simp))
    have e0 := lit2_back w0 w1 s (rgbaS f.color ++ (strksS l ++ t))
    have e1 := col_back hc (s ++ twoS f.width) (strksS l ++ t)
    have e2 := strks_back l (fun g hg => h g (by simp [hg])) (s ++ twoS f.width ++ rgbaS f.color) t
    simp only [strksS, strkS, List.length_cons, strksP, strkP, List.append_assoc] at e0 e1 e2 ⊢
    rw [e0]
    dsimp only
    rw [e1]
    dsimp only
    rw [e2]
theorem many_back {n : Nat} (h : n ≤ 15) (s t : List UInt8) : manyP (rdAt s (oneS n ++ t)) = ((n : Int), rdAt (s ++ oneS n) t) := by
  unfold manyP
  rw [lit1_back (n := (n : Int)) (by omega) (by omega)]
  rw [decide_eq_false (by show ¬ ((n : Int) > 15); omega)]; rfl
theorem lists_back {l : List Fill} {m : List Strk} (h : listsB l m = true) (s t : List UInt8) : listsP (rdAt s (listsS l m ++ t)) = (l, m, rdAt (s ++ listsS l m) t) := by
  obtain ⟨h1, h2, h3, h4⟩ := listsB_r h
  have e1 := many_back h1 s (fillsS l ++ (oneS m.length ++ (strksS m ++ t)))
  have e2 := fills_back l h3 (s ++ oneS l.length) (oneS m.length ++ (strksS m ++ t))
  have e3 := many_back h2 (s ++ oneS l.length ++ fillsS l) (strksS m ++ t)
  have e4 := strks_back m h4 (s ++ oneS l.length ++ fillsS l ++ oneS m.length) t
  unfold listsP
  simp only [listsS, List.append_assoc] at e1 e2 e3 e4 ⊢
  rw [e1]
  dsimp only
  rw [Int.toNat_natCast, e2]
  dsimp only
  rw [e3]
  dsimp only
  rw [Int.toNat_natCast, e4]
theorem takeF_back {l : List Fill} {m : List Strk} (h : listsB l m = true) (s t : List UInt8) : takeF (s ++ (listsS l m ++ t)) ((8 * s.length : Nat) : Int) = (l, m, rdAt (s ++ listsS l m) t) := by
  have e := lists_back h s t
  unfold takeF
  rw [show ((s ++ (listsS l m ++ t), ((8 * s.length : Nat) : Int), 0) : Rs) = rdAt s (listsS l m ++ t) from rfl, e]
  unfold finT
  rw [if_neg (by unfold rdAt; simp)]
end Go.AI
