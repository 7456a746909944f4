/- Lists are read, by the document. -/
import Derived.Test.YtnbmjpdiibandaaP08f
set_option linter.unusedVariables false
set_option linter.unusedSimpArgs false
set_option maxRecDepth 100000
namespace Go.AI
open Go Go.Proofs

theorem rlit_c {σ : Rs} (h : LenOk σ) (n : Int) : cW f_celluloidref08_Little [.s σ.1, .i σ.2.1, .i σ.2.2, .i n] [] = some ([.i (lit σ n).1, .s (lit σ n).2.1, .i (lit σ n).2.2.1, .i (lit σ n).2.2.2], []) := by
  rw [w_celluloidref08_Little]
  unfold lit
  by_cases he : σ.2.2 = 0
  · rw [show (σ.2.2 != 0) = false by simp [he], (rlittle_ans h σ.2.1 n).c, if_neg (by simp [he])]
    rfl
  · rw [show (σ.2.2 != 0) = true by simp [he], if_pos he]; rfl
theorem rcol_c {σ : Rs} (h : LenOk σ) : cW f_celluloidref08_Color [.s σ.1, .i σ.2.1, .i σ.2.2] [] = some ([.i (col σ).1.1, .i (col σ).1.2.1, .i (col σ).1.2.2.1, .i (col σ).1.2.2.2, .s (col σ).2.1, .i (col σ).2.2.1, .i (col σ).2.2.2], []) := by
  rw [w_celluloidref08_Color]
  unfold col
  by_cases he : σ.2.2 = 0
  · rw [show (σ.2.2 != 0) = false by simp [he], (qtakeK_ans h σ.2.1).c, if_neg (by simp [he])]
    rfl
  · rw [show (σ.2.2 != 0) = true by simp [he], if_pos he]; rfl
theorem rmt_c {σ : Rs} (h : LenOk σ) : cW f_celluloidref08_Matrix [.s σ.1, .i σ.2.1, .i σ.2.2] [] = some ([.i (mt σ).1.1, .i (mt σ).1.2.1, .i (mt σ).1.2.2.1, .i (mt σ).1.2.2.2.1, .i (mt σ).1.2.2.2.2.1, .i (mt σ).1.2.2.2.2.2, .s (mt σ).2.1, .i (mt σ).2.2.1, .i (mt σ).2.2.2], []) := by
  rw [w_celluloidref08_Matrix]
  unfold mt
  by_cases he : σ.2.2 = 0
  · rw [show (σ.2.2 != 0) = false by simp [he], (qtakeMat_ans h σ.2.1).c, if_neg (by simp [he]), mat_same]
    rfl
  · rw [show (σ.2.2 != 0) = true by simp [he], if_pos he]; rfl
theorem lit_err {σ : Rs} (h : σ.2.2 ≠ 0) (n : Int) : lit σ n = (0, σ) := by unfold lit; rw [if_pos h]
theorem col_err {σ : Rs} (h : σ.2.2 ≠ 0) : col σ = ((0, 0, 0, 0), σ) := by unfold col; rw [if_pos h]
theorem mt_err {σ : Rs} (h : σ.2.2 ≠ 0) : mt σ = ((0, 0, 0, 0, 0, 0), σ) := by unfold mt; rw [if_pos h]
theorem fail_err {σ : Rs} (h : σ.2.2 ≠ 0) (e : Int) : failR σ e = σ := by unfold failR; rw [if_neg h]
theorem lit_val {σ : Rs} {n : Int} (h : (lit σ n).1 ≠ 0) : (lit σ n).2.2.2 = 0 ∧ σ.2.2 = 0 := by
  unfold lit at *
  split at h
  · exact absurd rfl h
  · rename_i he
    rw [if_neg he]
    unfold littleF at *
    split at h
    · exact absurd rfl h
    · rename_i hn
      rw [if_neg hn]
      refine ⟨?_, by simpa using he⟩
      rcases bytesF_cases σ.1 σ.2.1 n with e | e | ⟨_, _, _, _, _, _, e⟩ <;> rw [e] at h ⊢
      · exact absurd rfl h
      · exact absurd rfl h
theorem stop1_err {last : Int} {σ : Rs} (h : σ.2.2 ≠ 0) : (stop1 last σ).2 = σ := by
  unfold stop1
  rw [lit_err h]
  have : (σ.2.2 == 0) = false := by simpa using h
  simp only [this, Bool.false_and, cond_false, col_err h]
theorem stopsP_err : ∀ (n : Nat) {last : Int} {σ : Rs}, σ.2.2 ≠ 0 → (stopsP n last σ).2 = σ
  | 0, _, _, _ => rfl
  | n + 1, last, σ, h => by
    show (stopsP n _ (stop1 last σ).2).2 = σ
    rw [stop1_err h]; exact stopsP_err n h
/-- that stop at an error -/
def stopsQ : Nat → Int → Rs → List Stop × Rs
  | 0, _, σ => ([], σ)
  | n + 1, last, σ => bif σ.2.2 == 0 then let a := stop1 last σ; let b := stopsQ n a.1.ratio a.2; (a.1 :: b.1, b.2) else ([], σ)
theorem stopsQ_eq : ∀ (n : Nat) (last : Int) (σ : Rs), (stopsQ n last σ).2 = (stopsP n last σ).2 ∧ ((stopsP n last σ).2.2.2 = 0 → stopsQ n last σ = stopsP n last σ)
  | 0, _, _ => ⟨rfl, fun _ => rfl⟩
  | n + 1, last, σ => by
    by_cases h : σ.2.2 = 0
    · obtain ⟨a, b⟩ := stopsQ_eq n (stop1 last σ).1.ratio (stop1 last σ).2
      unfold stopsQ stopsP
      rw [show (σ.2.2 == 0) = true by simpa using h]
      exact ⟨a, fun e => by rw [cond_true]; dsimp only; rw [b e]⟩
    · have e := stopsP_err (n + 1) (last := last) h
      unfold stopsQ
      rw [show (σ.2.2 == 0) = false by simpa using h, e]
      exact ⟨rfl, fun k => absurd k h⟩
theorem rdQ_loop {n : Nat} (hn : n ≤ 15) (z : List (List PV)) (a1 a2 a3 a4 a5 a6 a7 a8 a9 a10 a11 a12 a13 : Int) (o1 : List UInt8) (o2 o3 : Int) (b1 b2 b3 b4 b5 b6 b7 b8 b9 b10 b11 b12 b13 : Int) : ∀ (j i : Nat) (pre : List Stop) (last : Int) (σ : Rs), i + j = n → pre.length = i → (pre = [] → last = 0) → (∀ p x, pre = p ++ [x] → last = x.ratio) → LenOk σ →
    rW f_celluloidref08_fill [] at_celluloidref08_fill_L1 (S_celluloidref08_fill_L1 n i σ.1 σ.2.1 σ.2.2 z a1 a2 a3 a4 a5 a6 a7 a8 a9 a10 a11 a12 a13 o1 o2 o3 (pre.map Stop.e) b1 b2 b3 b4 b5 b6 b7 b8 b9 b10 b11 b12 b13) =
      some ([.i b1, .i b2, .i b3, .i b4, .i b5, .i b6, .i b7, .i b8, .i b9, .i b10, .i b11, .i b12, .l ((pre ++ (stopsQ j last σ).1).map Stop.e), .i b13, .s (stopsQ j last σ).2.1, .i (stopsQ j last σ).2.2.1, .i (stopsQ j last σ).2.2.2], [])
  | 0, i, pre, last, σ, hi, hp, hl0, hl1, hσ => by
    obtain rfl : i = n := hi
    rw [w_celluloidref08_fill_L1, decide_eq_false (by omega)]
    simp only [stopsQ, List.append_nil, Option.bind_some, Option.bind_none, andB, orB, orB2, List.getD_cons_zero, List.getD_cons_succ, toB_b, toI_i, toS_s, toL_l, cond_true, cond_false, List.length_map]
  | j + 1, i, pre, last, σ, hi, hp, hl0, hl1, hσ => by
    obtain ⟨h1, h2⟩ := step_i (i := i) (n := n) (by omega) (by omega)
    by_cases he : σ.2.2 = 0
    · have he' : (σ.2.2 == 0) = true := by simpa using he
      have hl := lit_len hσ 1
      have ih := rdQ_loop hn z a1 a2 a3 a4 a5 a6 a7 a8 a9 a10 a11 a12 a13 o1 o2 o3 b1 b2 b3 b4 b5 b6 b7 b8 b9 b10 b11 b12 b13 j (i + 1) (pre ++ [(stop1 last σ).1]) (stop1 last σ).1.ratio (stop1 last σ).2 (by omega) (by simp [hp]) (fun e => by simp at e) (fun p x e => by have := List.append_inj_right' e rfl; simp at this; rw [this]) (stop1_len hσ)
      rw [w_celluloidref08_fill_L1]
      simp only [h1, h2, he', rlit_c hσ, Bool.and_true, Bool.true_and, Bool.and_false, Bool.false_and, Bool.or_true, Bool.true_or, Bool.or_false, Bool.false_or, Bool.not_true, Bool.not_false, Option.bind_some, Option.bind_none, andB, orB, orB2, List.getD_cons_zero, List.getD_cons_succ, toB_b, toI_i, toS_s, toL_l, cond_true, cond_false, List.length_map]
      have fin : ∀ τ : Rs, stop1 last σ = (⟨(lit σ 1).1, (col τ).1⟩, (col τ).2) → LenOk τ →
        ((cW f_celluloidref08_Color [PV.s τ.1, PV.i τ.2.1, PV.i τ.2.2] []).bind fun r16 =>
          (bif (decide ((pre.length + (List.length (List.set [[PV.i 0, PV.i 0, PV.i 0, PV.i 0, PV.i 0]] 0 [PV.i (lit σ 1).1, PV.i (r16.1.getD 0 PV.u).toI, PV.i (r16.1.getD 1 PV.u).toI, PV.i (r16.1.getD 2 PV.u).toI, PV.i (r16.1.getD 3 PV.u).toI])) + 1000) * 41 ≤ 1099511627776)) then
            rW f_celluloidref08_fill [] at_celluloidref08_fill_L1 (S_celluloidref08_fill_L1 n ((i + 1 : Nat) : Int) (r16.1.getD 4 PV.u).toS (r16.1.getD 5 PV.u).toI (r16.1.getD 6 PV.u).toI z a1 a2 a3 a4 a5 a6 a7 a8 a9 a10 a11 a12 a13 o1 o2 o3 (pre.map Stop.e ++ (List.set [[PV.i 0, PV.i 0, PV.i 0, PV.i 0, PV.i 0]] 0 [PV.i (lit σ 1).1, PV.i (r16.1.getD 0 PV.u).toI, PV.i (r16.1.getD 1 PV.u).toI, PV.i (r16.1.getD 2 PV.u).toI, PV.i (r16.1.getD 3 PV.u).toI])) b1 b2 b3 b4 b5 b6 b7 b8 b9 b10 b11 b12 b13)
          else none)) = some ([.i b1, .i b2, .i b3, .i b4, .i b5, .i b6, .i b7, .i b8, .i b9, .i b10, .i b11, .i b12, .l ((pre ++ (stopsQ (j + 1) last σ).1).map Stop.e), .i b13, .s (stopsQ (j + 1) last σ).2.1, .i (stopsQ (j + 1) last σ).2.2.1, .i (stopsQ (j + 1) last σ).2.2.2], []) := by
        intro τ e hτ
        rw [e] at ih
        simp only [rcol_c hτ, Option.bind_some, Option.bind_none, andB, orB, orB2, List.getD_cons_zero, List.getD_cons_succ, toB_b, toI_i, toS_s, toL_l, cond_true, cond_false, List.length_map]
        rw [room1 _ _ (by omega), cond_true, stops_row _ ⟨(lit σ 1).1, (col τ).1⟩]
        refine ih.trans ?_
        simp only [stopsQ, he', e, List.append_assoc, List.cons_append, List.nil_append, cond_true]
      cases hc : ((lit σ 1).2.2.2 == 0) with
      | false =>
        simp only [Bool.and_true, Bool.true_and, Bool.and_false, Bool.false_and, Bool.or_true, Bool.true_or, Bool.or_false, Bool.false_or, Bool.not_true, Bool.not_false, Option.bind_some, Option.bind_none, andB, orB, orB2, List.getD_cons_zero, List.getD_cons_succ, toB_b, toI_i, toS_s, toL_l, cond_true, cond_false, List.length_map]
        exact fin (lit σ 1).2 (by unfold stop1; simp only [hc, Bool.false_and, cond_false]) hl
      | true =>
        have hce : (lit σ 1).2.2.2 = 0 := by simpa using hc
        rcases List.eq_nil_or_concat pre with rfl | ⟨p, y, rfl⟩
        · obtain rfl : i = 0 := hp.symm
          obtain rfl := hl0 rfl
          rw [show decide (((0 : Nat) : Int) > 0) = false by simp]
          simp only [Bool.and_true, Bool.true_and, Bool.and_false, Bool.false_and, Bool.or_true, Bool.true_or, Bool.or_false, Bool.false_or, Bool.not_true, Bool.not_false, Option.bind_some, Option.bind_none, andB, orB, orB2, List.getD_cons_zero, List.getD_cons_succ, toB_b, toI_i, toS_s, toL_l, cond_true, cond_false, List.length_map]
          refine fin (lit σ 1).2 ?_ hl
          unfold stop1
          dsimp only
          rw [decide_eq_false (p := (lit σ 1).1 < 0) (by have := lit_pos σ 1; omega)]
          simp only [Bool.and_false, cond_false]
        · obtain rfl := hl1 p y (by simp)
          rw [List.concat_eq_append] at *
          have hw : IntKind.wrap .i64 (((i : Nat) : Int) - 1) = ((p.length : Nat) : Int) := by
            simp only [List.length_append, List.length_cons, List.length_nil] at hp
            rw [wrap64 (by omega) (by omega)]; omega
          have hb : inB ((p.length : Nat) : Int) (p ++ [y]).length = true := by unfold inB; simp; omega
          have ha : elemAt ((p ++ [y]).map Stop.e) ((p.length : Nat) : Int) = y.e := el_at Stop.e rfl
          rw [show decide (((i : Nat) : Int) > 0) = true by simp at hp ⊢; omega]
          simp only [hw, hb, ha, Stop.e, Bool.and_true, Bool.true_and, Bool.and_false, Bool.false_and, Bool.or_true, Bool.true_or, Bool.or_false, Bool.false_or, Bool.not_true, Bool.not_false, Option.bind_some, Option.bind_none, andB, orB, orB2, List.getD_cons_zero, List.getD_cons_succ, toB_b, toI_i, toS_s, toL_l, cond_true, cond_false, List.length_map]
          cases hc2 : decide ((lit σ 1).1 < y.ratio) with
          | true =>
            have e : failR (lit σ 1).2 3 = ((lit σ 1).2.1, (lit σ 1).2.2.1, 3) := by unfold failR; rw [if_pos hce]
            have := fin (failR (lit σ 1).2 3) (by unfold stop1; simp only [hc, hc2, Bool.and_self, cond_true]) (fail_len hl 3)
            rw [e] at this
            exact this
          | false => exact fin (lit σ 1).2 (by unfold stop1; simp only [hc2, Bool.and_false, cond_false]) hl
    · have he' : (σ.2.2 == 0) = false := by simpa using he
      rw [w_celluloidref08_fill_L1]
      simp only [h1, he', stopsQ, List.append_nil, Bool.and_true, Bool.true_and, Bool.and_false, Bool.false_and, Bool.or_true, Bool.true_or, Bool.or_false, Bool.false_or, Bool.not_true, Bool.not_false, Option.bind_some, Option.bind_none, andB, orB, orB2, List.getD_cons_zero, List.getD_cons_succ, toB_b, toI_i, toS_s, toL_l, cond_true, cond_false, List.length_map]
def fillQ (σ : Rs) : Fill × Rs :=
  let r := lit σ 1
  bif kindS r.1 then (⟨r.1, (col r.2).1, (0, 0, 0, 0, 0, 0), 0, [], 0⟩, (col r.2).2)
  else bif kindP r.1 then (⟨r.1, (0, 0, 0, 0), (mt (lit r.2 2).2).1, 0, [], (lit r.2 2).1⟩, (mt (lit r.2 2).2).2)
  else bif kindG r.1 then
    let m := mt r.2
    let n := (lit m.2 1).1
    let st := stopsQ (n % 16).toNat 0 (gradS m.2)
    (⟨r.1, (0, 0, 0, 0), m.1, n / 64, st.1, 0⟩, st.2)
  else (⟨r.1, (0, 0, 0, 0), (0, 0, 0, 0, 0, 0), 0, [], 0⟩, failR r.2 3)
theorem fillQ_eq (σ : Rs) : (fillQ σ).2 = (fillP σ).2 ∧ ((fillP σ).2.2.2 = 0 → fillQ σ = fillP σ) := by
  unfold fillQ fillP
  dsimp only
  cases kindS (lit σ 1).1
  · cases kindP (lit σ 1).1
    · cases kindG (lit σ 1).1
      · exact ⟨rfl, fun _ => rfl⟩
      · obtain ⟨a, b⟩ := stopsQ_eq ((lit (mt (lit σ 1).2).2 1).1 % 16).toNat 0 (gradS (mt (lit σ 1).2).2)
        simp only [cond_false, cond_true]
        exact ⟨a, fun e => by rw [b e]⟩
    · exact ⟨rfl, fun _ => rfl⟩
  · exact ⟨rfl, fun _ => rfl⟩
theorem fillP_err {σ : Rs} (h : σ.2.2 ≠ 0) : (fillP σ).2 = σ := by
  unfold fillP
  rw [lit_err h]
  dsimp only
  rw [show kindS 0 = true from rfl, cond_true, col_err h]
theorem tmodE {n : Int} (h : 0 ≤ n) (m : Int) : Int.tmod n m = n % m := Int.tmod_eq_emod_of_nonneg h
theorem badQ {n : Int} (h0 : 0 ≤ n) (h1 : n < 256) : (decide (IntKind.wrap .i64 (Int.tdiv n 64) > 2) || (decide (Int.tmod (IntKind.wrap .i64 (Int.tdiv n 16)) 4 > 0) || (Int.tmod n 16 == 0 || decide (Int.tmod n 16 > 8)))) = badN n := by
  have e : IntKind.wrap .i64 (Int.tdiv n 16) = n / 16 := by rw [Int.tdiv_eq_ediv_of_nonneg h0, wrap64 (by omega) (by omega)]
  rw [div64 h0 h1, e, tmodE (by omega), tmodE h0]; rfl
theorem rfill_c {σ : Rs} (h : LenOk σ) : cW f_celluloidref08_fill [.s σ.1, .i σ.2.1, .i σ.2.2] [] = some ((fillQ σ).1.e ++ [.s (fillQ σ).2.1, .i (fillQ σ).2.2.1, .i (fillQ σ).2.2.2], []) := by
  have h1 := lit_len h 1
  rw [w_celluloidref08_fill]
  unfold fillQ
  simp only [rlit_c h, Option.bind_some, Option.bind_none, andB, orB, orB2, List.getD_cons_zero, List.getD_cons_succ, toB_b, toI_i, toS_s, toL_l, cond_true, cond_false, List.length_map]
  show (bif kindS (lit σ 1).1 then _ else _) = _
  cases ks : kindS (lit σ 1).1 with
  | true => simp only [rcol_c h1, Fill.e, List.map_nil, List.cons_append, List.nil_append, Option.bind_some, Option.bind_none, andB, orB, orB2, List.getD_cons_zero, List.getD_cons_succ, toB_b, toI_i, toS_s, toL_l, cond_true, cond_false, List.length_map]
  | false =>
    simp only [cond_false]
    have grad : kindG (lit σ 1).1 = true → ∀ b : Bool, b = badN (lit (mt (lit σ 1).2).2 1).1 →
        ((bif (lit (mt (lit σ 1).2).2 1).2.2.2 == 0 then some [PV.b b] else some [PV.b false]).bind fun r9 =>
          (bif (r9.getD 0 PV.u).toB then rW f_celluloidref08_fill [] at_celluloidref08_fill_L1 (S_celluloidref08_fill_L1 (Int.tmod (lit (mt (lit σ 1).2).2 1).1 16) 0 (lit (mt (lit σ 1).2).2 1).2.1 (lit (mt (lit σ 1).2).2 1).2.2.1 3 [] 0 0 0 0 0 0 0 0 0 0 0 0 0 [] 0 0 [] (lit σ 1).1 0 0 0 0 (mt (lit σ 1).2).1.1 (mt (lit σ 1).2).1.2.1 (mt (lit σ 1).2).1.2.2.1 (mt (lit σ 1).2).1.2.2.2.1 (mt (lit σ 1).2).1.2.2.2.2.1 (mt (lit σ 1).2).1.2.2.2.2.2 (IntKind.wrap .i64 (Int.tdiv (lit (mt (lit σ 1).2).2 1).1 64)) 0)
          else rW f_celluloidref08_fill [] at_celluloidref08_fill_L1 (S_celluloidref08_fill_L1 (Int.tmod (lit (mt (lit σ 1).2).2 1).1 16) 0 (lit (mt (lit σ 1).2).2 1).2.1 (lit (mt (lit σ 1).2).2 1).2.2.1 (lit (mt (lit σ 1).2).2 1).2.2.2 [] 0 0 0 0 0 0 0 0 0 0 0 0 0 [] 0 0 [] (lit σ 1).1 0 0 0 0 (mt (lit σ 1).2).1.1 (mt (lit σ 1).2).1.2.1 (mt (lit σ 1).2).1.2.2.1 (mt (lit σ 1).2).1.2.2.2.1 (mt (lit σ 1).2).1.2.2.2.2.1 (mt (lit σ 1).2).1.2.2.2.2.2 (IntKind.wrap .i64 (Int.tdiv (lit (mt (lit σ 1).2).2 1).1 64)) 0))) =
        some ((⟨(lit σ 1).1, (0, 0, 0, 0), (mt (lit σ 1).2).1, (lit (mt (lit σ 1).2).2 1).1 / 64, (stopsQ ((lit (mt (lit σ 1).2).2 1).1 % 16).toNat 0 (gradS (mt (lit σ 1).2).2)).1, 0⟩ : Fill).e ++ [.s (stopsQ ((lit (mt (lit σ 1).2).2 1).1 % 16).toNat 0 (gradS (mt (lit σ 1).2).2)).2.1, .i (stopsQ ((lit (mt (lit σ 1).2).2 1).1 % 16).toNat 0 (gradS (mt (lit σ 1).2).2)).2.2.1, .i (stopsQ ((lit (mt (lit σ 1).2).2 1).1 % 16).toNat 0 (gradS (mt (lit σ 1).2).2)).2.2.2], []) := by
      rintro kg b hb
      have h2 := mt_len h1
      have n0 := lit_pos (mt (lit σ 1).2).2 1
      have n1 := lit1_lt (mt (lit σ 1).2).2
      have hg := gradS_len h2
      have hn : ((((lit (mt (lit σ 1).2).2 1).1 % 16).toNat : Nat) : Int) = (lit (mt (lit σ 1).2).2 1).1 % 16 := by omega
      have e := rdQ_loop (n := ((lit (mt (lit σ 1).2).2 1).1 % 16).toNat) (by omega) [] 0 0 0 0 0 0 0 0 0 0 0 0 0 [] 0 0 (lit σ 1).1 0 0 0 0 (mt (lit σ 1).2).1.1 (mt (lit σ 1).2).1.2.1 (mt (lit σ 1).2).1.2.2.1 (mt (lit σ 1).2).1.2.2.2.1 (mt (lit σ 1).2).1.2.2.2.2.1 (mt (lit σ 1).2).1.2.2.2.2.2 ((lit (mt (lit σ 1).2).2 1).1 / 64) 0 ((lit (mt (lit σ 1).2).2 1).1 % 16).toNat 0 [] 0 (gradS (mt (lit σ 1).2).2) (by omega) rfl (fun _ => rfl) (fun p x e => by simp at e) hg
      rw [hn] at e
      rw [tmodE n0, div64 n0 n1]
      have hgd : gradS (mt (lit σ 1).2).2 = (bif ((lit (mt (lit σ 1).2).2 1).2.2.2 == 0) && b then failR (lit (mt (lit σ 1).2).2 1).2 3 else (lit (mt (lit σ 1).2).2 1).2) := by rw [hb]; rfl
      rw [hgd] at e ⊢
      cases hc : ((lit (mt (lit σ 1).2).2 1).2.2.2 == 0) with
      | false =>
        rw [hc] at e
        simp only [Bool.false_and, cond_false] at e ⊢
        simpa [Fill.e, toB_b] using e
      | true =>
        have hce : (lit (mt (lit σ 1).2).2 1).2.2.2 = 0 := by simpa using hc
        cases b with
        | false =>
          rw [hc] at e
          simp only [Bool.and_false, cond_false, cond_true] at e ⊢
          simpa [Fill.e, toB_b] using e
        | true =>
          have e3 : failR (lit (mt (lit σ 1).2).2 1).2 3 = ((lit (mt (lit σ 1).2).2 1).2.1, (lit (mt (lit σ 1).2).2 1).2.2.1, 3) := by unfold failR; rw [if_pos hce]
          rw [hc, e3] at e
          rw [e3]
          simp only [Bool.and_self, cond_true] at e ⊢
          simpa [Fill.e, toB_b] using e
    cases kp : kindP (lit σ 1).1 with
    | true =>
      have k0 : (lit σ 1).1 = 64 ∨ (lit σ 1).1 = 65 := by unfold kindP at kp; simpa using kp
      rcases k0 with k0 | k0
      · rw [show ((lit σ 1).1 == 64) = true by rw [k0]; rfl]
        simp only [rlit_c h1, rmt_c (lit_len h1 2), Fill.e, List.map_nil, List.cons_append, List.nil_append, Option.bind_some, Option.bind_none, andB, orB, orB2, List.getD_cons_zero, List.getD_cons_succ, toB_b, toI_i, toS_s, toL_l, cond_true, cond_false, List.length_map]
      · rw [show ((lit σ 1).1 == 64) = false by rw [k0]; rfl, show ((lit σ 1).1 == 65) = true by rw [k0]; rfl]
        simp only [rlit_c h1, rmt_c (lit_len h1 2), Fill.e, List.map_nil, List.cons_append, List.nil_append, Option.bind_some, Option.bind_none, andB, orB, orB2, List.getD_cons_zero, List.getD_cons_succ, toB_b, toI_i, toS_s, toL_l, cond_true, cond_false, List.length_map]
    | false =>
      have k1 : ((lit σ 1).1 == 64) = false ∧ ((lit σ 1).1 == 65) = false := by unfold kindP at kp; simpa using kp
      rw [k1.1, k1.2]
      simp only [cond_false]
      have n0 := lit_pos (mt (lit σ 1).2).2 1
      have n1 := lit1_lt (mt (lit σ 1).2).2
      cases kg : kindG (lit σ 1).1 with
      | true =>
        have g := grad kg _ (badQ n0 n1)
        simp only [Fill.e, List.cons_append, List.nil_append, Option.bind_some, Option.bind_none, andB, orB, orB2, List.getD_cons_zero, List.getD_cons_succ, toB_b, toI_i, toS_s, toL_l, cond_true, cond_false, List.length_map] at g
        have k0 : (lit σ 1).1 = 16 ∨ (lit σ 1).1 = 18 := by unfold kindG at kg; simpa using kg
        rcases k0 with k0 | k0
        · rw [show ((lit σ 1).1 == 16) = true by rw [k0]; rfl]
          simp only [rmt_c h1, rlit_c (mt_len h1), Fill.e, List.cons_append, List.nil_append, Option.bind_some, Option.bind_none, andB, orB, orB2, List.getD_cons_zero, List.getD_cons_succ, toB_b, toI_i, toS_s, toL_l, cond_true, cond_false, List.length_map]
          exact g
        · rw [show ((lit σ 1).1 == 16) = false by rw [k0]; rfl, show ((lit σ 1).1 == 18) = true by rw [k0]; rfl]
          simp only [rmt_c h1, rlit_c (mt_len h1), Fill.e, List.cons_append, List.nil_append, Option.bind_some, Option.bind_none, andB, orB, orB2, List.getD_cons_zero, List.getD_cons_succ, toB_b, toI_i, toS_s, toL_l, cond_true, cond_false, List.length_map]
          exact g
      | false =>
        have k2 : ((lit σ 1).1 == 16) = false ∧ ((lit σ 1).1 == 18) = false := by unfold kindG at kg; simpa using kg
        have hz : (lit σ 1).1 ≠ 0 := by unfold kindS at ks; simpa using ks
        rw [k2.1, k2.2]
        simp only [cond_false, Fill.e, List.map_nil, List.cons_append, List.nil_append]
        unfold failR
        rw [if_pos (lit_val hz).1]
end Go.AI
