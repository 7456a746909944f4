/- Fills and lines are read, by the program. -/
import Derived.Test.YtnbmjpdiibandaaP08c
import Derived.Test.YtnbmjpdiibandaaP07Takes
set_option linter.unusedVariables false
set_option linter.unusedSimpArgs false
set_option maxRecDepth 100000
namespace Go.AI
open Go Go.Proofs

def lit (σ : Rs) (n : Int) : Int × Rs := if σ.2.2 ≠ 0 then (0, σ) else littleF σ.1 σ.2.1 n
def col (σ : Rs) : I4 × Rs := if σ.2.2 ≠ 0 then ((0, 0, 0, 0), σ) else takeKF σ.1 σ.2.1
def mt (σ : Rs) : Mat × Rs := if σ.2.2 ≠ 0 then ((0, 0, 0, 0, 0, 0), σ) else takeMatF (beginP σ.1 σ.2.1)
def failR (σ : Rs) (e : Int) : Rs := if σ.2.2 = 0 then (σ.1, σ.2.1, e) else σ
theorem bytesF_keep (s : List UInt8) (a n : Int) : (bytesF s a n).2.1 = [] ∨ (bytesF s a n).2.1 = s := by
  rcases bytesF_cases s a n with e | e | ⟨_, _, _, _, _, _, e⟩ <;> rw [e] <;> simp
def Keeps (σ τ : Rs) : Prop := τ.1 = [] ∨ τ.1 = σ.1
theorem Keeps.refl (σ : Rs) : Keeps σ σ := .inr rfl
theorem Keeps.trans {σ τ ρ : Rs} (h : Keeps σ τ) (k : Keeps τ ρ) : Keeps σ ρ := by
  rcases k with k | k
  · exact .inl k
  · rcases h with h | h
    · exact .inl (k.trans h)
    · exact .inr (k.trans h)
theorem Keeps.len {σ τ : Rs} (k : Keeps σ τ) (h : LenOk σ) : LenOk τ := by
  unfold LenOk at *
  rcases k with k | k <;> rw [k]
  · exact Nat.zero_le _
  · exact h
theorem lit_keep (σ : Rs) (n : Int) : Keeps σ (lit σ n).2 := by
  unfold lit
  split
  · exact .refl _
  · unfold littleF
    split
    · exact .inl rfl
    · exact bytesF_keep _ _ _
theorem col_keep (σ : Rs) : Keeps σ (col σ).2 := by
  unfold col
  split
  · exact .refl _
  · unfold takeKF
    dsimp only
    split
    · exact .inl rfl
    · exact bytesF_keep _ _ _
theorem lit_len {σ : Rs} (h : LenOk σ) (n : Int) : LenOk (lit σ n).2 := (lit_keep σ n).len h
theorem col_len {σ : Rs} (h : LenOk σ) : LenOk (col σ).2 := (col_keep σ).len h
theorem fail_len {σ : Rs} (h : LenOk σ) (e : Int) : LenOk (failR σ e) := by unfold failR; split <;> exact h
theorem done_len {σ : Rs} (h : LenOk σ) (b : Bool) : LenOk (doneF σ b) := by
  unfold doneF LenOk at *
  split
  · exact Nat.zero_le _
  · split
    · exact Nat.zero_le _
    · exact h
theorem matF_len {σ : Rs} (h : LenOk σ) : LenOk (takeMatF σ).2 := by
  unfold takeMatF finM
  have a := opt2_len (pl_len h 1) 65536 65536
  have b := opt2_len (pl_len a 1) 0 0
  have d := done_len (two_len b)
  dsimp only
  split <;> exact d _
theorem mt_len {σ : Rs} (h : LenOk σ) : LenOk (mt σ).2 := by
  unfold mt
  split
  · exact h
  · exact matF_len (begin_len h _).1
theorem lit_c {σ : Rs} (h : LenOk σ) (n : Int) : cW f___celluloid_style_reader__little [.u, .i n] [(t_style_reader, [.s σ.1, .i σ.2.1, .i σ.2.2])] = some ([.i (lit σ n).1], [(t_style_reader, [.s (lit σ n).2.1, .i (lit σ n).2.2.1, .i (lit σ n).2.2.2])]) := by
  rw [w___celluloid_style_reader__little]
  unfold lit
  by_cases he : σ.2.2 = 0
  · rw [show (σ.2.2 != 0) = false by simp [he], (little_ans h σ.2.1 n).c, if_neg (by simp [he])]
    rfl
  · rw [show (σ.2.2 != 0) = true by simp [he], if_pos he]; rfl
theorem col_c {σ : Rs} (h : LenOk σ) : cW f___celluloid_style_reader__color [.u] [(t_style_reader, [.s σ.1, .i σ.2.1, .i σ.2.2])] = some ([.i (col σ).1.1, .i (col σ).1.2.1, .i (col σ).1.2.2.1, .i (col σ).1.2.2.2], [(t_style_reader, [.s (col σ).2.1, .i (col σ).2.2.1, .i (col σ).2.2.2])]) := by
  rw [w___celluloid_style_reader__color]
  unfold col
  by_cases he : σ.2.2 = 0
  · rw [show (σ.2.2 != 0) = false by simp [he], (takeK_ans h σ.2.1).c, if_neg (by simp [he])]
    rfl
  · rw [show (σ.2.2 != 0) = true by simp [he], if_pos he]; rfl
theorem mt_c {σ : Rs} (h : LenOk σ) : cW f___celluloid_style_reader__matrix [.u] [(t_style_reader, [.s σ.1, .i σ.2.1, .i σ.2.2])] = some ([.i (mt σ).1.1, .i (mt σ).1.2.1, .i (mt σ).1.2.2.1, .i (mt σ).1.2.2.2.1, .i (mt σ).1.2.2.2.2.1, .i (mt σ).1.2.2.2.2.2], [(t_style_reader, [.s (mt σ).2.1, .i (mt σ).2.2.1, .i (mt σ).2.2.2])]) := by
  rw [w___celluloid_style_reader__matrix]
  unfold mt
  by_cases he : σ.2.2 = 0
  · rw [show (σ.2.2 != 0) = false by simp [he], (takeMat_ans h σ.2.1).c, if_neg (by simp [he])]
    rfl
  · rw [show (σ.2.2 != 0) = true by simp [he], if_pos he]; rfl
theorem fail_c (σ : Rs) (e : Int) : cW f___celluloid_style_reader__fail [.u, .i e] [(t_style_reader, [.s σ.1, .i σ.2.1, .i σ.2.2])] = some ([], [(t_style_reader, [.s (failR σ e).1, .i (failR σ e).2.1, .i (failR σ e).2.2])]) := by
  rw [w___celluloid_style_reader__fail]
  unfold failR
  by_cases he : σ.2.2 = 0
  · rw [show (σ.2.2 == 0) = true by simp [he], if_pos he]; rfl
  · rw [show (σ.2.2 == 0) = false by simp [he], if_neg he]; rfl
theorem lit_pos (σ : Rs) (n : Int) : 0 ≤ (lit σ n).1 := by
  unfold lit littleF
  split
  · exact Int.le_refl _
  · split
    · exact Int.le_refl _
    · exact Int.natCast_nonneg _
theorem lit1_lt (σ : Rs) : (lit σ 1).1 < 256 := by
  unfold lit littleF
  split
  · show (0 : Int) < 256; decide
  · rw [if_neg (by decide)]
    have h := littleN_lt (bytesF σ.1 σ.2.1 1).1
    have hl : (bytesF σ.1 σ.2.1 1).1.length ≤ 1 := by
      rcases bytesF_cases σ.1 σ.2.1 1 with e | e | ⟨_, n', _, hn, _, _, e⟩ <;> rw [e]
      · exact Nat.zero_le _
      · exact Nat.zero_le _
      · simp; omega
    have : 256 ^ (bytesF σ.1 σ.2.1 1).1.length ≤ 256 ^ 1 := Nat.pow_le_pow_right (by decide) hl
    simp only
    have e1 : 256 ^ 1 = 256 := rfl
    omega
/-- a stop, stops, a fill -/
def stop1 (last : Int) (σ : Rs) : Stop × Rs :=
  let r := lit σ 1
  let c := col (bif (r.2.2.2 == 0) && decide (r.1 < last) then failR r.2 3 else r.2)
  (⟨r.1, c.1⟩, c.2)
def stopsP : Nat → Int → Rs → List Stop × Rs
  | 0, _, σ => ([], σ)
  | n + 1, last, σ => let a := stop1 last σ; let b := stopsP n a.1.ratio a.2; (a.1 :: b.1, b.2)
theorem stop1_len {last : Int} {σ : Rs} (h : LenOk σ) : LenOk (stop1 last σ).2 := by
  unfold stop1
  dsimp only
  apply col_len
  cases ((lit σ 1).2.2.2 == 0) && decide ((lit σ 1).1 < last)
  · exact lit_len h 1
  · exact fail_len (lit_len h 1) 3
theorem stopsP_len : ∀ (n : Nat) (last : Int) (σ : Rs), LenOk σ → LenOk (stopsP n last σ).2
  | 0, _, _, h => h
  | n + 1, last, σ, h => stopsP_len n _ _ (stop1_len h)
def badN (n : Int) : Bool := decide (n / 64 > 2) || (decide (n / 16 % 4 > 0) || (n % 16 == 0 || decide (n % 16 > 8)))
def gradS (σ : Rs) : Rs := bif ((lit σ 1).2.2.2 == 0) && badN (lit σ 1).1 then failR (lit σ 1).2 3 else (lit σ 1).2
def fillP (σ : Rs) : Fill × Rs :=
  let r := lit σ 1
  bif kindS r.1 then (⟨r.1, (col r.2).1, (0, 0, 0, 0, 0, 0), 0, [], 0⟩, (col r.2).2)
  else bif kindP r.1 then (⟨r.1, (0, 0, 0, 0), (mt (lit r.2 2).2).1, 0, [], (lit r.2 2).1⟩, (mt (lit r.2 2).2).2)
  else bif kindG r.1 then
    let m := mt r.2
    let n := (lit m.2 1).1
    let st := stopsP (n % 16).toNat 0 (gradS m.2)
    (⟨r.1, (0, 0, 0, 0), m.1, n / 64, st.1, 0⟩, st.2)
  else (⟨r.1, (0, 0, 0, 0), (0, 0, 0, 0, 0, 0), 0, [], 0⟩, failR r.2 3)
theorem gradS_len {σ : Rs} (h : LenOk σ) : LenOk (gradS σ) := by
  unfold gradS
  cases ((lit σ 1).2.2.2 == 0) && badN (lit σ 1).1
  · exact lit_len h 1
  · exact fail_len (lit_len h 1) 3
theorem fillP_len {σ : Rs} (h : LenOk σ) : LenOk (fillP σ).2 := by
  have h1 := lit_len h 1
  unfold fillP
  dsimp only
  cases kindS (lit σ 1).1
  · cases kindP (lit σ 1).1
    · cases kindG (lit σ 1).1
      · exact fail_len h1 3
      · exact stopsP_len _ _ _ (gradS_len (mt_len h1))
    · exact mt_len (lit_len h1 2)
  · exact col_len h1
theorem and15 {n : Int} (h0 : 0 ≤ n) (h1 : n < 256) : bitsOp .and .i64 n 15 = n % 16 := by
  have : ∀ k : Fin 256, bitsOp .and .i64 ((k.1 : Nat) : Int) 15 = ((k.1 : Nat) : Int) % 16 := by decide +kernel
  have := this ⟨n.toNat, by omega⟩
  rwa [show ((n.toNat : Nat) : Int) = n by omega] at this
theorem and48 {n : Int} (h0 : 0 ≤ n) (h1 : n < 256) : (bitsOp .and .i64 n 48 != 0) = decide (n / 16 % 4 > 0) := by
  have : ∀ k : Fin 256, (bitsOp .and .i64 ((k.1 : Nat) : Int) 48 != 0) = decide (((k.1 : Nat) : Int) / 16 % 4 > 0) := by decide +kernel
  have := this ⟨n.toNat, by omega⟩
  rwa [show ((n.toNat : Nat) : Int) = n by omega] at this
theorem div64 {n : Int} (h0 : 0 ≤ n) (h1 : n < 256) : IntKind.wrap .i64 (Int.tdiv n 64) = n / 64 := by
  rw [Int.tdiv_eq_ediv_of_nonneg h0, wrap64 (by omega) (by omega)]
theorem stops_row (l : List Stop) (s : Stop) : l.map Stop.e ++ List.set [[PV.i 0, PV.i 0, PV.i 0, PV.i 0, PV.i 0]] 0 [PV.i s.ratio, PV.i s.color.1, PV.i s.color.2.1, PV.i s.color.2.2.1, PV.i s.color.2.2.2] = (l ++ [s]).map Stop.e := by
  rw [List.map_append]; rfl
theorem step_i {i n : Nat} (h : i < n) (hn : n ≤ 1000000) : decide (((i : Nat) : Int) < ((n : Nat) : Int)) = true ∧ IntKind.wrap .i64 (((i : Nat) : Int) + 1) = (((i + 1 : Nat)) : Int) :=
  ⟨decide_eq_true (by omega), by rw [wrap64 (by omega) (by omega)]; omega⟩
theorem rdFill_loop {n : Nat} (hn : n ≤ 15) (z : List (List PV)) (a1 a2 a3 a4 a5 a6 a7 a8 a9 a10 a11 a12 a13 b1 b2 b3 b4 b5 b6 b7 b8 b9 b10 b11 b12 b13 : Int) : ∀ (j i : Nat) (pre : List Stop) (last : Int) (σ : Rs), i + j = n → pre.length = i → LenOk σ →
    rW f___celluloid_style_reader__fill [t_style_reader] at___celluloid_style_reader__fill_L1 (S___celluloid_style_reader__fill_L1 last n i σ.1 σ.2.1 σ.2.2 z a1 a2 a3 a4 a5 a6 a7 a8 a9 a10 a11 a12 a13 (pre.map Stop.e) b1 b2 b3 b4 b5 b6 b7 b8 b9 b10 b11 b12 b13) =
      some ([.i b1, .i b2, .i b3, .i b4, .i b5, .i b6, .i b7, .i b8, .i b9, .i b10, .i b11, .i b12, .l ((pre ++ (stopsP j last σ).1).map Stop.e), .i b13], [(t_style_reader, [.s (stopsP j last σ).2.1, .i (stopsP j last σ).2.2.1, .i (stopsP j last σ).2.2.2])])
  | 0, i, pre, last, σ, hi, hp, hσ => by
    obtain rfl : i = n := hi
    rw [w___celluloid_style_reader__fill_L1, decide_eq_false (by omega)]
    simp only [stopsP, List.append_nil, Bool.and_true, Bool.true_and, Bool.and_false, Bool.false_and, Bool.or_true, Bool.true_or, Bool.or_false, Bool.false_or, Bool.not_true, Bool.not_false, Option.bind_some, Option.bind_none, andB, orB, orB2, List.getD_cons_zero, List.getD_cons_succ, toB_b, toI_i, toS_s, toL_l, cond_true, cond_false, List.length_map]
  | j + 1, i, pre, last, σ, hi, hp, hσ => by
    obtain ⟨h1, h2⟩ := step_i (i := i) (n := n) (by omega) (by omega)
    have hl := lit_len hσ 1
    have ih := rdFill_loop hn z a1 a2 a3 a4 a5 a6 a7 a8 a9 a10 a11 a12 a13 b1 b2 b3 b4 b5 b6 b7 b8 b9 b10 b11 b12 b13 j (i + 1) (pre ++ [(stop1 last σ).1]) (stop1 last σ).1.ratio (stop1 last σ).2 (by omega) (by simp [hp]) (stop1_len hσ)
    rw [w___celluloid_style_reader__fill_L1]
    have hd : ∀ s : Stop, decide ((((pre.map Stop.e).length + (List.length (List.set [[PV.i 0, PV.i 0, PV.i 0, PV.i 0, PV.i 0]] 0 s.e))) + 1000) * 41 ≤ 1099511627776) = true := fun s => decide_eq_true (by simp; omega)
    simp only [h1, h2, lit_c hσ, Bool.and_true, Bool.true_and, Bool.and_false, Bool.false_and, Bool.or_true, Bool.true_or, Bool.or_false, Bool.false_or, Bool.not_true, Bool.not_false, Option.bind_some, Option.bind_none, andB, orB, orB2, List.getD_cons_zero, List.getD_cons_succ, toB_b, toI_i, toS_s, toL_l, cond_true, cond_false, List.length_map]
    cases hc : ((lit σ 1).2.2.2 == 0) with
    | true =>
      cases hc2 : decide ((lit σ 1).1 < last) with
      | true =>
        have e : stop1 last σ = (⟨(lit σ 1).1, (col (failR (lit σ 1).2 3)).1⟩, (col (failR (lit σ 1).2 3)).2) := by unfold stop1; simp only [hc, hc2, Bool.and_self, cond_true]
        rw [e] at ih
        have hd := hd ⟨(lit σ 1).1, (col (failR (lit σ 1).2 3)).1⟩
        simp only [Stop.e, List.length_map] at hd
        simp only [fail_c, col_c (fail_len hl 3), hd, Bool.and_true, Bool.true_and, Bool.and_false, Bool.false_and, Bool.or_true, Bool.true_or, Bool.or_false, Bool.false_or, Bool.not_true, Bool.not_false, Option.bind_some, Option.bind_none, andB, orB, orB2, List.getD_cons_zero, List.getD_cons_succ, toB_b, toI_i, toS_s, toL_l, cond_true, cond_false, List.length_map]
        rw [stops_row _ ⟨(lit σ 1).1, (col (failR (lit σ 1).2 3)).1⟩, ih]
        simp only [stopsP, e, List.append_assoc, List.cons_append, List.nil_append]
      | false =>
        have e : stop1 last σ = (⟨(lit σ 1).1, (col (lit σ 1).2).1⟩, (col (lit σ 1).2).2) := by unfold stop1; simp only [hc, hc2, Bool.and_false, cond_false]
        rw [e] at ih
        have hd := hd ⟨(lit σ 1).1, (col (lit σ 1).2).1⟩
        simp only [Stop.e, List.length_map] at hd
        simp only [col_c hl, hd, Bool.and_true, Bool.true_and, Bool.and_false, Bool.false_and, Bool.or_true, Bool.true_or, Bool.or_false, Bool.false_or, Bool.not_true, Bool.not_false, Option.bind_some, Option.bind_none, andB, orB, orB2, List.getD_cons_zero, List.getD_cons_succ, toB_b, toI_i, toS_s, toL_l, cond_true, cond_false, List.length_map]
        rw [stops_row _ ⟨(lit σ 1).1, (col (lit σ 1).2).1⟩, ih]
        simp only [stopsP, e, List.append_assoc, List.cons_append, List.nil_append]
    | false =>
      have e : stop1 last σ = (⟨(lit σ 1).1, (col (lit σ 1).2).1⟩, (col (lit σ 1).2).2) := by unfold stop1; simp only [hc, Bool.false_and, cond_false]
      rw [e] at ih
      have hd := hd ⟨(lit σ 1).1, (col (lit σ 1).2).1⟩
      simp only [Stop.e, List.length_map] at hd
      simp only [col_c hl, hd, Bool.and_true, Bool.true_and, Bool.and_false, Bool.false_and, Bool.or_true, Bool.true_or, Bool.or_false, Bool.false_or, Bool.not_true, Bool.not_false, Option.bind_some, Option.bind_none, andB, orB, orB2, List.getD_cons_zero, List.getD_cons_succ, toB_b, toI_i, toS_s, toL_l, cond_true, cond_false, List.length_map]
      rw [stops_row _ ⟨(lit σ 1).1, (col (lit σ 1).2).1⟩, ih]
      simp only [stopsP, e, List.append_assoc, List.cons_append, List.nil_append]
theorem pic_c (k : Int) : cW f_style_picture [.i k] [] = some ([.b (kindP k)], []) := picture_c k
theorem fillP_c {σ : Rs} (h : LenOk σ) : cW f___celluloid_style_reader__fill [.u] [(t_style_reader, [.s σ.1, .i σ.2.1, .i σ.2.2])] = some ((fillP σ).1.e, [(t_style_reader, [.s (fillP σ).2.1, .i (fillP σ).2.2.1, .i (fillP σ).2.2.2])]) := by
  have h1 := lit_len h 1
  rw [w___celluloid_style_reader__fill]
  unfold fillP
  simp only [lit_c h, Option.bind_some, Option.bind_none, andB, orB, orB2, List.getD_cons_zero, List.getD_cons_succ, toB_b, toI_i, toS_s, toL_l, cond_true, cond_false, List.length_map]
  show (bif kindS (lit σ 1).1 then _ else _) = _
  cases ks : kindS (lit σ 1).1 with
  | true => simp only [col_c h1, Fill.e, List.map_nil, Option.bind_some, Option.bind_none, andB, orB, orB2, List.getD_cons_zero, List.getD_cons_succ, toB_b, toI_i, toS_s, toL_l, cond_true, cond_false, List.length_map]
  | false =>
    simp only [pic_c, Option.bind_some, Option.bind_none, andB, orB, orB2, List.getD_cons_zero, List.getD_cons_succ, toB_b, toI_i, toS_s, toL_l, cond_true, cond_false, List.length_map]
    cases kp : kindP (lit σ 1).1 with
    | true => simp only [lit_c h1, mt_c (lit_len h1 2), Fill.e, List.map_nil, Option.bind_some, Option.bind_none, andB, orB, orB2, List.getD_cons_zero, List.getD_cons_succ, toB_b, toI_i, toS_s, toL_l, cond_true, cond_false, List.length_map]
    | false =>
      simp only [gradient_c, Option.bind_some, Option.bind_none, andB, orB, orB2, List.getD_cons_zero, List.getD_cons_succ, toB_b, toI_i, toS_s, toL_l, cond_true, cond_false, List.length_map]
      cases kg : kindG (lit σ 1).1 with
      | false => simp only [fail_c, Fill.e, List.map_nil, Option.bind_some, Option.bind_none, andB, orB, orB2, List.getD_cons_zero, List.getD_cons_succ, toB_b, toI_i, toS_s, toL_l, cond_true, cond_false, List.length_map]
      | true =>
        have h2 := mt_len h1
        have n0 := lit_pos (mt (lit σ 1).2).2 1
        have n1 := lit1_lt (mt (lit σ 1).2).2
        have hg := gradS_len h2
        have hn : ((((lit (mt (lit σ 1).2).2 1).1 % 16).toNat : Nat) : Int) = (lit (mt (lit σ 1).2).2 1).1 % 16 := by omega
        have key : ∀ b : Bool, b = (((lit (mt (lit σ 1).2).2 1).2.2.2 == 0) && badN (lit (mt (lit σ 1).2).2 1).1) → (bif b then failR (lit (mt (lit σ 1).2).2 1).2 3 else (lit (mt (lit σ 1).2).2 1).2) = gradS (mt (lit σ 1).2).2 := by rintro b rfl; rfl
        have e := rdFill_loop (n := ((lit (mt (lit σ 1).2).2 1).1 % 16).toNat) (by omega) [] 0 0 0 0 0 0 0 0 0 0 0 0 0 (lit σ 1).1 0 0 0 0 (mt (lit σ 1).2).1.1 (mt (lit σ 1).2).1.2.1 (mt (lit σ 1).2).1.2.2.1 (mt (lit σ 1).2).1.2.2.2.1 (mt (lit σ 1).2).1.2.2.2.2.1 (mt (lit σ 1).2).1.2.2.2.2.2 ((lit (mt (lit σ 1).2).2 1).1 / 64) 0 ((lit (mt (lit σ 1).2).2 1).1 % 16).toNat 0 [] 0 (gradS (mt (lit σ 1).2).2) (by omega) rfl hg
        rw [hn] at e
        simp only [mt_c h1, lit_c h2, and15 n0 n1, and48 n0 n1, div64 n0 n1, Option.bind_some, Option.bind_none, andB, orB, orB2, List.getD_cons_zero, List.getD_cons_succ, toB_b, toI_i, toS_s, toL_l, cond_true, cond_false, List.length_map]
        cases hc : ((lit (mt (lit σ 1).2).2 1).2.2.2 == 0) with
        | false =>
          have e2 := key false (by rw [hc]; rfl)
          rw [cond_false] at e2
          rw [← e2] at e ⊢
          simpa [Fill.e, toB_b] using e
        | true =>
          cases hb : badN (lit (mt (lit σ 1).2).2 1).1 with
          | false =>
            have e2 := key false (by rw [hc, hb]; rfl)
            rw [cond_false] at e2
            rw [← e2] at e ⊢
            unfold badN at hb
            simp only [hb, Option.bind_some, Option.bind_none, andB, orB, orB2, List.getD_cons_zero, List.getD_cons_succ, toB_b, toI_i, toS_s, toL_l, cond_true, cond_false, List.length_map]
            simpa [Fill.e, toB_b] using e
          | true =>
            have e2 := key true (by rw [hc, hb]; rfl)
            rw [cond_true] at e2
            rw [← e2] at e ⊢
            unfold badN at hb
            simp only [hb, fail_c, Option.bind_some, Option.bind_none, andB, orB, orB2, List.getD_cons_zero, List.getD_cons_succ, toB_b, toI_i, toS_s, toL_l, cond_true, cond_false, List.length_map]
            simpa [Fill.e, toB_b] using e
end Go.AI
