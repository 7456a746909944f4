/- Fills and lines are written. -/
import Derived.Test.YtnbmjpdiibandaaP08b
import Derived.Test.YtnbmjpdiibandaaP02h
set_option linter.unusedVariables false
set_option linter.unusedSimpArgs false
set_option maxRecDepth 100000
namespace Go.AI
open Go Go.Proofs

def oneS (n : Int) : List UInt8 := [UInt8.ofNat (n % 256).toNat]
def twoS (n : Int) : List UInt8 := [UInt8.ofNat (Int.tmod n 256 % 256).toNat, UInt8.ofNat (IntKind.wrap .i64 (Int.tdiv n 256) % 256).toNat]
theorem toBytes_oneS (n : Int) : toBytes (List.set [[PV.i 0]] 0 [PV.i (IntKind.wrap .u8 n)]) = oneS n := by
  rw [wrapU8]; rfl
theorem one_c (n : Int) : cW f_celluloidref08_one [.i n] [] = some ([.s (oneS n)], []) := by
  rw [w_celluloidref08_one, toBytes_oneS]
theorem two_c (n : Int) : cW f_celluloidref08_two [.i n] [] = some ([.s (twoS n)], []) := by
  rw [w_celluloidref08_two, wrapU8, wrapU8]; rfl
theorem byteOf_c {s : List UInt8} (hs : s.length ≤ 500000000) (f n : Int) : cW f_style_byteOf [.s s, .i f, .i n] [] = some ([.s (s ++ oneS n), .i 0], []) := by
  rw [w_style_byteOf, toBytes_oneS, (putBytes_ans (t := oneS n) (by show _ + 1 ≤ _; omega) f).c]
  rfl
theorem littleB_two {n : Int} (h0 : 0 ≤ n) (h1 : n < 65536) : littleB n.toNat 2 = twoS n := by
  obtain ⟨k, rfl⟩ := Int.eq_ofNat_of_zero_le h0
  have e1 : (k : Int).tmod 256 = ((k % 256 : Nat) : Int) := rfl
  have e2 : (k : Int).tdiv 256 = ((k / 256 : Nat) : Int) := rfl
  unfold twoS
  rw [e1, e2, wrap64 (by omega) (by omega)]
  show [UInt8.ofNat (k / 256 ^ 0 % 256), UInt8.ofNat (k / 256 ^ 1 % 256)] = _
  have a : ((k % 256 : Nat) : Int) % 256 = ((k % 256 : Nat) : Int) := by omega
  have b : ((k / 256 : Nat) : Int) % 256 = ((k / 256 % 256 : Nat) : Int) := by omega
  rw [a, b, Int.toNat_natCast, Int.toNat_natCast, Nat.pow_zero, Nat.div_one, Nat.pow_one]
theorem putLittle2_c {s : List UInt8} (hs : s.length ≤ 500000000) (f : Int) {n : Int} (h0 : 0 ≤ n) (h1 : n < 65536) : cW f_bits_PutLittle [.s s, .i f, .i n, .i 2] [] = some ([.s (s ++ twoS n), .i 0, .i 0], []) := by
  rw [(putLittle_ans hs f n 2 (by omega)).c]
  unfold putLittleF encW
  rw [if_neg (by show ¬ (_ ∨ _); simp; omega)]
  simp only
  rw [show ((2 : Int).toNat) = 2 from rfl, littleB_two h0 h1]
def matS (m : Mat) : List UInt8 := (matW m.1 m.2.1 m.2.2.1 m.2.2.2.1 m.2.2.2.2.1 m.2.2.2.2.2 ([], 0)).1
theorem putMatF_ok {s : List UInt8} {m : Mat} (h : mB m = true) : putMatF s m.1 m.2.1 m.2.2.1 m.2.2.2.1 m.2.2.2.2.1 m.2.2.2.2.2 = (s ++ matS m, 0, 0) := by
  unfold putMatF
  unfold mB at h
  rw [if_pos h, mat_behind]; rfl
theorem putMat_c {s : List UInt8} (hs : s.length ≤ 450000000) (f : Int) {m : Mat} (h : mB m = true) : cW f_field_PutMatrix [.s s, .i f, .i m.1, .i m.2.1, .i m.2.2.1, .i m.2.2.2.1, .i m.2.2.2.2.1, .i m.2.2.2.2.2] [] = some ([.s (s ++ matS m), .i 0, .i 0], []) := by
  rw [(putMat_ans hs f _ _ _ _ _ _).c, putMatF_ok h]; rfl
theorem qPutMat_c {s : List UInt8} (hs : s.length ≤ 450000000) {m : Mat} (h : mB m = true) : cW f_celluloidref07_PutMatrix [.s s, .i m.1, .i m.2.1, .i m.2.2.1, .i m.2.2.2.1, .i m.2.2.2.2.1, .i m.2.2.2.2.2] [] = some ([.s (s ++ matS m)], []) := by
  have h' := h
  unfold mB at h'
  rw [(qPutMat_ans hs h').c, putMatF_ok h]
theorem putK_c {s : List UInt8} (hs : s.length ≤ 450000000) (f : Int) {c : I4} (h : rgbaB c = true) : cW f_field_PutRGBA [.s s, .i f, .i c.1, .i c.2.1, .i c.2.2.1, .i c.2.2.2] [] = some ([.s (s ++ rgbaS c), .i 0, .i 0], []) := by
  rw [(putK_ans hs f c).c]; unfold putKF; rw [if_pos h]; rfl
theorem qPutK_c {s : List UInt8} (hs : s.length ≤ 450000000) {c : I4} (h : rgbaB c = true) : cW f_celluloidref07_PutRGBA [.s s, .i c.1, .i c.2.1, .i c.2.2.1, .i c.2.2.2] [] = some ([.s (s ++ rgbaS c)], []) := by
  rw [(qPutK_ans hs h).c]; unfold putKF; rw [if_pos h]
theorem matS_len {m : Mat} (h : mB m = true) : (matS m).length ≤ 400 := by
  unfold mB at h
  obtain ⟨f1, f2, f3⟩ := matB_fits h
  have w1 := f1.wl; have w2 := f2.wl; have w3 := f3.wl
  unfold matS matW
  generalize (m.1 != 65536 || m.2.2.2.1 != 65536) = p
  generalize (m.2.1 != 0 || m.2.2.1 != 0) = q
  obtain ⟨o1, _, _, l1⟩ := flagW_ok p ([], 0) (ok_zero [])
  obtain ⟨o2, _, _, l2⟩ := optW_ok p [m.1, m.2.2.2.1] _ o1
  obtain ⟨o3, _, _, l3⟩ := flagW_ok q _ o2
  obtain ⟨o4, _, _, l4⟩ := optW_ok q [m.2.1, m.2.2.1] _ o3
  obtain ⟨o5, _, _, l5⟩ := nums_ok 5 [m.2.2.2.2.1, m.2.2.2.2.2] _ o4
  simp only [List.length_cons, List.length_nil] at l1 l2 l3 l4 l5
  show (nums 5 _ _).1.length ≤ _
  omega
def stopsS : List Stop → List UInt8
  | [] => []
  | s :: r => oneS s.ratio ++ (rgbaS s.color ++ stopsS r)
def fillS (f : Fill) : List UInt8 := oneS f.kind ++ (bif kindS f.kind then rgbaS f.color else bif kindP f.kind then twoS f.id ++ matS f.mat else matS f.mat ++ (oneS (64 * f.spread + f.stops.length) ++ stopsS f.stops))
def fillsS : List Fill → List UInt8
  | [] => []
  | f :: r => fillS f ++ fillsS r
def strkS (s : Strk) : List UInt8 := twoS s.width ++ rgbaS s.color
def strksS : List Strk → List UInt8
  | [] => []
  | f :: r => strkS f ++ strksS r
def listsS (l : List Fill) (m : List Strk) : List UInt8 := oneS l.length ++ (fillsS l ++ (oneS m.length ++ strksS m))
theorem stopsS_len : ∀ l : List Stop, (stopsS l).length = 5 * l.length
  | [] => rfl
  | s :: r => by simp only [stopsS, List.length_append, stopsS_len r, List.length_cons]; show 1 + (4 + _) = _; omega
theorem stopsB_cons {s : Stop} {r : List Stop} {last : Int} (h : stopsB last (s :: r) = true) : rgbaB s.color = true ∧ stopsB s.ratio r = true ∧ s.ratio ≥ last ∧ s.ratio ≤ 255 := by
  unfold stopsB stopB at h
  simp only [Bool.and_eq_true, decide_eq_true_eq] at h
  exact ⟨h.1.2.2, h.2, h.1.1, h.1.2.1⟩
/-- what is right of a kind -/
theorem fillB_solid {f : Fill} (h : fillB f = true) (k : kindS f.kind = true) : rgbaB f.color = true ∧ f = ⟨0, f.color, (0, 0, 0, 0, 0, 0), 0, [], 0⟩ := by
  unfold fillB at h; rw [k, cond_true] at h
  simpa using h
theorem fillB_pic {f : Fill} (h : fillB f = true) (k : kindS f.kind = false) (k' : kindP f.kind = true) : mB f.mat = true ∧ 0 ≤ f.id ∧ f.id < 65536 ∧ f = ⟨f.kind, (0, 0, 0, 0), f.mat, 0, [], f.id⟩ := by
  unfold fillB at h; rw [k, cond_false, k', cond_true] at h
  simpa using h
theorem fillB_grad {f : Fill} (h : fillB f = true) (k : kindS f.kind = false) (k' : kindP f.kind = false) : kindG f.kind = true ∧ f = ⟨f.kind, (0, 0, 0, 0), f.mat, f.spread, f.stops, 0⟩ ∧ stopsB 0 f.stops = true ∧ mB f.mat = true ∧ 0 ≤ f.spread ∧ f.spread ≤ 2 ∧ 1 ≤ f.stops.length ∧ f.stops.length ≤ 8 := by
  unfold fillB at h; rw [k, cond_false, k', cond_false] at h
  cases hg : (kindG f.kind && decide (f = ⟨f.kind, (0, 0, 0, 0), f.mat, f.spread, f.stops, 0⟩)) with
  | false => rw [hg] at h; cases h
  | true =>
    rw [hg, cond_true] at h
    simp only [Bool.and_eq_true, decide_eq_true_eq] at hg h
    obtain ⟨h1, h2⟩ := h
    unfold gradB at h2
    simp only [Bool.and_eq_true, decide_eq_true_eq] at h2
    exact ⟨hg.1, hg.2, h1, h2.1, h2.2.1, h2.2.2.1, by omega, by omega⟩
theorem fillS_len {f : Fill} (h : fillB f = true) : (fillS f).length ≤ 450 := by
  unfold fillS
  cases k : kindS f.kind with
  | true => simp only [cond_true, List.length_append]; show 1 + 4 ≤ _; omega
  | false =>
    cases k' : kindP f.kind with
    | true =>
      have := matS_len (fillB_pic h k k').1
      simp only [cond_true, cond_false, List.length_append]; show 1 + (2 + _) ≤ _; omega
    | false =>
      obtain ⟨_, _, _, hm, _, _, _, h8⟩ := fillB_grad h k k'
      have := matS_len hm
      simp only [cond_false, List.length_append, stopsS_len]; show 1 + (_ + (1 + _)) ≤ _; omega
theorem put_loop {l : List Stop} (hl : l.length ≤ 8) (o1 : List UInt8) (o2 : Int) : ∀ (rest pre : List Stop) (s : List UInt8) (last : Int), l = pre ++ rest → stopsB last rest = true → s.length + 5 * rest.length ≤ 440000000 →
    rW f_style_put [] at_style_put_L1 (S_style_put_L1 (l.map Stop.e) l.length pre.length s 0 o1 o2) = some ([.s (s ++ stopsS rest), .i 0], [])
  | [], pre, s, last, h, hb, hs => by
    rw [w_style_put_L1]
    simp only [el_end h, stopsS, List.append_nil, Option.bind_some, Option.bind_none, andB, orB, orB2, List.getD_cons_zero, List.getD_cons_succ, toB_b, toI_i, toS_s, toL_l, cond_true, cond_false, List.length_map]
  | x :: rest, pre, s, last, h, hb, hs => by
    obtain ⟨h1, h2, h3, h4, h5⟩ := el_step Stop.e h (Nat.le_trans hl (by decide))
    obtain ⟨hc, hr, _, _⟩ := stopsB_cons hb
    simp only [List.length_cons] at hs
    have e := putK_c (s := s ++ oneS x.ratio) (by simp [oneS]; omega) 0 hc
    rw [w_style_put_L1]
    simp only [h1, h2, h3, h4, Stop.e, byteOf_c (s := s) (by omega), e, Option.bind_some, Option.bind_none, andB, orB, orB2, List.getD_cons_zero, List.getD_cons_succ, toB_b, toI_i, toS_s, toL_l, cond_true, cond_false, List.length_map]
    have := put_loop hl o1 o2 rest _ (s ++ oneS x.ratio ++ rgbaS x.color) x.ratio h5 hr (by simp [oneS, rgbaS]; omega)
    simpa [stopsS] using this
theorem put_c {f : Fill} (h : fillB f = true) {s : List UInt8} (hs : s.length ≤ 430000000) (fr : Int) : cW f_style_put ([.s s, .i fr] ++ f.e) [] = some ([.s (s ++ fillS f), .i 0], []) := by
  simp only [Fill.e, List.cons_append, List.nil_append]
  rw [w_style_put]
  have hs1 : (s ++ oneS f.kind).length ≤ 430000001 := by simp [oneS]; omega
  simp only [byteOf_c (s := s) (by omega), picture_c, Option.bind_some, Option.bind_none, andB, orB, orB2, List.getD_cons_zero, List.getD_cons_succ, toB_b, toI_i, toS_s, toL_l, cond_true, cond_false, List.length_map]
  unfold fillS
  show (bif kindS f.kind then _ else _) = _
  cases k : kindS f.kind with
  | true =>
    rw [cond_true, cond_true, putK_c (by omega) 0 (fillB_solid h k).1]
    simp [toS_s, toI_i]
  | false =>
    cases k' : kindP f.kind with
    | true =>
      obtain ⟨hm, h0, h1, _⟩ := fillB_pic h k k'
      have e := putMat_c (s := s ++ oneS f.kind ++ twoS f.id) (by simp [oneS, twoS]; omega) 0 hm
      simp only [putLittle2_c (s := s ++ oneS f.kind) (by omega) 0 h0 h1, e, Option.bind_some, Option.bind_none, andB, orB, orB2, List.getD_cons_zero, List.getD_cons_succ, toB_b, toI_i, toS_s, toL_l, cond_true, cond_false, List.length_map]
      simp
    | false =>
      obtain ⟨_, _, hb, hm, h0, h2, _, h8⟩ := fillB_grad h k k'
      have hml := matS_len hm
      have e := putMat_c (s := s ++ oneS f.kind) (by omega) 0 hm
      have e2 := byteOf_c (s := s ++ oneS f.kind ++ matS f.mat) (by simp [oneS]; omega) 0 (64 * f.spread + f.stops.length)
      have e3 := put_loop h8 [] 0 f.stops [] (s ++ oneS f.kind ++ matS f.mat ++ oneS (64 * f.spread + f.stops.length)) 0 rfl hb (by simp [oneS]; omega)
      rw [show IntKind.wrap .i64 ((IntKind.wrap .i64 (f.spread * 64)) + ((f.stops.length : Nat) : Int)) = 64 * f.spread + f.stops.length by rw [wrap64 (n := f.spread * 64) (by omega) (by omega), wrap64 (by omega) (by omega)]; omega]
      simp only [e, e2, Option.bind_some, Option.bind_none, andB, orB, orB2, List.getD_cons_zero, List.getD_cons_succ, toB_b, toI_i, toS_s, toL_l, cond_true, cond_false, List.length_map]
      rw [show (0 : Int) = ((([] : List Stop).length : Nat) : Int) from rfl]
      rw [show (0 : Int) = ((([] : List Stop).length : Nat) : Int) from rfl] at e3
      rw [e3]
      simp
end Go.AI
