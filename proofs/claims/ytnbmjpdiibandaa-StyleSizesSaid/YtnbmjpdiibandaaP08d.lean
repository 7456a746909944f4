/- Both lists are written, by the program and by the document. -/
import Derived.Test.YtnbmjpdiibandaaP08c
set_option linter.unusedVariables false
set_option linter.unusedSimpArgs false
set_option maxRecDepth 100000
namespace Go.AI
open Go Go.Proofs

theorem fillsS_len : ∀ {l : List Fill}, (∀ f, f ∈ l → fillB f = true) → (fillsS l).length ≤ 450 * l.length
  | [], _ => Nat.le_refl _
  | f :: r, h => by
    have a := fillS_len (h f (by simp))
    have b := fillsS_len (l := r) (fun g hg => h g (by simp [hg]))
    simp only [fillsS, List.length_append, List.length_cons]; omega
theorem strksS_len : ∀ l : List Strk, (strksS l).length = 6 * l.length
  | [] => rfl
  | f :: r => by simp only [strksS, strkS, List.length_append, strksS_len r, List.length_cons]; show 2 + 4 + _ = _; omega
theorem strkB_r {s : Strk} (h : strkB s = true) : 0 ≤ s.width ∧ s.width < 65536 ∧ rgbaB s.color = true := by
  unfold strkB at h; simpa using h
theorem Put_loop2 {m : List Strk} (hm : m.length ≤ 15) (o1 : List UInt8) (o2 : Int) : ∀ (rest pre : List Strk) (s : List UInt8), m = pre ++ rest → (∀ x, x ∈ m → strkB x = true) → s.length + 6 * rest.length ≤ 440000000 →
    rW f_style_Put [] at_style_Put_L2 (S_style_Put_L2 (m.map Strk.e) m.length pre.length s 0 o1 o2) = some ([.s (s ++ strksS rest), .i 0, .i 0], [])
  | [], pre, s, h, hb, hs => by
    rw [w_style_Put_L2]
    simp only [el_end h, strksS, List.append_nil, Option.bind_some, Option.bind_none, andB, orB, orB2, List.getD_cons_zero, List.getD_cons_succ, toB_b, toI_i, toS_s, toL_l, cond_true, cond_false, List.length_map]
  | x :: rest, pre, s, h, hb, hs => by
    obtain ⟨h1, h2, h3, h4, h5⟩ := el_step Strk.e h (Nat.le_trans hm (by decide))
    obtain ⟨w0, w1, hc⟩ := strkB_r (hb x (by rw [h]; simp))
    simp only [List.length_cons] at hs
    have e := putK_c (s := s ++ twoS x.width) (by simp [twoS]; omega) 0 hc
    rw [w_style_Put_L2]
    simp only [h1, h2, h3, h4, Strk.e, putLittle2_c (s := s) (by omega) 0 w0 w1, e, Option.bind_some, Option.bind_none, andB, orB, orB2, List.getD_cons_zero, List.getD_cons_succ, toB_b, toI_i, toS_s, toL_l, cond_true, cond_false, List.length_map]
    have := Put_loop2 hm o1 o2 rest _ (s ++ twoS x.width ++ rgbaS x.color) h5 hb (by simp [twoS, rgbaS]; omega)
    simpa [strksS, strkS] using this
theorem Put_loop {l : List Fill} {m : List Strk} (hl : l.length ≤ 15) (hm : m.length ≤ 15) (hf : ∀ x, x ∈ l → fillB x = true) (hb : ∀ x, x ∈ m → strkB x = true) (o1 : List UInt8) (o2 : Int) : ∀ (rest pre : List Fill) (s : List UInt8), l = pre ++ rest → s.length + 450 * rest.length ≤ 420000000 →
    rW f_style_Put [] at_style_Put_L0 (S_style_Put_L0 (m.map Strk.e) (l.map Fill.e) l.length pre.length s 0 o1 o2) = some ([.s (s ++ (fillsS rest ++ (oneS m.length ++ strksS m))), .i 0, .i 0], [])
  | [], pre, s, h, hs => by
    have e := Put_loop2 hm o1 o2 m [] (s ++ oneS m.length) rfl hb (by simp [oneS]; omega)
    rw [w_style_Put_L0]
    simp only [el_end h, byteOf_c (s := s) (by simp at hs; omega), Option.bind_some, Option.bind_none, andB, orB, orB2, List.getD_cons_zero, List.getD_cons_succ, toB_b, toI_i, toS_s, toL_l, cond_true, cond_false, List.length_map]
    simpa [fillsS] using e
  | x :: rest, pre, s, h, hs => by
    obtain ⟨h1, h2, h3, h4, h5⟩ := el_step Fill.e h (Nat.le_trans hl (by decide))
    have hx := hf x (by rw [h]; simp)
    have hxl := fillS_len hx
    simp only [List.length_cons] at hs
    have e := put_c hx (s := s) (by omega) 0
    rw [w_style_Put_L0]
    simp only [Fill.e, List.cons_append, List.nil_append] at e
    simp only [h1, h2, h3, h4, Fill.e, e, Option.bind_some, Option.bind_none, andB, orB, orB2, List.getD_cons_zero, List.getD_cons_succ, toB_b, toI_i, toS_s, toL_l, cond_true, cond_false, List.length_map]
    have := Put_loop hl hm hf hb o1 o2 rest _ (s ++ fillS x) h5 (by simp; omega)
    simpa [fillsS] using this
theorem listsB_r {l : List Fill} {m : List Strk} (h : listsB l m = true) : l.length ≤ 15 ∧ m.length ≤ 15 ∧ (∀ x, x ∈ l → fillB x = true) ∧ (∀ x, x ∈ m → strkB x = true) := by
  unfold listsB at h
  simp only [Bool.and_eq_true, decide_eq_true_eq, List.all_eq_true] at h
  exact ⟨by omega, by omega, h.2.2.1, h.2.2.2⟩
def putListsF (s : List UInt8) (l : List Fill) (m : List Strk) : Res := bif listsB l m then ([.s (s ++ listsS l m), .i 0, .i 0], []) else ([.s [], .i 0, .i 1], [])
theorem Put_c {l : List Fill} {m : List Strk} (hl : l.length ≤ 2 ^ 40) (hm : m.length ≤ 2 ^ 40) (hs : Shorts l) {s : List UInt8} (hb : s.length ≤ 400000000) (fr : Int) : cW f_style_Put [.s s, .i fr, .l (l.map Fill.e), .l (m.map Strk.e)] [] = some (putListsF s l m) := by
  rw [w_style_Put]
  simp only [right_c hl hm hs, byteOf_c (s := s) (by omega), Option.bind_some, Option.bind_none, andB, orB, orB2, List.getD_cons_zero, List.getD_cons_succ, toB_b, toI_i, toS_s, toL_l, cond_true, cond_false, List.length_map]
  unfold putListsF
  cases h : listsB l m with
  | false => rfl
  | true =>
    obtain ⟨h1, h2, h3, h4⟩ := listsB_r h
    have e := Put_loop h1 h2 h3 h4 [] 0 l [] (s ++ oneS l.length) rfl (by simp [oneS]; omega)
    simp only [Bool.not_true, cond_false, cond_true]
    simpa [listsS] using e
/-! ### the document's -/
theorem le40 {a b : Nat} (h : a + b ≤ 1099511627776) : decide ((a + b) ≤ 1099511627776) = true := decide_eq_true h
theorem qPut_loop4 {m : List Strk} (hm : m.length ≤ 15) : ∀ (rest pre : List Strk) (s : List UInt8), m = pre ++ rest → (∀ x, x ∈ m → strkB x = true) → s.length + 6 * rest.length ≤ 440000000 →
    rW f_celluloidref08_Put [] at_celluloidref08_Put_L4 (S_celluloidref08_Put_L4 s (m.map Strk.e) pre.length) = some ([.s (s ++ strksS rest)], [])
  | [], pre, s, h, hb, hs => by
    rw [w_celluloidref08_Put_L4]
    simp only [el_end h, strksS, List.append_nil, Option.bind_some, Option.bind_none, andB, orB, orB2, List.getD_cons_zero, List.getD_cons_succ, toB_b, toI_i, toS_s, toL_l, cond_true, cond_false, List.length_map]
  | x :: rest, pre, s, h, hb, hs => by
    obtain ⟨h1, h2, h3, h4, h5⟩ := el_step Strk.e h (Nat.le_trans hm (by decide))
    obtain ⟨w0, w1, hc⟩ := strkB_r (hb x (by rw [h]; simp))
    simp only [List.length_cons] at hs
    have e := qPutK_c (s := s ++ twoS x.width) (by simp [twoS]; omega) hc
    have k : decide (s.length + (twoS x.width).length ≤ 1099511627776) = true := le40 (by simp [twoS]; omega)
    rw [w_celluloidref08_Put_L4]
    simp only [h1, h2, h3, h4, Strk.e, two_c, e, k, Option.bind_some, Option.bind_none, andB, orB, orB2, List.getD_cons_zero, List.getD_cons_succ, toB_b, toI_i, toS_s, toL_l, cond_true, cond_false, List.length_map]
    have := qPut_loop4 hm rest _ (s ++ twoS x.width ++ rgbaS x.color) h5 hb (by simp [twoS, rgbaS]; omega)
    simpa [strksS, strkS] using this
theorem qPut_loop2 {L : List Fill} {m : List Strk} (i : Int) (f : Fill) (hl : f.stops.length ≤ 8) (r : Res) : ∀ (rest pre : List Stop) (s : List UInt8) (last : Int), f.stops = pre ++ rest → stopsB last rest = true → s.length + 5 * rest.length ≤ 440000000 →
    rW f_celluloidref08_Put [] at_celluloidref08_Put_L0 (S_celluloidref08_Put_L0 (s ++ stopsS rest) (L.map Fill.e) (m.map Strk.e) (IntKind.wrap .i64 (i + 1))) = some r →
    rW f_celluloidref08_Put [] at_celluloidref08_Put_L2 (S_celluloidref08_Put_L2 s (L.map Fill.e) (m.map Strk.e) i pre.length f.kind f.color.1 f.color.2.1 f.color.2.2.1 f.color.2.2.2 f.mat.1 f.mat.2.1 f.mat.2.2.1 f.mat.2.2.2.1 f.mat.2.2.2.2.1 f.mat.2.2.2.2.2 f.spread (f.stops.map Stop.e) f.id) = some r
  | [], pre, s, last, h, hb, hs, hr => by
    rw [w_celluloidref08_Put_L2]
    simp only [el_end h, Option.bind_some, Option.bind_none, andB, orB, orB2, List.getD_cons_zero, List.getD_cons_succ, toB_b, toI_i, toS_s, toL_l, cond_true, cond_false, List.length_map]
    simpa [stopsS] using hr
  | x :: rest, pre, s, last, h, hb, hs, hr => by
    obtain ⟨h1, h2, h3, h4, h5⟩ := el_step Stop.e h (Nat.le_trans hl (by decide))
    obtain ⟨hc, hb', _, _⟩ := stopsB_cons hb
    simp only [List.length_cons] at hs
    have e := qPutK_c (s := s ++ oneS x.ratio) (by simp [oneS]; omega) hc
    have k : decide (s.length + (oneS x.ratio).length ≤ 1099511627776) = true := le40 (by simp [oneS]; omega)
    rw [w_celluloidref08_Put_L2]
    simp only [h1, h2, h3, h4, Stop.e, one_c, e, k, Option.bind_some, Option.bind_none, andB, orB, orB2, List.getD_cons_zero, List.getD_cons_succ, toB_b, toI_i, toS_s, toL_l, cond_true, cond_false, List.length_map]
    exact qPut_loop2 i f hl r rest _ (s ++ oneS x.ratio ++ rgbaS x.color) x.ratio h5 hb' (by simp [oneS, rgbaS]; omega) (by simpa [stopsS] using hr)
theorem qPut_loop {l : List Fill} {m : List Strk} (hl : l.length ≤ 15) (hm : m.length ≤ 15) (hf : ∀ x, x ∈ l → fillB x = true) (hb : ∀ x, x ∈ m → strkB x = true) : ∀ (rest pre : List Fill) (s : List UInt8), l = pre ++ rest → s.length + 450 * rest.length ≤ 420000000 →
    rW f_celluloidref08_Put [] at_celluloidref08_Put_L0 (S_celluloidref08_Put_L0 s (l.map Fill.e) (m.map Strk.e) pre.length) = some ([.s (s ++ (fillsS rest ++ (oneS m.length ++ strksS m)))], [])
  | [], pre, s, h, hs => by
    have e := qPut_loop4 hm m [] (s ++ oneS m.length) rfl hb (by simp [oneS]; omega)
    have k : decide (s.length + (oneS m.length).length ≤ 1099511627776) = true := le40 (by simp [oneS]; omega)
    rw [w_celluloidref08_Put_L0]
    simp only [el_end h, one_c, k, Option.bind_some, Option.bind_none, andB, orB, orB2, List.getD_cons_zero, List.getD_cons_succ, toB_b, toI_i, toS_s, toL_l, cond_true, cond_false, List.length_map]
    simpa [fillsS] using e
  | x :: rest, pre, s, h, hs => by
    obtain ⟨h1, h2, h3, h4, h5⟩ := el_step Fill.e h (Nat.le_trans hl (by decide))
    have hx := hf x (by rw [h]; simp)
    have hxl := fillS_len hx
    simp only [List.length_cons] at hs
    have ih := qPut_loop hl hm hf hb rest _ (s ++ fillS x) h5 (by simp; omega)
    have k : decide (s.length + (oneS x.kind).length ≤ 1099511627776) = true := le40 (by simp [oneS]; omega)
    rw [w_celluloidref08_Put_L0]
    simp only [h1, h2, h3, h4, Fill.e, one_c, k, Option.bind_some, Option.bind_none, andB, orB, orB2, List.getD_cons_zero, List.getD_cons_succ, toB_b, toI_i, toS_s, toL_l, cond_true, cond_false, List.length_map]
    cases ks : kindS x.kind with
    | true =>
      have k0 : x.kind = 0 := by unfold kindS at ks; simpa using ks
      have ek := qPutK_c (s := s ++ oneS x.kind) (by simp [oneS]; omega) (fillB_solid hx ks).1
      have g1 : (x.kind == 0) = true := ks
      have g2 : decide (x.kind > 63) = false := by rw [k0]; rfl
      have g3 : (x.kind == 16) = false := by rw [k0]; rfl
      have g4 : (x.kind == 18) = false := by rw [k0]; rfl
      simp only [g1, g2, g3, g4, ek, Bool.or_self, Option.bind_some, Option.bind_none, andB, orB, orB2, List.getD_cons_zero, List.getD_cons_succ, toB_b, toI_i, toS_s, toL_l, cond_true, cond_false, List.length_map]
      have : s ++ oneS x.kind ++ rgbaS x.color = s ++ fillS x := by unfold fillS; rw [ks]; simp
      rw [this, ih]; simp [fillsS]
    | false =>
      have g1 : (x.kind == 0) = false := ks
      cases kp : kindP x.kind with
      | true =>
        obtain ⟨hm', h0, h6, _⟩ := fillB_pic hx ks kp
        have k0 : x.kind = 64 ∨ x.kind = 65 := by unfold kindP at kp; simpa using kp
        have g2 : decide (x.kind > 63) = true := by simp; omega
        have g3 : (x.kind == 16) = false := by simp; omega
        have g4 : (x.kind == 18) = false := by simp; omega
        have em := qPutMat_c (s := s ++ oneS x.kind ++ twoS x.id) (by simp [oneS, twoS]; omega) hm'
        have k2 : decide ((s ++ oneS x.kind).length + (twoS x.id).length ≤ 1099511627776) = true := le40 (by simp [oneS, twoS]; omega)
        simp only [g1, g2, g3, g4, two_c, em, k2, Bool.or_self, Option.bind_some, Option.bind_none, andB, orB, orB2, List.getD_cons_zero, List.getD_cons_succ, toB_b, toI_i, toS_s, toL_l, cond_true, cond_false, List.length_map]
        have : s ++ oneS x.kind ++ twoS x.id ++ matS x.mat = s ++ fillS x := by unfold fillS; rw [ks, kp]; simp
        rw [this, ih]; simp [fillsS]
      | false =>
        obtain ⟨kg, _, hsb, hm', h0, h6, _, h8⟩ := fillB_grad hx ks kp
        have k0 : x.kind = 16 ∨ x.kind = 18 := by unfold kindG at kg; simpa using kg
        have g2 : decide (x.kind > 63) = false := by simp; omega
        have g3 : ((x.kind == 16) || (x.kind == 18)) = true := kg
        have hml := matS_len hm'
        have em := qPutMat_c (s := s ++ oneS x.kind) (by simp [oneS]; omega) hm'
        have k2 : decide ((s ++ oneS x.kind ++ matS x.mat).length + (oneS (64 * x.spread + x.stops.length)).length ≤ 1099511627776) = true := le40 (by simp [oneS]; omega)
        have hw : IntKind.wrap .i64 ((IntKind.wrap .i64 (64 * x.spread)) + ((x.stops.length : Nat) : Int)) = 64 * x.spread + x.stops.length := by rw [wrap64 (n := 64 * x.spread) (by omega) (by omega), wrap64 (by omega) (by omega)]
        simp only [g1, g2, g3, em, hw, k2, Option.bind_some, Option.bind_none, andB, orB, orB2, List.getD_cons_zero, List.getD_cons_succ, toB_b, toI_i, toS_s, toL_l, cond_true, cond_false, List.length_map]
        have e := qPut_loop2 (L := l) (m := m) pre.length x h8 _ x.stops [] (s ++ oneS x.kind ++ matS x.mat ++ oneS (64 * x.spread + x.stops.length)) 0 rfl hsb (by simp [oneS]; omega) (by
          rw [h4]
          have : s ++ oneS x.kind ++ matS x.mat ++ oneS (64 * x.spread + x.stops.length) ++ stopsS x.stops = s ++ fillS x := by unfold fillS; rw [ks, kp]; simp
          rw [this]; exact ih)
        simpa [fillsS] using e
theorem qPut_c {l : List Fill} {m : List Strk} (hb : listsB l m = true) {s : List UInt8} (hs : s.length ≤ 400000000) : cW f_celluloidref08_Put [.s s, .l (l.map Fill.e), .l (m.map Strk.e)] [] = some ([.s (s ++ listsS l m)], []) := by
  obtain ⟨h1, h2, h3, h4⟩ := listsB_r hb
  have k : decide (s.length + (oneS l.length).length ≤ 1099511627776) = true := le40 (by simp [oneS]; omega)
  have e := qPut_loop h1 h2 h3 h4 l [] (s ++ oneS l.length) rfl (by simp [oneS]; omega)
  rw [w_celluloidref08_Put]
  simp only [one_c, k, Option.bind_some, Option.bind_none, andB, orB, orB2, List.getD_cons_zero, List.getD_cons_succ, toB_b, toI_i, toS_s, toL_l, cond_true, cond_false, List.length_map]
  simpa [listsS] using e
end Go.AI
