/- deflate.Raw walked. -/
import Derived.Test.YtbaajplajjfgcaaGreatT05d
import Derived.BigCall
import Derived.Maps.AppendAt
set_option linter.unusedVariables false
set_option linter.unusedSimpArgs false
namespace Go.AI
open Go Go.RowKit Go.Proofs Go.Maps
theorem wk0 : Wk [] 0 := ⟨⟨by omega, by omega⟩, fun h => absurd rfl h⟩
theorem gr1 : Grown (cW f___celluloid_deflate_writer__bits [.u, .i 1, .i 1] (W5 [] 0)) 1 := bits5_c 1 (by omega) (by omega) wk0 (by decide)
noncomputable abbrev st1Z : Sw := g5 f___celluloid_deflate_writer__bits [.i 1, .i 1] ([], 0)
theorem st1_ok : Wk st1Z.1 st1Z.2 ∧ st1Z.1.length ≤ 1 := (g5_c (st := ([], 0)) gr1).2
theorem gr2 : Grown (cW f___celluloid_deflate_writer__bits [.u, .i 1, .i 2] (W5 st1Z.1 st1Z.2)) 3 := (bits5_c 1 (by omega) (by omega) st1_ok.1 (by have := st1_ok.2; have : (2 : Int).toNat = 2 := rfl; omega)).mono (by have := st1_ok.2; have : (2 : Int).toNat = 2 := rfl; omega)
theorem st0_ok : Wk st0Z.1 st0Z.2 ∧ st0Z.1.length ≤ 3 := (g5_c (st := st1Z) gr2).2
theorem step_ok {l : List UInt8} {i : Nat} {st : Sw} (hl : l.length ≤ 262144) (hi : i < l.length) (hk : Wk st.1 st.2) (hs : st.1.length ≤ 3 + 32 * i) :
    (1 ≤ (stepZ l i st).1 ∧ i + (stepZ l i st).1 ≤ l.length) ∧ (Wk (stepZ l i st).2.1 (stepZ l i st).2.2 ∧ (stepZ l i st).2.1.length ≤ 3 + 32 * (i + (stepZ l i st).1)) := by
  unfold stepZ
  have hb := (bestF_c l hl (Nat.le_of_lt hi) (fun z hz => posL_mem hz) (Nat.le_trans (posL_len l i (bAt l i) (bAt l (i + 1)) (bAt l (i + 2))) (by omega))).2
  generalize bestF l i (posL l i (bAt l i) (bAt l (i + 1)) (bAt l (i + 2))) = B at hb ⊢
  split
  · rename_i h
    rcases hb with h0 | ⟨h3, h4, h5⟩
    · exact absurd h0 h.2
    · have g := (g5_c (run5_c B.1 B.2 hk (by omega))).2
      exact ⟨⟨by show 1 ≤ B.1.toNat; omega, by show i + B.1.toNat ≤ _; omega⟩, g.1, Nat.le_trans g.2 (by show _ ≤ 3 + 32 * (i + B.1.toNat); omega)⟩
  · have g := (g5_c (symbol5_c (bAt l i) hk (by omega))).2
    exact ⟨⟨by show 1 ≤ 1; omega, by show i + 1 ≤ _; omega⟩, g.1, Nat.le_trans g.2 (by show _ ≤ 3 + 32 * (i + 1); omega)⟩
theorem loop_end (l : List UInt8) : ∀ f i st, l.length ≤ i → loopZ l f i st = st
  | 0, _, _, _ => rfl
  | f + 1, i, st, h => by rw [loopZ, if_neg (by omega)]
theorem run_toString {P : Program} {w : World} {wb : Nat} {rb : Option Nat} {es : List (List PV)} {fr : Int} (h : WBx w wb rb es fr) (hu : P.underlying 5 = some (.int .u8)) {v : Value} (hv : w.cell? ⟨wb, 0, none⟩ = some v) :
    ∃ x : ByteArray, (∃ a n c, v = .slice a n c) ∧ (Conv.bytesToString v).run P w = .ok (.string x) w ∧ x.data.toList = toBytes es := by
  obtain ⟨v', ty, f, a1, a2, hr⟩ := h.ex
  have : v' = v := by
    have := (cell_cellH w wb 0).symm.trans hv
    rw [cellH_of a1] at this
    simpa using this
  subst this
  rcases hr with ⟨a3, rfl, a, rfl⟩ | ⟨g, cap, c, ty2, f2, b1, b2, rfl, b4, b5, b6, b7, b8⟩
  · cases a with
    | none => exact ⟨.empty, ⟨_, _, _, rfl⟩, by simp [Conv.bytesToString], rfl⟩
    | some a =>
      have hl : (loadCells a 0).run P w = .ok (([] : List Int).map (Value.int .u8)).toArray w := by simp [loadCells, loadCellsFrom]
      exact ⟨_, ⟨_, _, _, rfl⟩, run_bytesToString w a 0 0 [] hl, rfl⟩
  · have hl := loadCells_list (P := P) (w := w) (b := g) (off := 0) (n := es.length) (vs := fun i => .int .u8 ((es.getD i []).getD 0 .u).toI) (fun i hi => by
      obtain ⟨n, c1, c2⟩ := b8 i hi
      rw [Nat.zero_add, cellH_of b5, c1]
      have hlt : i < c.size := by omega
      rw [Array.getElem?_eq_getElem hlt]
      have : c.getD i undef = c[i] := by simp [Array.getD, hlt]
      rw [← this, c2]
      rfl)
    have e2 : ((List.range es.length).map fun i => Value.int .u8 ((es.getD i []).getD 0 .u).toI) = (es.map fun e => (e.getD 0 .u).toI).map (Value.int .u8) := by
      apply List.ext_getElem
      · simp
      · intro i h1 h2
        have hi : i < es.length := by simpa using h1
        simp [List.getD, hi]
    rw [e2] at hl
    refine ⟨_, ⟨_, _, _, rfl⟩, run_bytesToString w _ _ _ _ hl, ?_⟩
    rw [bytes_fold]
    simp [toBytes, List.map_map, Function.comp_def]
theorem bits1_calls {w : World} {wb : Nat} (hw : WBx w wb none [] 0) : Calls Tryz.prog 73 #[.pointer (some ⟨wb, 0, none⟩), .int .i64 1, .int .i64 1] w fun e' w' => e' = .returned (.tuple #[]) ∧ WOut w w' wb none st1Z :=
  writer_calls (ps := [.i 1, .i 1]) (st := ([], 0)) (args := [.int .i64 1, .int .i64 1]) (avs := [.v (.int .i64 1), .v (.int .i64 1)]) gr1 Tryz.func73 (c := Tryz.f73.body.getD .skip) (by kernel_rfl) (by kernel_rfl) (by kernel_rfl) (m := 1) (by kernel_rfl) hw rfl (fun j hj => by
    match j, hj with
    | 0, _ => exact .v _ _ rfl
    | 1, _ => exact .v _ _ rfl)
theorem bits2_calls {w : World} {wb : Nat} {rb : Option Nat} (hw : WBx w wb rb st1Z.1 st1Z.2) : Calls Tryz.prog 73 #[.pointer (some ⟨wb, 0, none⟩), .int .i64 1, .int .i64 2] w fun e' w' => e' = .returned (.tuple #[]) ∧ WOut w w' wb rb st0Z :=
  writer_calls (ps := [.i 1, .i 2]) (st := st1Z) (args := [.int .i64 1, .int .i64 2]) (avs := [.v (.int .i64 1), .v (.int .i64 2)]) gr2 Tryz.func73 (c := Tryz.f73.body.getD .skip) (by kernel_rfl) (by kernel_rfl) (by kernel_rfl) (m := 1) (by kernel_rfl) hw rfl (fun j hj => by
    match j, hj with
    | 0, _ => exact .v _ _ rfl
    | 1, _ => exact .v _ _ rfl)
theorem best_l {s : ByteArray} {l : List UInt8} (hsl : s.data.toList = l) (hle : l.length ≤ 262144) {k : Nat} {zs : List Int} {v : Value} {base : Nat} {w0 : World} (hz : ∀ z, z ∈ zs → 0 ≤ z ∧ z < (k : Int)) (hzl : zs.length ≤ 262144) (ho : w0.ownsInts base 3 .i64 v zs) (hp : k < l.length) :
    Calls Tryz.prog 75 #[.string s, .int .i64 k, v] w0 fun e w' => e = .returned (.tuple #[.int .i64 (bestF l k zs).1, .int .i64 (bestF l k zs).2]) ∧ Bel w0.heap.size w0 w' := by
  subst hsl
  exact best_calls s hle (Nat.le_of_lt hp) hz hzl ho
theorem byte_at {s : ByteArray} {l : List UInt8} (hsl : s.data.toList = l) {k : Nat} (h : k < s.size) : Go.RowKit.wrap64 ((s[k]'h).toNat : Int) = bAt l k := by
  subst hsl
  have e : bAt s.data.toList k = ((s[k]'h).toNat : Int) := by
    unfold bAt bt
    rw [Int.toNat_natCast]
    have hk : k < s.data.toList.length := by rw [Array.length_toList]; exact h
    rw [List.getD_eq_getElem?_getD, List.getElem?_eq_getElem hk, Array.getElem_toList]
    rfl
  have := bAt_u8 s.data.toList k
  rw [← e]
  unfold Go.RowKit.wrap64
  have h2 : 0 ≤ bAt s.data.toList k ∧ bAt s.data.toList k ≤ 255 := this
  omega
theorem addr_add0' (b jj : Nat) : (⟨b, 0, none⟩ : Addr).add jj = ⟨b, jj, none⟩ := by rw [addr_add, Nat.zero_add]
theorem hL_next {l : List UInt8} {k : Nat} {st F : Sw} (h : ∃ f, loopZ l f k st = F ∧ l.length - k ≤ f) (hp : k < l.length) (h1 : 1 ≤ (stepZ l k st).1) : ∃ f, loopZ l f (k + (stepZ l k st).1) (stepZ l k st).2 = F ∧ l.length - (k + (stepZ l k st).1) ≤ f := by
  obtain ⟨f, h2, h3⟩ := h
  cases f with
  | zero => omega
  | succ f =>
    rw [loopZ, if_pos hp] at h2
    exact ⟨f, h2, by omega⟩
theorem leaves304 : leaves Tryz.prog 178 = some [.int .u8, .int .u8, .int .u8] := by kernel_rfl
theorem one3 (a b c : Int) : ∀ v, v ∈ [Value.int .u8 a, .int .u8 b, .int .u8 c] → v.oneCell' = true := fun v hv => List.all_eq_true.1 (rfl : [Value.int .u8 a, .int .u8 b, .int .u8 c].all Value.oneCell' = true) v hv
def RawPost (l : List UInt8) (e : Ending) : Prop := (262144 < l.length ∧ e = .returned (.tuple #[.string .empty, .int .i64 7])) ∨ (l.length ≤ 262144 ∧ ∃ x : ByteArray, e = .returned (.tuple #[.string x, .int .i64 0]) ∧ x.data.toList = toBytes (outZ l).1)
theorem env_trans {a b c : World} (h : Env a b) (k : Env b c) : Env a c := ⟨k.1.trans h.1, k.2.trans h.2⟩
theorem rawI_start {l : List UInt8} {w w0 w1 w2 : World} {rb1 rb2 : Option Nat} {S0 : Sw} (b0 : Bel w.heap.size w w0) (s0 : w0.heap.size = w.heap.size + 1) (en1 : Env w0 w1) (z1 : w0.heap.size ≤ w1.heap.size) (k1 : ∀ b, b < w0.heap.size → b ≠ w.heap.size → some b ≠ none → w1.heap[b]? = w0.heap[b]?) (hr1 : rb1 = none ∨ rb1 = none ∨ ∃ g, rb1 = some g ∧ w0.heap.size ≤ g)
    (en2 : Env w1 w2) (z2 : w1.heap.size ≤ w2.heap.size) (k2 : ∀ b, b < w1.heap.size → b ≠ w.heap.size → some b ≠ rb1 → w2.heap[b]? = w1.heap[b]?) (hw2 : WBx w2 w.heap.size rb2 S0.1 S0.2) (hr2 : rb2 = none ∨ rb2 = rb1 ∨ ∃ g, rb2 = some g ∧ w1.heap.size ≤ g) (q0 : Wk S0.1 S0.2) :
    RawI l w (w2.alloc (.map #[] 0)) w2.heap.size 0 rb2 S0 := by
  have hr1' : ∀ g, rb1 = some g → w.heap.size + 1 ≤ g := fun g hg => by
    rcases hr1 with e | e | ⟨g', e, h⟩
    · rw [e] at hg; cases hg
    · rw [e] at hg; cases hg
    · rw [e] at hg; cases hg; omega
  have ha : ∀ b, b < w2.heap.size → (w2.alloc (.map #[] 0)).heap[b]? = w2.heap[b]? := fun b hb => Below.heap_alloc _ _ b hb
  refine ⟨hw2.kept (ha _ hw2.lt) (fun g hg => ha _ (hw2.rlt g hg).1), q0, ⟨.map [], World.ownsGroups_made w2 Tryz.prog 178 3 .i64, fun a b c _ _ _ => rfl⟩, World.Shuns_made w2 _, ⟨env_trans (env_trans b0.env en1) en2, by simp; omega, fun b hb => ?_⟩, fun g hg => ?_, by simp, by omega⟩
  · rw [ha b (by omega), k2 b (by omega) (by omega) (fun e => by have := hr1' b e.symm; omega), k1 b (by omega) (by omega) (fun e => by cases e), b0.block b hb]
  · rcases hr2 with e | e | ⟨g', e, h⟩
    · rw [e] at hg; cases hg
    · have := hr1' g (by rw [← e]; exact hg); omega
    · rw [e] at hg; cases hg; omega
set_option maxHeartbeats 2000000 in
set_option maxRecDepth 1000000 in
theorem raw_walk (s : ByteArray) (l : List UInt8) (hsl : s.data.toList = l) (w : World) : Calls Tryz.prog 34 #[.string s] w fun e w' => RawPost l e ∧ Bel w.heap.size w w' := by
  have hsz : s.size = l.length := by rw [← hsl, Array.length_toList]; rfl
  have w0B : WBx (w.alloc (.cells #[.slice none 0 0, .int .i64 0] 174)) w.heap.size none [] 0 := ⟨fun i hi => absurd hi (Nat.not_lt_zero _), .slice none 0 0, 174, (0, 0), heap_alloc_new w _, fun o ho => by simp, .inl ⟨rfl, rfl, none, rfl⟩⟩
  have b0 : Bel w.heap.size w (w.alloc (.cells #[.slice none 0 0, .int .i64 0] 174)) := Bel.ofBelow ((Below.refl _ w).alloc (Nat.le_refl _) _)
  have s0 : (w.alloc (.cells #[.slice none 0 0, .int .i64 0] 174)).heap.size = w.heap.size + 1 := by simp
  replace w0B : Hid _ := w0B
  replace b0 : Hid _ := b0
  replace s0 : Hid _ := s0
  replace hsl : Hid _ := hsl
  replace hsz : Hid _ := hsz
  have c1 := fun (w : World) (wb : Nat) (hw : WBx w wb none [] 0) => bits1_calls hw
  have c2 := fun (w : World) (wb : Nat) (rb : Option Nat) (hw : WBx w wb rb st1Z.1 st1Z.2) => bits2_calls hw
  have q0 := st0_ok
  have hF : g5 f___celluloid_deflate_writer__symbol [.i 256] (loopZ l l.length 0 st0Z) = outZ l := rfl
  generalize st1Z = S1 at c1 c2
  generalize st0Z = S0 at c2 q0 hF
  replace c1 : Hid _ := c1
  replace c2 : Hid _ := c2
  replace q0 : Hid _ := q0
  replace hF : Hid _ := hF
  have hmm := @run_makeMap Tryz.prog
  go_enter Tryz.func34, Tryz.ntmps34
  go_wp2_with (first
    | (go_at_call 73; refine (c1.out _ _ w0B.out).mono ?_; clear c1; rintro e w1 ⟨rfl, ho1⟩
       obtain ⟨en1, z1, k1, rb1, hw1, hr1⟩ := ho1
       replace k1 : Hid _ := k1
       replace hw1 : Hid _ := hw1
       replace hr1 : Hid _ := hr1
       replace z1 : Hid _ := z1
       replace en1 : Hid _ := en1)
    | (go_at_call 73; refine (c2.out _ _ _ hw1.out).mono ?_; rintro e w2 ⟨rfl, ho2⟩
       obtain ⟨en2, z2, k2, rb2, hw2, hr2⟩ := ho2
       replace k2 : Hid _ := k2
       replace hw2 : Hid _ := hw2
       replace hr2 : Hid _ := hr2
       replace z2 : Hid _ := z2
       replace en2 : Hid _ := en2)
    | go_in)
  · go_ret2
    rename_i h
    rw [hsz.out] at h
    exact ⟨.inl ⟨by omega, rfl⟩, Bel.refl _ _⟩
  · rename_i hle _ _
    rw [hsz.out] at hle
    have hle : l.length ≤ 262144 := by omega
    clear hmm c2
    have hI : RawI l w (w2.alloc (.map #[] 0)) w2.heap.size 0 rb2 S0 := rawI_start b0.out s0.out en1.out z1.out k1.out hr1.out en2.out z2.out k2.out hw2.out hr2.out q0.out.1
    have hq0 := q0.out.2
    clear k1 hw1 hr1 z1 en1 k2 hw2 hr2 z2 en2 b0 s0 w0B q0
    replace hI : Hid _ := hI
    go_loopw [6] (fun i wr => ∃ (k : Nat) (st : Sw) (rb : Option Nat), i = .int .i64 k ∧ k ≤ l.length ∧ Hid (∃ f, loopZ l f k st = loopZ l l.length 0 S0 ∧ l.length - k ≤ f) ∧ st.1.length ≤ 3 + 32 * k ∧ Hid (RawI l w wr w2.heap.size k rb st))
      (fun i wr => l.length - (Go.RowKit.intOf i).toNat)
    case atStart =>
      exact ⟨0, S0, rb2, rfl, Nat.zero_le _, ⟨l.length, rfl, Nat.le_refl _⟩, by omega, hI⟩
    case round =>
      obtain ⟨k, st, rb, rfl, hk, hL, hst, hR⟩ := hrel
      clear hI
      have hsz2 := hsz.out
      have hat := fun (i : Nat) (hi : i ≤ l.length) (w0 : World) => at_calls s i (by rw [hsl.out]; exact hle) (by rw [hsl.out]; exact hi) w0
      rw [hsl.out] at hat
      by_cases hp : k < l.length
      · have hstep := step_ok hle hp hR.out.wk hst
        replace hstep : Hid _ := hstep
        have hstk := hR.out.wk
        replace hstk : Hid _ := hstk
        have hbk := fun h => byte_at hsl.out (k := k) h
        replace hbk : Hid _ := hbk
        by_cases h3 : k + 3 ≤ l.length
        · have eT : triA l k = (bAt l k, bAt l (k + 1), bAt l (k + 2), true) := if_pos h3
          have hk1 := hat k (by omega)
          rw [eT] at hk1
          have hbest : ∀ (zs : List Int) (v : Value) (base : Nat) (w0 : World), (∀ z, z ∈ zs → 0 ≤ z ∧ z < (k : Int)) → zs.length ≤ 262144 → w0.ownsInts base 3 .i64 v zs → Calls Tryz.prog 75 #[.string s, .int .i64 k, v] w0 fun e w' => e = .returned (.tuple #[.int .i64 (bestF l k zs).1, .int .i64 (bestF l k zs).2]) ∧ Bel w0.heap.size w0 w' := fun zs v base w0 hz hzl ho => best_l hsl.out hle hz hzl ho hp
          replace hk1 : Hid _ := hk1
          replace hbest : Hid _ := hbest
          replace hat : Hid _ := hat
          replace hst : Hid _ := hst
          clear hsz2 eT
          have hks : k < s.size := by rw [hsz.out]; exact hp
          go_wp2_with (first
            | (go_at_call 74; refine Calls.mono (hk1.out _) ?_; clear hk1; rintro e w3 ⟨rfl, b3⟩
               have hR3 := hR.out.grow b3
               replace hR3 : Hid _ := hR3)
            | (refine wpList_allocStore _ rfl rfl 7 178 rfl rfl _ rfl rfl leaves304 Tryz.zeroValue178 (by rfl) (by simp) [.int .u8 (bAt l k), .int .u8 (bAt l (k + 1)), .int .u8 (bAt l (k + 2))] w3.heap.size rfl rfl rfl (one3 _ _ _) ?_; intro w4 b4 s4 k4; go_frame
               have hR4 := hR3.out.grow b4
               have hD := hR4.map
               clear hR hR3 b3
               replace hR4 : Hid _ := hR4
               obtain ⟨D, hown, hatD⟩ := hD
               have hatD := hatD _ _ _ (bAt_u8 l k) (bAt_u8 l (k + 1)) (bAt_u8 l (k + 2))
               replace hatD : Hid _ := hatD
               replace k4 : Hid _ := k4)
            | (refine wpList_load _ rfl _ 178 rfl leaves304 (by kernel_rfl) w3.heap.size 0 rfl [.int .u8 (bAt l k), .int .u8 (bAt l (k + 1)), .int .u8 (bAt l (k + 2))] rfl (fun i hi => by rw [Nat.zero_add, cell_block k4.out]; exact getD_some hi) ?_; go_frame)
            | (at_lookup; refine wpList_lookup_groups _ rfl _ _ 176 rfl 178 164 3 .i64 keyed304 Tryz.underlying176 (run_zero84 _) (w2.heap.size + 1) w2.heap.size k D rfl hown (by unfold maxLen; omega) _ _ rfl (keyTri (bAt_u8 l k) (bAt_u8 l (k + 1)) (bAt_u8 l (k + 2))) ?_; intro v zs hzat hoi hzl hback
               have hzs := datM_row hoi (hatD.out.symm.trans hzat)
               subst hzs
               clear hzat hback hatD hzl
               replace hoi : Hid _ := hoi)
            | (go_at_call 75; refine Calls.mono (hbest.out _ _ _ _ (fun z hz => posL_mem hz) (Nat.le_trans (posL_len _ _ _ _ _) (by omega)) hoi.out) ?_; clear hbest hoi hown; rintro e w5 ⟨rfl, b5⟩
               have hR5 := hR4.out.grow b5
               clear hR4 k4 b5 b4
               replace hR5 : Hid _ := hR5)
            | (go_at_call 76; simp only [hbk.out]; refine Calls.mono (symbol_calls hstk.out (by have := hst.out; omega) hR5.out.wb) ?_; rintro e w6 ⟨rfl, ho6⟩
               have hR6 := hR5.out.write ho6 (g5_c (symbol5_c (bAt l k) hstk.out (by have := hst.out; omega))).2.1
               clear hR5 ho6)
            | (go_at_call 77; refine Calls.mono (run_calls hstk.out (by have := hst.out; omega) hR5.out.wb) ?_; rintro e w6 ⟨rfl, ho6⟩
               have hR6 := hR5.out.write ho6 (g5_c (run5_c _ _ hstk.out (by have := hst.out; omega))).2.1
               clear hR5 ho6)
            | go_in)
          all_goals try (exfalso; omega)
          · rename_i hz
            have eS : stepZ l k st = (1, g5 f___celluloid_deflate_writer__symbol [.i (bAt l k)] st) := if_neg (fun h => h.2 (beq_iff_eq.1 hz))
            have hL2 := hL_next hL.out hp hstep.out.1.1
            have eN : Value.int .i64 1 = Value.int .i64 (((stepZ l k st).1 - 0 : Nat) : Int) := by rw [eS]; rfl
            have hR6 : ∃ rb', RawI l w w6 w2.heap.size k rb' (stepZ l k st).2 := by rw [eS]; exact hR6
            replace eN : Hid _ := eN
            replace hL2 : Hid _ := hL2
            clear hL eS hz hst hstk hbk hatD s4
            obtain ⟨rb6, hR6⟩ := hR6
            replace hR6 : Hid _ := hR6
            generalize stepZ l k st = Z at hstep hL2 hR6 eN
            go_loopw [6, 9] (fun i n wq => ∃ j : Nat, j ≤ Z.1 ∧ i = .int .i64 ((k + j : Nat) : Int) ∧ n = .int .i64 ((Z.1 - j : Nat) : Int) ∧ Hid (RawI l w wq w2.heap.size (k + j) rb6 Z.2))
              (fun i n wq => (Go.RowKit.intOf n).toNat)
            case atStart =>
              exact ⟨0, Nat.zero_le _, rfl, eN.out, hR6⟩
            case round =>
              obtain ⟨j, hj, rfl, rfl, hQ⟩ := hrel
              have hkj : k + Z.1 ≤ l.length := hstep.out.1.2
              have hatj := hat.out (k + j) (by omega)
              clear hR6 hat
              by_cases hjn : j < Z.1
              · have hQL : k + j < l.length := by omega
                have hwr1 : Go.RowKit.wrap64 (((k + j : Nat) : Int) + 1) = ((k + (j + 1) : Nat) : Int) := by unfold Go.RowKit.wrap64; omega
                have hwr2 : Go.RowKit.wrap64 (((Z.1 - j : Nat) : Int) - 1) = ((Z.1 - (j + 1) : Nat) : Int) := by unfold Go.RowKit.wrap64; omega
                by_cases h3j : k + j + 3 ≤ l.length
                · have eT : triA l (k + j) = (bAt l (k + j), bAt l (k + j + 1), bAt l (k + j + 2), true) := if_pos h3j
                  rw [eT] at hatj
                  replace hatj : Hid _ := hatj
                  replace hwr1 : Hid _ := hwr1
                  replace hwr2 : Hid _ := hwr2
                  clear eT
                  go_wp2_with (first
                    | (go_at_call 74; refine Calls.mono (hatj.out _) ?_; clear hatj; rintro e w7 ⟨rfl, b7⟩
                       have hQ7 := hQ.out.grow b7
                       replace hQ7 : Hid _ := hQ7)
                    | (refine wpList_allocStore _ rfl rfl 11 178 rfl rfl _ rfl rfl leaves304 Tryz.zeroValue178 (by rfl) (by simp) [.int .u8 (bAt l (k + j)), .int .u8 (bAt l (k + j + 1)), .int .u8 (bAt l (k + j + 2))] w7.heap.size rfl rfl rfl (one3 _ _ _) ?_; intro w8 b8 s8 k8; go_frame
                       have hQ8 := hQ7.out.grow b8
                       clear hQ hQ7 b7
                       replace hQ8 : Hid _ := hQ8
                       replace k8 : Hid _ := k8)
                    | (refine wpList_load _ rfl _ 178 rfl leaves304 (by kernel_rfl) w7.heap.size 0 rfl [.int .u8 (bAt l (k + j)), .int .u8 (bAt l (k + j + 1)), .int .u8 (bAt l (k + j + 2))] rfl (fun i hi => by rw [Nat.zero_add, cell_block k8.out]; exact getD_some hi) ?_; go_frame)
                    | go_in)
                  rename_i KK hKK
                  have hQ9 := hQ8.out.grow (w' := w8.alloc (.cells #[.int .i64 ((k : Int) + (j : Int))] 3)) (Bel.ofBelow ((Below.refl _ w8).alloc (Nat.le_refl _) _))
                  have k9 : (w8.alloc (.cells #[.int .i64 ((k : Int) + (j : Int))] 3)).heap[w8.heap.size]? = some (.cells #[.int .i64 ((k : Int) + (j : Int))] 3 (0, 0)) := heap_alloc_new w8 _
                  have s9 : (w8.alloc (.cells #[.int .i64 ((k : Int) + (j : Int))] 3)).heap.size = w8.heap.size + 1 := by simp
                  generalize w8.alloc (.cells #[.int .i64 ((k : Int) + (j : Int))] 3) = w9 at hQ9 k9 s9 ⊢
                  obtain ⟨v9, st9, w10, e1, e2, e3, e4, e5⟩ := hQ9.entry h3j hle
                  have z8 := b8.size
                  have hm8 := hQ8.out.mlt
                  have c9 : ∀ jj u, [Value.int .i64 ((k : Int) + (j : Int))][jj]? = some u → w10.cell? ((⟨w7.heap.size + 1, 0, none⟩ : Addr).add jj) = some u := fun jj u hu => by
                    rw [← s8, addr_add0', cell_cellH, cellH_congr (e2.block _ (by omega) (fun e => by have := Option.some.inj e; omega)), cellH_of k9]
                    simpa using hu
                  have e4' : w10.ownsInts (w2.heap.size + 1) 3 .i64 v9 (posL l (k + j) (bAt l (k + j)) (bAt l (k + j + 1)) (bAt l (k + j + 2))) := e4.kept e2 (by
                    cases hvb : v9.ownBlock with
                    | none => exact .inl rfl
                    | some g => exact .inr (fun e => by have := (e4.1.lt g hvb).1; cases e; omega))
                  have hpl := posL_len l (k + j) (bAt l (k + j)) (bAt l (k + j + 1)) (bAt l (k + j + 2))
                  generalize posL l (k + j) (bAt l (k + j)) (bAt l (k + j + 1)) (bAt l (k + j + 2)) = zs at e4 e4' e5 hpl
                  erw [e1]
                  rw [Result.andThen_ok, Oper.upon_value]
                  refine hKK _ _ ?_
                  clear hKK hQ8 hQ9 k8 k9 e1 e4
                  replace e2 : Hid _ := e2
                  replace e5 : Hid _ := e5
                  replace e3 : Hid _ := e3
                  replace e4' : Hid _ := e4'
                  replace c9 : Hid _ := c9
                  replace s9 : Hid _ := s9
                  replace z8 : Hid _ := z8
                  replace hm8 : Hid _ := hm8
                  obtain ⟨i3, hi3, hz1, hz2, hz3⟩ := info_parts (P := Tryz.prog) (e := 3) (z := .int .i64 0) (size := 1) (bytes := 8) (by kernel_rfl)
                  go_frame
                  refine wpList_extract0 rfl (.tmp 71) rfl rfl ?_
                  go_frame
                  at_builtin
                  refine wpList_append_own_at _ rfl _ _ 164 rfl (w2.heap.size + 1) 3 i3 (.int .i64 0) 1 8 Tryz.underlying164 hi3 hz1 hz2 hz3 rfl (by decide) v9 zs.length (zs.map (Value.int .i64)) rfl e4'.out.1 _ _ _ [.int .i64 ((k : Int) + (j : Int))] rfl rfl c9.out (fun v hv => by rw [List.mem_singleton] at hv; subst hv; rfl) (by have := hpl; unfold maxLen; omega) (by have := hpl; omega) (by have := hm8.out; have := z8.out; have := s9.out; have := e3.out; omega) ?_
                  intro v' w11 ho11 hg11 _ hl11
                  have ho11' := World.ownsInts.appended (w := w10) e4'.out ho11 (wfk (by omega))
                  obtain ⟨w12, r1, r2, r3⟩ := e5.out w11 v' hg11 ho11' (hl11.imp id fun h => ⟨_, h, by have := e3.out; omega⟩)
                  clear ho11 hg11 hl11 ho11' e5 e4' c9
                  replace r2 : Hid _ := r2
                  replace r3 : Hid _ := r3
                  go_frame
                  refine wpList_extract1 rfl (.tmp 71) rfl rfl ?_
                  go_frame
                  refine wpList_entryStore rfl (.tmp 66) (.tmp 73) (.tmp 72) 176 rfl rfl rfl rfl r1 ?_
                  clear r1
                  go_frame
                  go_wp2
                  exact ⟨⟨j + 1, hjn, by congr 1 <;> omega, by congr 1 <;> omega, r2⟩, by simp only [Go.RowKit.intOf]; omega⟩
                · have eT : triA l (k + j) = (0, 0, 0, false) := if_neg h3j
                  rw [eT] at hatj
                  replace hatj : Hid _ := hatj
                  replace hwr1 : Hid _ := hwr1
                  replace hwr2 : Hid _ := hwr2
                  clear eT
                  go_wp2_with (first
                    | (go_at_call 74; refine Calls.mono (hatj.out _) ?_; clear hatj; rintro e w7 ⟨rfl, b7⟩
                       have hQ7 := hQ.out.grow b7
                       replace hQ7 : Hid _ := hQ7)
                    | (refine wpList_allocStore _ rfl rfl 11 178 rfl rfl _ rfl rfl leaves304 Tryz.zeroValue178 (by rfl) (by simp) [.int .u8 0, .int .u8 0, .int .u8 0] w7.heap.size rfl rfl rfl (one3 _ _ _) ?_; intro w8 b8 s8 k8; go_frame
                       have hQ8 := (hQ7.out.grow b8).skip (by omega)
                       clear hQ hQ7 b7
                       replace hQ8 : Hid _ := hQ8
                       replace k8 : Hid _ := k8)
                    | go_in)
                  exact ⟨⟨j + 1, hjn, by congr 1 <;> omega, by congr 1 <;> omega, hQ8⟩, by simp only [Go.RowKit.intOf]; omega⟩
              · have hjz : j = Z.1 := by omega
                subst hjz
                go_wp2
                exact ⟨⟨k + Z.1, Z.2, rb6, rfl, hkj, hL2, hstep.out.2.2, hQ⟩, by have := hstep.out.1.1; simp only [Go.RowKit.intOf]; omega⟩
          · rename_i hz
            have hz0 : (bestF l k (posL l k (bAt l k) (bAt l (k + 1)) (bAt l (k + 2)))).1 ≠ 0 := beq_eq_false_iff_ne.1 hz
            have hB := (bestF_c l hle (Nat.le_of_lt hp) (fun z hz => posL_mem hz) (Nat.le_trans (posL_len l k (bAt l k) (bAt l (k + 1)) (bAt l (k + 2))) (by omega))).2
            have eS : stepZ l k st = ((bestF l k (posL l k (bAt l k) (bAt l (k + 1)) (bAt l (k + 2)))).1.toNat, g5 f___celluloid_deflate_writer__run [.i (bestF l k (posL l k (bAt l k) (bAt l (k + 1)) (bAt l (k + 2)))).1, .i (bestF l k (posL l k (bAt l k) (bAt l (k + 1)) (bAt l (k + 2)))).2] st) := if_pos ⟨h3, hz0⟩
            have hL2 := hL_next hL.out hp hstep.out.1.1
            have eN : Value.int .i64 (bestF l k (posL l k (bAt l k) (bAt l (k + 1)) (bAt l (k + 2)))).1 = Value.int .i64 (((stepZ l k st).1 - 0 : Nat) : Int) := by
              rw [eS]
              congr 1
              show _ = (((bestF l k (posL l k (bAt l k) (bAt l (k + 1)) (bAt l (k + 2)))).1.toNat : Nat) : Int)
              rcases hB with h | h <;> omega
            have hR6 : ∃ rb', RawI l w w6 w2.heap.size k rb' (stepZ l k st).2 := by rw [eS]; exact hR6
            replace eN : Hid _ := eN
            replace hL2 : Hid _ := hL2
            generalize (bestF l k (posL l k (bAt l k) (bAt l (k + 1)) (bAt l (k + 2)))) = BB at eN ⊢
            clear hL eS hz hz0 hB hst hstk hbk hatD s4
            obtain ⟨rb6, hR6⟩ := hR6
            replace hR6 : Hid _ := hR6
            generalize stepZ l k st = Z at hstep hL2 hR6 eN
            go_loopw [6, 9] (fun i n wq => ∃ j : Nat, j ≤ Z.1 ∧ i = .int .i64 ((k + j : Nat) : Int) ∧ n = .int .i64 ((Z.1 - j : Nat) : Int) ∧ Hid (RawI l w wq w2.heap.size (k + j) rb6 Z.2))
              (fun i n wq => (Go.RowKit.intOf n).toNat)
            case atStart =>
              exact ⟨0, Nat.zero_le _, rfl, eN.out, hR6⟩
            case round =>
              obtain ⟨j, hj, rfl, rfl, hQ⟩ := hrel
              have hkj : k + Z.1 ≤ l.length := hstep.out.1.2
              have hatj := hat.out (k + j) (by omega)
              clear hR6 hat
              by_cases hjn : j < Z.1
              · have hQL : k + j < l.length := by omega
                have hwr1 : Go.RowKit.wrap64 (((k + j : Nat) : Int) + 1) = ((k + (j + 1) : Nat) : Int) := by unfold Go.RowKit.wrap64; omega
                have hwr2 : Go.RowKit.wrap64 (((Z.1 - j : Nat) : Int) - 1) = ((Z.1 - (j + 1) : Nat) : Int) := by unfold Go.RowKit.wrap64; omega
                by_cases h3j : k + j + 3 ≤ l.length
                · have eT : triA l (k + j) = (bAt l (k + j), bAt l (k + j + 1), bAt l (k + j + 2), true) := if_pos h3j
                  rw [eT] at hatj
                  replace hatj : Hid _ := hatj
                  replace hwr1 : Hid _ := hwr1
                  replace hwr2 : Hid _ := hwr2
                  clear eT
                  go_wp2_with (first
                    | (go_at_call 74; refine Calls.mono (hatj.out _) ?_; clear hatj; rintro e w7 ⟨rfl, b7⟩
                       have hQ7 := hQ.out.grow b7
                       replace hQ7 : Hid _ := hQ7)
                    | (refine wpList_allocStore _ rfl rfl 11 178 rfl rfl _ rfl rfl leaves304 Tryz.zeroValue178 (by rfl) (by simp) [.int .u8 (bAt l (k + j)), .int .u8 (bAt l (k + j + 1)), .int .u8 (bAt l (k + j + 2))] w7.heap.size rfl rfl rfl (one3 _ _ _) ?_; intro w8 b8 s8 k8; go_frame
                       have hQ8 := hQ7.out.grow b8
                       clear hQ hQ7 b7
                       replace hQ8 : Hid _ := hQ8
                       replace k8 : Hid _ := k8)
                    | (refine wpList_load _ rfl _ 178 rfl leaves304 (by kernel_rfl) w7.heap.size 0 rfl [.int .u8 (bAt l (k + j)), .int .u8 (bAt l (k + j + 1)), .int .u8 (bAt l (k + j + 2))] rfl (fun i hi => by rw [Nat.zero_add, cell_block k8.out]; exact getD_some hi) ?_; go_frame)
                    | go_in)
                  rename_i KK hKK
                  have hQ9 := hQ8.out.grow (w' := w8.alloc (.cells #[.int .i64 ((k : Int) + (j : Int))] 3)) (Bel.ofBelow ((Below.refl _ w8).alloc (Nat.le_refl _) _))
                  have k9 : (w8.alloc (.cells #[.int .i64 ((k : Int) + (j : Int))] 3)).heap[w8.heap.size]? = some (.cells #[.int .i64 ((k : Int) + (j : Int))] 3 (0, 0)) := heap_alloc_new w8 _
                  have s9 : (w8.alloc (.cells #[.int .i64 ((k : Int) + (j : Int))] 3)).heap.size = w8.heap.size + 1 := by simp
                  generalize w8.alloc (.cells #[.int .i64 ((k : Int) + (j : Int))] 3) = w9 at hQ9 k9 s9 ⊢
                  obtain ⟨v9, st9, w10, e1, e2, e3, e4, e5⟩ := hQ9.entry h3j hle
                  have z8 := b8.size
                  have hm8 := hQ8.out.mlt
                  have c9 : ∀ jj u, [Value.int .i64 ((k : Int) + (j : Int))][jj]? = some u → w10.cell? ((⟨w7.heap.size + 1, 0, none⟩ : Addr).add jj) = some u := fun jj u hu => by
                    rw [← s8, addr_add0', cell_cellH, cellH_congr (e2.block _ (by omega) (fun e => by have := Option.some.inj e; omega)), cellH_of k9]
                    simpa using hu
                  have e4' : w10.ownsInts (w2.heap.size + 1) 3 .i64 v9 (posL l (k + j) (bAt l (k + j)) (bAt l (k + j + 1)) (bAt l (k + j + 2))) := e4.kept e2 (by
                    cases hvb : v9.ownBlock with
                    | none => exact .inl rfl
                    | some g => exact .inr (fun e => by have := (e4.1.lt g hvb).1; cases e; omega))
                  have hpl := posL_len l (k + j) (bAt l (k + j)) (bAt l (k + j + 1)) (bAt l (k + j + 2))
                  generalize posL l (k + j) (bAt l (k + j)) (bAt l (k + j + 1)) (bAt l (k + j + 2)) = zs at e4 e4' e5 hpl
                  erw [e1]
                  rw [Result.andThen_ok, Oper.upon_value]
                  refine hKK _ _ ?_
                  clear hKK hQ8 hQ9 k8 k9 e1 e4
                  replace e2 : Hid _ := e2
                  replace e5 : Hid _ := e5
                  replace e3 : Hid _ := e3
                  replace e4' : Hid _ := e4'
                  replace c9 : Hid _ := c9
                  replace s9 : Hid _ := s9
                  replace z8 : Hid _ := z8
                  replace hm8 : Hid _ := hm8
                  obtain ⟨i3, hi3, hz1, hz2, hz3⟩ := info_parts (P := Tryz.prog) (e := 3) (z := .int .i64 0) (size := 1) (bytes := 8) (by kernel_rfl)
                  go_frame
                  refine wpList_extract0 rfl (.tmp 71) rfl rfl ?_
                  go_frame
                  at_builtin
                  refine wpList_append_own_at _ rfl _ _ 164 rfl (w2.heap.size + 1) 3 i3 (.int .i64 0) 1 8 Tryz.underlying164 hi3 hz1 hz2 hz3 rfl (by decide) v9 zs.length (zs.map (Value.int .i64)) rfl e4'.out.1 _ _ _ [.int .i64 ((k : Int) + (j : Int))] rfl rfl c9.out (fun v hv => by rw [List.mem_singleton] at hv; subst hv; rfl) (by have := hpl; unfold maxLen; omega) (by have := hpl; omega) (by have := hm8.out; have := z8.out; have := s9.out; have := e3.out; omega) ?_
                  intro v' w11 ho11 hg11 _ hl11
                  have ho11' := World.ownsInts.appended (w := w10) e4'.out ho11 (wfk (by omega))
                  obtain ⟨w12, r1, r2, r3⟩ := e5.out w11 v' hg11 ho11' (hl11.imp id fun h => ⟨_, h, by have := e3.out; omega⟩)
                  clear ho11 hg11 hl11 ho11' e5 e4' c9
                  replace r2 : Hid _ := r2
                  replace r3 : Hid _ := r3
                  go_frame
                  refine wpList_extract1 rfl (.tmp 71) rfl rfl ?_
                  go_frame
                  refine wpList_entryStore rfl (.tmp 66) (.tmp 73) (.tmp 72) 176 rfl rfl rfl rfl r1 ?_
                  clear r1
                  go_frame
                  go_wp2
                  exact ⟨⟨j + 1, hjn, by congr 1 <;> omega, by congr 1 <;> omega, r2⟩, by simp only [Go.RowKit.intOf]; omega⟩
                · have eT : triA l (k + j) = (0, 0, 0, false) := if_neg h3j
                  rw [eT] at hatj
                  replace hatj : Hid _ := hatj
                  replace hwr1 : Hid _ := hwr1
                  replace hwr2 : Hid _ := hwr2
                  clear eT
                  go_wp2_with (first
                    | (go_at_call 74; refine Calls.mono (hatj.out _) ?_; clear hatj; rintro e w7 ⟨rfl, b7⟩
                       have hQ7 := hQ.out.grow b7
                       replace hQ7 : Hid _ := hQ7)
                    | (refine wpList_allocStore _ rfl rfl 11 178 rfl rfl _ rfl rfl leaves304 Tryz.zeroValue178 (by rfl) (by simp) [.int .u8 0, .int .u8 0, .int .u8 0] w7.heap.size rfl rfl rfl (one3 _ _ _) ?_; intro w8 b8 s8 k8; go_frame
                       have hQ8 := (hQ7.out.grow b8).skip (by omega)
                       clear hQ hQ7 b7
                       replace hQ8 : Hid _ := hQ8
                       replace k8 : Hid _ := k8)
                    | go_in)
                  exact ⟨⟨j + 1, hjn, by congr 1 <;> omega, by congr 1 <;> omega, hQ8⟩, by simp only [Go.RowKit.intOf]; omega⟩
              · have hjz : j = Z.1 := by omega
                subst hjz
                go_wp2
                exact ⟨⟨k + Z.1, Z.2, rb6, rfl, hkj, hL2, hstep.out.2.2, hQ⟩, by have := hstep.out.1.1; simp only [Go.RowKit.intOf]; omega⟩
        · have eT : triA l k = (0, 0, 0, false) := if_neg h3
          have hk1 := hat k (by omega)
          rw [eT] at hk1
          replace hk1 : Hid _ := hk1
          replace hat : Hid _ := hat
          replace hst : Hid _ := hst
          clear hsz2 eT
          have hks : k < s.size := by rw [hsz.out]; exact hp
          go_wp2_with (first
            | (go_at_call 74; refine Calls.mono (hk1.out _) ?_; clear hk1; rintro e w3 ⟨rfl, b3⟩
               have hR3 := hR.out.grow b3
               replace hR3 : Hid _ := hR3)
            | (refine wpList_allocStore _ rfl rfl 7 178 rfl rfl _ rfl rfl leaves304 Tryz.zeroValue178 (by rfl) (by simp) [.int .u8 0, .int .u8 0, .int .u8 0] w3.heap.size rfl rfl rfl (one3 _ _ _) ?_; intro w5 b4 s4 k4; go_frame
               have hR5 := hR3.out.grow b4
               clear hR hR3 b3
               replace hR5 : Hid _ := hR5
               replace k4 : Hid _ := k4)
            | (go_at_call 76; simp only [hbk.out]; refine Calls.mono (symbol_calls hstk.out (by have := hst.out; omega) hR5.out.wb) ?_; rintro e w6 ⟨rfl, ho6⟩
               have hR6 := hR5.out.write ho6 (g5_c (symbol5_c (bAt l k) hstk.out (by have := hst.out; omega))).2.1
               clear hR5 ho6)
            | go_in)
          all_goals try (exfalso; omega)
          have hL2 := hL_next hL.out hp hstep.out.1.1
          have eS : stepZ l k st = (1, g5 f___celluloid_deflate_writer__symbol [.i (bAt l k)] st) := if_neg (fun h => h3 h.1)
          have eN : Value.int .i64 1 = Value.int .i64 (((stepZ l k st).1 - 0 : Nat) : Int) := by rw [eS]; rfl
          have hR6 : ∃ rb', RawI l w w6 w2.heap.size k rb' (stepZ l k st).2 := by rw [eS]; exact hR6
          replace eN : Hid _ := eN
          replace hL2 : Hid _ := hL2
          clear hL eS hst hstk hbk s4
          obtain ⟨rb6, hR6⟩ := hR6
          replace hR6 : Hid _ := hR6
          generalize stepZ l k st = Z at hstep hL2 hR6 eN
          go_loopw [6, 9] (fun i n wq => ∃ j : Nat, j ≤ Z.1 ∧ i = .int .i64 ((k + j : Nat) : Int) ∧ n = .int .i64 ((Z.1 - j : Nat) : Int) ∧ Hid (RawI l w wq w2.heap.size (k + j) rb6 Z.2))
            (fun i n wq => (Go.RowKit.intOf n).toNat)
          case atStart =>
            exact ⟨0, Nat.zero_le _, rfl, eN.out, hR6⟩
          case round =>
            obtain ⟨j, hj, rfl, rfl, hQ⟩ := hrel
            have hkj : k + Z.1 ≤ l.length := hstep.out.1.2
            have hatj := hat.out (k + j) (by omega)
            clear hR6 hat
            by_cases hjn : j < Z.1
            · have hQL : k + j < l.length := by omega
              have hwr1 : Go.RowKit.wrap64 (((k + j : Nat) : Int) + 1) = ((k + (j + 1) : Nat) : Int) := by unfold Go.RowKit.wrap64; omega
              have hwr2 : Go.RowKit.wrap64 (((Z.1 - j : Nat) : Int) - 1) = ((Z.1 - (j + 1) : Nat) : Int) := by unfold Go.RowKit.wrap64; omega
              by_cases h3j : k + j + 3 ≤ l.length
              · exact absurd h3j (by omega)
              · have eT : triA l (k + j) = (0, 0, 0, false) := if_neg h3j
                rw [eT] at hatj
                replace hatj : Hid _ := hatj
                replace hwr1 : Hid _ := hwr1
                replace hwr2 : Hid _ := hwr2
                clear eT
                go_wp2_with (first
                  | (go_at_call 74; refine Calls.mono (hatj.out _) ?_; clear hatj; rintro e w7 ⟨rfl, b7⟩
                     have hQ7 := hQ.out.grow b7
                     replace hQ7 : Hid _ := hQ7)
                  | (refine wpList_allocStore _ rfl rfl 11 178 rfl rfl _ rfl rfl leaves304 Tryz.zeroValue178 (by rfl) (by simp) [.int .u8 0, .int .u8 0, .int .u8 0] w7.heap.size rfl rfl rfl (one3 _ _ _) ?_; intro w8 b8 s8 k8; go_frame
                     have hQ8 := (hQ7.out.grow b8).skip (by omega)
                     clear hQ hQ7 b7
                     replace hQ8 : Hid _ := hQ8
                     replace k8 : Hid _ := k8)
                  | go_in)
                exact ⟨⟨j + 1, hjn, by congr 1 <;> omega, by congr 1 <;> omega, hQ8⟩, by simp only [Go.RowKit.intOf]; omega⟩
            · have hjz : j = Z.1 := by omega
              subst hjz
              go_wp2
              exact ⟨⟨k + Z.1, Z.2, rb6, rfl, hkj, hL2, hstep.out.2.2, hQ⟩, by have := hstep.out.1.1; simp only [Go.RowKit.intOf]; omega⟩
      · have hkl : k = l.length := by omega
        subst hkl
        have hfin : loopZ l l.length 0 S0 = st := by
          obtain ⟨f, h1, _⟩ := hL.out
          rw [← h1]
          exact loop_end l f _ st (Nat.le_refl _)
        have hstk := hR.out.wk
        replace hstk : Hid _ := hstk
        replace hst : Hid _ := hst
        replace hfin : Hid _ := hfin
        go_wp2_with (first
          | (go_at_call 76; refine Calls.mono (symbol_calls hstk.out (by have := hst.out; omega) hR.out.wb) ?_; rintro e w6 ⟨rfl, ho6⟩
             have hR6 := hR.out.write ho6 (g5_c (symbol5_c 256 hstk.out (by have := hst.out; omega))).2.1
             obtain ⟨rb6, hR6⟩ := hR6
             rw [← hfin.out, hF.out] at hR6
             obtain ⟨v6, ty6, f6, q6, _⟩ := hR6.wb.ex
             have c6 : w6.cell? ⟨w.heap.size, 0, none⟩ = some v6 := by rw [cell_cellH, cellH_of q6]; rfl
             obtain ⟨x6, ⟨a6, n6, k6, rfl⟩, x1, x2⟩ := run_toString (P := Tryz.prog) hR6.wb Tryz.underlying5 c6
             have x1 := (run_convert_bytes_string w6 83 9 5 a6 n6 k6 Tryz.underlying83 Tryz.underlying5 Tryz.underlying9).trans x1
             have bl6 := hR6.bel
             clear hR hR6 ho6 q6
             replace x1 : Hid _ := x1
             replace x2 : Hid _ := x2
             replace bl6 : Hid _ := bl6)
          | go_in)
        rename_i KK hKK
        rw [x1.out, Result.andThen_ok, Oper.upon_value]
        refine hKK _ _ ?_
        clear hKK
        go_frame
        go_wp2
        go_ret2
        exact ⟨.inr ⟨hle, x6, rfl, x2.out⟩, bl6.out⟩
end Go.AI
