/- A list of one shape, or of nothing, walked. -/
import Derived.Test.YtlahaamidmbajaaGreatT22i
set_option linter.unusedVariables false
set_option linter.unusedSimpArgs false
namespace Go.AI
open Go Go.RowKit Go.Proofs Go.Maps
theorem leaves121 : leaves Tryz.prog 121 = some ((leaves Tryz.prog 121).getD []) := by kernel_rfl
theorem leaves121_length : ((leaves Tryz.prog 121).getD []).length = 18 := by kernel_rfl
theorem leaves84 : leaves Tryz.prog 84 = some [.sl 3] := by kernel_rfl
theorem listL_at (tg msk : Value) (fr ns : Int) (m c : Nat → Int) : ∀ i, i < (listL tg fr m c msk ns).length → (listL tg fr m c msk ns)[i]? = some ((listL tg fr m c msk ns).getD i undef) := fun i hi => getD_some hi
theorem listL_one {tg msk : Value} (h1 : tg.oneCell' = true) (h2 : msk.oneCell' = true) (fr ns : Int) (m c : Nat → Int) : ∀ v, v ∈ listL tg fr m c msk ns → v.oneCell' = true := by
  intro v hv
  simp only [listL, List.mem_cons, List.not_mem_nil, or_false] at hv
  rcases hv with rfl | rfl | rfl | rfl | rfl | rfl | rfl | rfl | rfl | rfl | rfl | rfl | rfl | rfl | rfl | rfl | rfl | rfl <;> first | exact h1 | exact h2 | rfl
set_option maxHeartbeats 2000000 in
set_option maxRecDepth 1000000 in
theorem show0_walk (bb : Nat) (ad : Option Addr) (tn tc : Nat) (fr ns : Int) (m c : Nat → Int) (out : Value) (w : World)
    (hit : ∀ w0, Bel w.heap.size w w0 → Calls Tryz.prog 12 #[.slice ad tn tc, .int .i64 fr] w0 fun e w' => ∃ a2 cp2, e = .returned (.slice a2 0 cp2) ∧ Bel w0.heap.size w0 w') :
    Calls Tryz.prog 32 #[.pointer (some ⟨bb, 0, none⟩), .agg (listL (.slice ad tn tc) fr m c (.slice none 0 0) ns).toArray, out] w fun e w' => e = .returned (.tuple #[]) ∧ Bel w.heap.size w w' := by
  have bw : Bel w.heap.size w (w.alloc (.cells (listL (.slice ad tn tc) fr m c (.slice none 0 0) ns).toArray 121)) := Bel.ofBelow ((Below.refl _ w).alloc (Nat.le_refl _) _)
  have k0 := heap_alloc_new w (.cells (listL (.slice ad tn tc) fr m c (.slice none 0 0) ns).toArray 121)
  have s0 : (w.alloc (.cells (listL (.slice ad tn tc) fr m c (.slice none 0 0) ns).toArray 121)).heap.size = w.heap.size + 1 := by simp
  have c0 : (w.alloc (.cells (listL (.slice ad tn tc) fr m c (.slice none 0 0) ns).toArray 121)).cell? ⟨w.heap.size, 0, none⟩ = some (.slice ad tn tc) := cell_block k0 0
  have c1 : (w.alloc (.cells (listL (.slice ad tn tc) fr m c (.slice none 0 0) ns).toArray 121)).cell? ⟨w.heap.size, 1, none⟩ = some (.int .i64 fr) := cell_block k0 1
  have hit := hit _ bw
  generalize hW : w.alloc (.cells (listL (.slice ad tn tc) fr m c (.slice none 0 0) ns).toArray 121) = W at bw k0 s0 c0 c1 hit
  replace hit : Hid _ := hit
  replace k0 : Hid _ := k0
  replace s0 : Hid _ := s0
  go_enter Tryz.func32, Tryz.ntmps32
  go_wp2_with (go_at_call 12; refine Calls.mono hit.out ?_; rintro e w1 ⟨a2, cp2, rfl, b1⟩)
  refine wp_loop_rounds 1 ?_
  rw [rounds_succ]
  go_wp2
  go_end0
  exact ⟨rfl, bw.trans (b1.mono bw.size)⟩
set_option maxHeartbeats 2000000 in
set_option maxRecDepth 1000000 in
theorem show1_walk (bb mb n : Nat) (D : DataW Value) (mv : Value) (ad : Option Addr) (tn tc : Nat) (fr ns : Int) (m c M X x : Nat → Int) (C : List Value) (r g b a many : Int) (w : World)
    (hbb : w.heap[bb]? = some (.cells (bldC (.slice none 0 0) mv r g b a many 0 mb) 113 (0, 0)))
    (hown : w.ownsMap Tryz.prog 3 tgR mb n D) (hmany : 0 ≤ many ∧ many < 256)
    (hwx : (Lit.int .i64 (x 1)).wf = true) (hat : ∀ zd, D.atKey (.int .i64 (x 1)) zd = .held (.agg C.toArray)) (hC : C.length = 55) (hC1 : ∀ v, v ∈ C → v.oneCell' = true) (hC0 : C[0]? = some (.int .i64 32)) (hx17 : x 17 = 0)
    (hcomp : ∀ w0, Calls Tryz.prog 96 #[.agg (matL m).toArray, .agg (matL (fun i => x (2 + i))).toArray] w0 fun e w' => e = .returned (.tuple #[.agg (matL M).toArray, .int .i64 0]) ∧ Bel w0.heap.size w0 w')
    (hcx : ∀ w0, Calls Tryz.prog 97 #[.agg (cxLv c).toArray, .agg (cxLv (fun i => x (8 + i))).toArray] w0 fun e w' => e = .returned (.agg (cxLv X).toArray) ∧ Bel w0.heap.size w0 w')
    (hit : ∀ w0, Bel w.heap.size w w0 → Calls Tryz.prog 12 #[.slice ad tn tc, .int .i64 fr] w0 fun e w' => ∃ gi cp, e = .returned (.slice (some ⟨gi, 0, none⟩) 1 cp) ∧ w0.heap.size ≤ gi ∧ gi < w'.heap.size ∧ Bel w0.heap.size w0 w' ∧ ∀ j, j < 19 → w'.cell? ⟨gi, j, none⟩ = some ((itL x).getD j undef)) :
    Calls Tryz.prog 32 #[.pointer (some ⟨bb, 0, none⟩), .agg (listL (.slice ad tn tc) fr m c (.slice none 0 0) ns).toArray, .pointer (some ⟨bb, 0, none⟩)] w fun e w' => e = .returned (.tuple #[]) ∧ ItemOut bb mb mv r g b a many (leafL C M X (.slice none 0 0)) w w' := by
  have hlt : bb < w.heap.size := (Array.getElem?_eq_some_iff.1 hbb).1
  have bw : Bel w.heap.size w (w.alloc (.cells (listL (.slice ad tn tc) fr m c (.slice none 0 0) ns).toArray 121)) := Bel.ofBelow ((Below.refl _ w).alloc (Nat.le_refl _) _)
  have k0 := heap_alloc_new w (.cells (listL (.slice ad tn tc) fr m c (.slice none 0 0) ns).toArray 121)
  have s0 : (w.alloc (.cells (listL (.slice ad tn tc) fr m c (.slice none 0 0) ns).toArray 121)).heap.size = w.heap.size + 1 := by simp
  have c0 : (w.alloc (.cells (listL (.slice ad tn tc) fr m c (.slice none 0 0) ns).toArray 121)).cell? ⟨w.heap.size, 0, none⟩ = some (.slice ad tn tc) := cell_block k0 0
  have c1 : (w.alloc (.cells (listL (.slice ad tn tc) fr m c (.slice none 0 0) ns).toArray 121)).cell? ⟨w.heap.size, 1, none⟩ = some (.int .i64 fr) := cell_block k0 1
  have hit := hit _ bw
  generalize hW : w.alloc (.cells (listL (.slice ad tn tc) fr m c (.slice none 0 0) ns).toArray 121) = W at bw k0 s0 c0 c1 hit
  replace hit : Hid _ := hit
  replace k0 : Hid _ := k0
  replace s0 : Hid _ := s0
  have hbb : Hid _ := hbb
  go_enter Tryz.func32, Tryz.ntmps32
  go_wp2_with (go_at_call 12; refine Calls.mono hit.out ?_; rintro e w1 ⟨gi, cp, rfl, hg1, hg2, b1, hcell⟩)
  refine wp_loop_rounds 2 ?_
  rw [rounds_succ]
  have kb1 : w1.heap[bb]? = some (.cells (bldC (.slice none 0 0) mv r g b a many 0 mb) 113 (0, 0)) := ((b1.block bb (by rw [s0.out]; omega)).trans (bw.block bb hlt)).trans hbb.out
  have z1 := b1.size
  rw [s0.out] at z1
  have k01 : w1.heap[w.heap.size]? = some (.cells (listL (.slice ad tn tc) fr m c (.slice none 0 0) ns).toArray 121 (0, 0)) := (b1.block _ (by rw [s0.out]; omega)).trans k0.out
  have o1 : ∀ k, k < w.heap.size → w1.heap[k]? = w.heap[k]? := fun k hk => (b1.block k (by rw [s0.out]; omega)).trans (bw.block k hk)
  have en1 : Env w w1 := ⟨b1.env.1.trans bw.env.1, b1.env.2.trans bw.env.2⟩
  have hgi : w.heap.size + 1 ≤ gi := by rw [s0.out] at hg1; exact hg1
  clear b1 hg1 hit c0 c1
  replace hcell : Hid _ := hcell
  replace kb1 : Hid _ := kb1
  replace k01 : Hid _ := k01
  go_wp2_with (first
    | (refine wpList_load _ rfl _ 82 rfl leaves82 (by kernel_rfl) gi 0 rfl (itL x) rfl (fun i hi => by rw [Nat.zero_add]; exact hcell.out i hi) ?_; go_frame)
    | (refine wpList_allocStore _ rfl rfl 8 82 rfl rfl _ rfl rfl leaves82 Tryz.zeroValue82 (by rfl) (by simp) (itL x) w1.heap.size rfl rfl rfl (itL_one x) ?_; intro w2 b2 s2 k2; go_frame
       have c28 : w2.cell? ⟨bb, 8, none⟩ = some (.int .i64 0) := (cell_block ((b2.block bb (by omega)).trans kb1.out) 8)
       have k02 : w2.heap[w.heap.size]? = _ := (b2.block _ (by omega)).trans k01.out
       replace k02 : Hid _ := k02
       replace k2 : Hid _ := k2)
    | (refine wpList_load _ rfl _ 121 rfl leaves121 (by kernel_rfl) w.heap.size 0 rfl (listL (.slice ad tn tc) fr m c (.slice none 0 0) ns) (by rw [leaves121_length]; rfl) (fun i hi => by rw [Nat.zero_add, cell_block k02.out]; exact listL_at _ _ _ _ _ _ i hi) ?_; go_frame)
    | (refine wpList_allocStore _ rfl rfl 9 121 rfl rfl _ rfl rfl leaves121 Tryz.zeroValue121 (by rw [leaves121_length]; rfl) (by simp) (listL (.slice ad tn tc) fr m c (.slice none 0 0) ns) (w1.heap.size + 1) s2 rfl (by rw [leaves121_length]; rfl) (listL_one rfl rfl _ _ _ _) ?_; intro w3 b3 s3 k3; go_frame
       have z2 := b2.size
       have z3 := b3.size
       have c316 : w3.cell? ⟨w.heap.size, 16, none⟩ = some (.slice none 0 0) := (cell_block ((b3.block _ (by omega)).trans k02.out) 16)
       replace k3 : Hid _ := k3)
    | (go_at_call 58; refine (clone_none _).mono ?_; rintro e w4 ⟨rfl, rfl⟩)
    | (refine wpList_storeAt rfl (.tmp 32) (.tmp 31) 84 rfl rfl leaves84 (w1.heap.size + 1) 16 _ 121 k3.out (.slice none 0 0) [.slice none 0 0] rfl rfl rfl rfl (Nat.le_of_ble_eq_true rfl) (by intro v hv; rw [List.mem_singleton] at hv; subst hv; rfl) ?_; intro w5 s5 n5 k5 en5
       have k25 : w5.heap[w1.heap.size]? = some (.cells (itL x).toArray 82 (0, 0)) := (n5 _ (by omega)).trans ((b3.block _ (by omega)).trans k2.out)
       have c517 : w5.cell? ⟨w1.heap.size, 17, none⟩ = some (.int .i64 (x 17)) := cell_block k25 17
       replace k25 : Hid _ := k25
       replace k5 : Hid _ := k5)
    | go_in)
  have k5l : w5.heap[w1.heap.size + 1]? = some (.cells (listL (.slice ad tn tc) fr m c (.slice none 0 0) ns).toArray 121 (0, 0)) := k5.out
  have o5 : ∀ k, k < w.heap.size → w5.heap[k]? = w.heap[k]? := fun k hk => ((n5 k (by omega)).trans ((b3.block k (by omega)).trans (b2.block k (by omega)))).trans (o1 k hk)
  have en5' : Env w w5 := ⟨en5.1.trans (b3.env.1.trans (b2.env.1.trans en1.1)), en5.2.trans (b3.env.2.trans (b2.env.2.trans en1.2))⟩
  have hown5 : w5.ownsMap Tryz.prog 3 tgR mb n D := by
    obtain ⟨es, clock, e1, e2⟩ := hown
    exact ⟨es, clock, (o5 _ (Array.getElem?_eq_some_iff.1 e1).1).trans e1, e2⟩
  have hitem := item_walk bb mb n D (.slice ad tn tc) (.slice none 0 0) mv rfl rfl fr ns m c M X x C r g b a many w5 ((o5 bb hlt).trans hbb.out) hown5 hmany hwx hat hC hC1 hC0 hcomp hcx
  replace hitem : Hid _ := hitem
  replace k5l : Hid _ := k5l
  clear hown hown5 hcomp hcx k5 hat
  refine wp_loop_rounds 1 ?_
  rw [rounds_succ]
  go_wp2_with (first
    | (refine wpList_load _ rfl _ 121 rfl leaves121 (by kernel_rfl) (w1.heap.size + 1) 0 rfl (listL (.slice ad tn tc) fr m c (.slice none 0 0) ns) (by rw [leaves121_length]; rfl) (fun i hi => by rw [Nat.zero_add, cell_block k5l.out]; exact listL_at _ _ _ _ _ _ i hi) ?_; go_frame)
    | (refine wpList_load _ rfl _ 82 rfl leaves82 (by kernel_rfl) w1.heap.size 0 rfl (itL x) rfl (fun i hi => by rw [Nat.zero_add, cell_block k25.out]; exact getD_some hi) ?_; go_frame)
    | (go_at_call 59; refine Calls.mono hitem.out ?_; rintro e w6 ⟨rfl, hout⟩; replace hout : Hid _ := hout)
    | go_in)
  rw [rounds_succ]
  go_wp2
  go_end0
  obtain ⟨q1, q2, q3, gb, cp2, q4, q5, q6, q7, q8, q9⟩ := hout.out
  have z5 : w.heap.size ≤ w5.heap.size := by omega
  exact ⟨rfl, ⟨q1.1.trans en5'.1, q1.2.trans en5'.2⟩, by omega, fun k hk hkb => (q3 k (by omega) hkb).trans (o5 k hk), gb, cp2, q4, by omega, q6, q7, q8, q9⟩
end Go.AI
