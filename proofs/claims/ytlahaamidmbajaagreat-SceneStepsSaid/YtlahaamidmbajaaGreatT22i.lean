/- An item that is a shape, walked: its leaf. -/
import Derived.Test.YtlahaamidmbajaaGreatT22o
import Derived.Test.YtlahaamidmbajaaGreatAiW
set_option linter.unusedVariables false
set_option linter.unusedSimpArgs false
namespace Go.AI
open Go Go.RowKit Go.Proofs Go.Maps
def matL (m : Nat → Int) : List Value := [.int .i64 (m 0), .int .i64 (m 1), .int .i64 (m 2), .int .i64 (m 3), .int .i64 (m 4), .int .i64 (m 5)]
def cxLv (c : Nat → Int) : List Value := [.int .i64 (c 0), .int .i64 (c 1), .int .i64 (c 2), .int .i64 (c 3), .int .i64 (c 4), .int .i64 (c 5), .int .i64 (c 6), .int .i64 (c 7)]
def listL (tg : Value) (fr : Int) (m c : Nat → Int) (msk : Value) (ns : Int) : List Value := [tg, .int .i64 fr, .int .i64 (m 0), .int .i64 (m 1), .int .i64 (m 2), .int .i64 (m 3), .int .i64 (m 4), .int .i64 (m 5),
  .int .i64 (c 0), .int .i64 (c 1), .int .i64 (c 2), .int .i64 (c 3), .int .i64 (c 4), .int .i64 (c 5), .int .i64 (c 6), .int .i64 (c 7), msk, .int .i64 ns]
def shL (C : List Value) : List Value := (C.drop 25).take 8
def leafL (C : List Value) (M X : Nat → Int) (msk : Value) : List Value := shL C ++ (matL M ++ (cxLv X ++ [msk]))
abbrev bldC (lv mv : Value) (r g b a many e : Int) (mb : Nat) : Array Value := #[lv, mv, .int .i64 r, .int .i64 g, .int .i64 b, .int .i64 a, .map (some mb), .int .i64 many, .int .i64 e]
open Classical in
/-- how a tag reads: as it is -/
noncomputable def tgR (v : Value) : Option (DataW Value × List MemPlace) := if ∃ C : List Value, v = .agg C.toArray ∧ C.length = 55 ∧ ∀ c, c ∈ C → c.oneCell' = true then some (.held v, []) else none
theorem tgR_mk {C : List Value} (h : C.length = 55) (h1 : ∀ c, c ∈ C → c.oneCell' = true) : tgR (.agg C.toArray) = some (.held (.agg C.toArray), []) := by
  unfold tgR
  rw [if_pos ⟨C, rfl, h, h1⟩]
theorem tgR_inv {v : Value} {z : DataW Value × List MemPlace} (h : tgR v = some z) : z = (.held v, []) ∧ ∃ C : List Value, v = .agg C.toArray ∧ C.length = 55 ∧ ∀ c, c ∈ C → c.oneCell' = true := by
  unfold tgR at h
  split at h
  · rename_i hv
    cases h
    exact ⟨rfl, hv⟩
  · cases h
theorem tgR_zero : ∃ z zd, (∀ w, (zeroValue 80).run Tryz.prog w = .ok z w) ∧ tgR z = some (zd, []) :=
  ⟨_, _, Tryz.zeroValue80, tgR_mk rfl (fun c hc => List.all_eq_true.1 (by rfl) c hc)⟩
theorem run_lookTag {w : World} {mb n : Nat} {D : DataW Value} (h : w.ownsMap Tryz.prog 3 tgR mb n D) (q : Int) (hw : (Lit.int .i64 q).wf = true) {C : List Value} (hat : ∀ zd, D.atKey (.int .i64 q) zd = .held (.agg C.toArray)) :
    (Instr.lookup 111 (.map (some mb)) (.int .i64 q) true).run Tryz.prog w = .ok (.tuple #[.agg C.toArray, .bool true]) w := by
  obtain ⟨z, zd, hz, hzd⟩ := tgR_zero
  obtain ⟨v, ps, hrun, hv⟩ := h.look_ok keyed3 Tryz.underlying111 (hz w) hzd (keyOf_int_mk Tryz.underlying3 hw)
  rw [has_true_of_atKey hat] at hrun
  rw [hrun]
  have := (tgR_inv hv).1
  rw [hat] at this
  cases this
  rfl
theorem cases6 {p : Nat → Prop} (h : p 0 ∧ p 1 ∧ p 2 ∧ p 3 ∧ p 4 ∧ p 5) : ∀ i, i < 6 → p i := by
  obtain ⟨h0, h1, h2, h3, h4, h5⟩ := h
  intro i hi
  match i, hi with
  | 0, _ => exact h0
  | 1, _ => exact h1
  | 2, _ => exact h2
  | 3, _ => exact h3
  | 4, _ => exact h4
  | 5, _ => exact h5
  | i + 6, hi => exact absurd hi (by omega)
theorem cases8 {p : Nat → Prop} (h : p 0 ∧ p 1 ∧ p 2 ∧ p 3 ∧ p 4 ∧ p 5 ∧ p 6 ∧ p 7) : ∀ i, i < 8 → p i := by
  obtain ⟨h0, h1, h2, h3, h4, h5, h6, h7⟩ := h
  intro i hi
  match i, hi with
  | 0, _ => exact h0
  | 1, _ => exact h1
  | 2, _ => exact h2
  | 3, _ => exact h3
  | 4, _ => exact h4
  | 5, _ => exact h5
  | 6, _ => exact h6
  | 7, _ => exact h7
  | i + 8, hi => exact absurd hi (by omega)
theorem listL_m (tg msk : Value) (fr ns : Int) (m c : Nat → Int) : ∀ i, i < 6 → (listL tg fr m c msk ns)[2 + i]? = some ((matL m).getD i undef) := cases6 ⟨rfl, rfl, rfl, rfl, rfl, rfl⟩
theorem listL_c (tg msk : Value) (fr ns : Int) (m c : Nat → Int) : ∀ i, i < 8 → (listL tg fr m c msk ns)[8 + i]? = some ((cxLv c).getD i undef) := cases8 ⟨rfl, rfl, rfl, rfl, rfl, rfl, rfl, rfl⟩
theorem itL_m (x : Nat → Int) : ∀ i, i < 6 → (itL x)[2 + i]? = some ((matL fun i => x (2 + i)).getD i undef) := cases6 ⟨rfl, rfl, rfl, rfl, rfl, rfl⟩
theorem itL_c (x : Nat → Int) : ∀ i, i < 8 → (itL x)[8 + i]? = some ((cxLv fun i => x (8 + i)).getD i undef) := cases8 ⟨rfl, rfl, rfl, rfl, rfl, rfl, rfl, rfl⟩
theorem matL_one (m : Nat → Int) : ∀ v, v ∈ matL m → v.oneCell' = true := fun v hv => List.all_eq_true.1 (rfl : (matL m).all Value.oneCell' = true) v hv
theorem cxLv_one (m : Nat → Int) : ∀ v, v ∈ cxLv m → v.oneCell' = true := fun v hv => List.all_eq_true.1 (rfl : (cxLv m).all Value.oneCell' = true) v hv
theorem shL_len {C : List Value} (h : C.length = 55) : (shL C).length = 8 := by unfold shL; simp [h]
theorem shL_at {C : List Value} (h : C.length = 55) (i : Nat) (hi : i < 8) : C[25 + i]? = some ((shL C).getD i undef) := by
  have : (shL C)[i]? = C[25 + i]? := by unfold shL; rw [List.getElem?_take_of_lt hi, List.getElem?_drop]
  rw [← this]
  exact getD_some (by rw [shL_len h]; exact hi)
theorem shL_one {C : List Value} (h : ∀ v, v ∈ C → v.oneCell' = true) : ∀ v, v ∈ shL C → v.oneCell' = true := fun v hv => h v (List.mem_of_mem_drop (List.mem_of_mem_take hv))
theorem leaves61 : leaves Tryz.prog 61 = some (List.replicate 6 (.int .i64)) := by kernel_rfl
theorem leaves46 : leaves Tryz.prog 46 = some [.int .i64] := by kernel_rfl
theorem leaves64 : leaves Tryz.prog 64 = some (List.replicate 8 (.int .i64)) := by kernel_rfl
theorem leaves71 : leaves Tryz.prog 71 = some ((leaves Tryz.prog 71).getD []) := by kernel_rfl
theorem leaves71_length : ((leaves Tryz.prog 71).getD []).length = 8 := by kernel_rfl
theorem leaves40 : leaves Tryz.prog 40 = some [.sl 86] := by kernel_rfl
theorem leaves86 : leaves Tryz.prog 86 = some ((leaves Tryz.prog 86).getD []) := by kernel_rfl
theorem leaves86_length : ((leaves Tryz.prog 86).getD []).length = 23 := by kernel_rfl
theorem agg40 : isAggB Tryz.prog 40 = false := by kernel_rfl
theorem agg71 : isAggB Tryz.prog 71 = true := by kernel_rfl
theorem agg61 : isAggB Tryz.prog 61 = true := by kernel_rfl
theorem agg64 : isAggB Tryz.prog 64 = true := by kernel_rfl
theorem val_agg {t : TypeId} (h : isAggB Tryz.prog t = true) (vs : List Value) : valOf Tryz.prog t vs = .agg vs.toArray := by unfold valOf; rw [if_pos h]
theorem val_one {t : TypeId} (h : isAggB Tryz.prog t = false) (v : Value) : valOf Tryz.prog t [v] = v := by unfold valOf; rw [if_neg (by rw [h]; exact Bool.false_ne_true)]; rfl
theorem leafL_len {C : List Value} (h : C.length = 55) (M X : Nat → Int) (msk : Value) : (leafL C M X msk).length = 23 := by
  unfold leafL
  rw [List.length_append, shL_len h]
  rfl
theorem leafL_one {C : List Value} (h : ∀ v, v ∈ C → v.oneCell' = true) (M X : Nat → Int) {msk : Value} (hm : msk.oneCell' = true) : ∀ v, v ∈ leafL C M X msk → v.oneCell' = true := by
  intro v hv
  unfold leafL at hv
  rcases List.mem_append.1 hv with hv | hv
  · exact shL_one h v hv
  · rcases List.mem_append.1 hv with hv | hv
    · exact matL_one M v hv
    · rcases List.mem_append.1 hv with hv | hv
      · exact cxLv_one X v hv
      · rw [List.mem_singleton] at hv
        subst hv
        exact hm
theorem leaf_fill (z : Array Value) (hz : z.size = 23) {C : List Value} (h : C.length = 55) (M X : Nat → Int) {msk : Value} (hm : msk.cells = [msk].toArray) :
    Instr.fill (fun i => (#[(0, 8), (8, 6), (14, 8), (22, 1)] : Array (Nat × Nat))[i]?) z [(0, .agg (shL C).toArray), (1, .agg (matL M).toArray), (2, .agg (cxLv X).toArray), (3, msk)] = some (leafL C M X msk).toArray := by
  have hS := shL_len h
  have hzl : z.toList.length = 23 := by rw [Array.length_toList, hz]
  have s1 : (putArr z 0 (shL C)).size = 23 := by rw [putArr_size _ _ _ (by omega), hz]
  have s2 : (putArr (putArr z 0 (shL C)) 8 (matL M)).size = 23 := by rw [putArr_size _ _ _ (by rw [s1]; exact Nat.le_of_ble_eq_true rfl), s1]
  have s3 : (putArr (putArr (putArr z 0 (shL C)) 8 (matL M)) 14 (cxLv X)).size = 23 := by rw [putArr_size _ _ _ (by rw [s2]; exact Nat.le_of_ble_eq_true rfl), s2]
  rw [fill_next (off := 0) (n := 8) (vs := shL C) rfl rfl hS (by omega), fill_next (off := 8) (n := 6) (vs := matL M) rfl rfl rfl (by omega), fill_next (off := 14) (n := 8) (vs := cxLv X) rfl rfl rfl (by omega), fill_next (off := 22) (n := 1) (vs := [msk]) rfl hm rfl (by omega), fill_nil]
  congr 1
  unfold putArr
  congr 1
  have e1 : putAt z.toList 0 (shL C) = shL C ++ z.toList.drop 8 := by
    have := putAt_next [] (shL C) z.toList
    rw [hS] at this
    exact this
  have e2 : putAt (shL C ++ z.toList.drop 8) 8 (matL M) = (shL C ++ matL M) ++ (z.toList.drop 8).drop 6 := by
    have := putAt_next (shL C) (matL M) (z.toList.drop 8)
    rw [hS] at this
    exact this
  have e3 : putAt ((shL C ++ matL M) ++ (z.toList.drop 8).drop 6) 14 (cxLv X) = ((shL C ++ matL M) ++ cxLv X) ++ ((z.toList.drop 8).drop 6).drop 8 := by
    have := putAt_next (shL C ++ matL M) (cxLv X) ((z.toList.drop 8).drop 6)
    rw [List.length_append, hS] at this
    exact this
  have e4 : putAt (((shL C ++ matL M) ++ cxLv X) ++ ((z.toList.drop 8).drop 6).drop 8) 22 [msk] = (((shL C ++ matL M) ++ cxLv X) ++ [msk]) ++ (((z.toList.drop 8).drop 6).drop 8).drop 1 := by
    have := putAt_next ((shL C ++ matL M) ++ cxLv X) [msk] (((z.toList.drop 8).drop 6).drop 8)
    rw [List.length_append, List.length_append, hS] at this
    exact this
  have e5 : (((z.toList.drop 8).drop 6).drop 8).drop 1 = [] := List.eq_nil_of_length_eq_zero (by simp only [List.length_drop]; omega)
  simp only [e1, e2, e3, e4, e5, List.append_nil]
  unfold leafL
  simp only [List.append_assoc]
/-- what an item leaves: one leaf more -/
def ItemOut (bb mb : Nat) (mv : Value) (r g b a many : Int) (lf : List Value) (w w' : World) : Prop := Env w w' ∧ w.heap.size ≤ w'.heap.size ∧ (∀ k, k < w.heap.size → k ≠ bb → w'.heap[k]? = w.heap[k]?) ∧
  ∃ gb cp, w'.heap[bb]? = some (.cells (bldC (.slice (some ⟨gb, 0, none⟩) 1 cp) mv r g b a (many + 1) 0 mb) 113 (0, 0)) ∧ w.heap.size ≤ gb ∧ gb < w'.heap.size ∧ 1 ≤ cp ∧ cp ≤ maxLen ∧ ∀ j, j < 23 → w'.cell? ⟨gb, j, none⟩ = some (lf.getD j undef)
theorem info86 : ∃ z, (Tryz.prog.info? 86).map (fun i => (i.zero, i.size, i.bytes)) = some (some (.agg z), 23, 248) ∧ z.size = 23 := ⟨(leafL (List.replicate 30 (.int .i64 0) ++ [.slice none 0 0, .slice none 0 0, .slice none 0 0]) (fun _ => 0) (fun _ => 0) (.slice none 0 0)).toArray, by kernel_rfl, rfl⟩
set_option maxHeartbeats 2000000 in
set_option maxRecDepth 1000000 in
theorem item_walk (bb mb n : Nat) (D : DataW Value) (tg msk mv : Value) (hmk : msk.cells = [msk].toArray) (hmk1 : msk.oneCell' = true) (fr ns : Int) (m c M X x : Nat → Int) (C : List Value) (r g b a many : Int) (w : World)
    (hbb : w.heap[bb]? = some (.cells (bldC (.slice none 0 0) mv r g b a many 0 mb) 113 (0, 0)))
    (hown : w.ownsMap Tryz.prog 3 tgR mb n D) (hmany : 0 ≤ many ∧ many < 256)
    (hwx : (Lit.int .i64 (x 1)).wf = true) (hat : ∀ zd, D.atKey (.int .i64 (x 1)) zd = .held (.agg C.toArray)) (hC : C.length = 55) (hC1 : ∀ v, v ∈ C → v.oneCell' = true) (hC0 : C[0]? = some (.int .i64 32))
    (hcomp : ∀ w0, Calls Tryz.prog 96 #[.agg (matL m).toArray, .agg (matL (fun i => x (2 + i))).toArray] w0 fun e w' => e = .returned (.tuple #[.agg (matL M).toArray, .int .i64 0]) ∧ Bel w0.heap.size w0 w')
    (hcx : ∀ w0, Calls Tryz.prog 97 #[.agg (cxLv c).toArray, .agg (cxLv (fun i => x (8 + i))).toArray] w0 fun e w' => e = .returned (.agg (cxLv X).toArray) ∧ Bel w0.heap.size w0 w') :
    Calls Tryz.prog 59 #[.pointer (some ⟨bb, 0, none⟩), .agg (listL tg fr m c msk ns).toArray, .agg (itL x).toArray, .pointer (some ⟨bb, 0, none⟩)] w fun e w' => e = .returned (.tuple #[]) ∧ ItemOut bb mb mv r g b a many (leafL C M X msk) w w' := by
  have hlt : bb < w.heap.size := (Array.getElem?_eq_some_iff.1 hbb).1
  have bw : Bel w.heap.size w ((w.alloc (.cells (listL tg fr m c msk ns).toArray 121)).alloc (.cells (itL x).toArray 82)) := Bel.ofBelow (((Below.refl _ w).alloc (Nat.le_refl _) _).alloc (by simp) _)
  have s0 : ((w.alloc (.cells (listL tg fr m c msk ns).toArray 121)).alloc (.cells (itL x).toArray 82)).heap.size = w.heap.size + 2 := by simp
  have k0 : ((w.alloc (.cells (listL tg fr m c msk ns).toArray 121)).alloc (.cells (itL x).toArray 82)).heap[w.heap.size]? = some (.cells (listL tg fr m c msk ns).toArray 121 (0, 0)) := by
    rw [Below.heap_alloc _ _ _ (by simp)]; exact heap_alloc_new w _
  have k1 : ((w.alloc (.cells (listL tg fr m c msk ns).toArray 121)).alloc (.cells (itL x).toArray 82)).heap[w.heap.size + 1]? = some (.cells (itL x).toArray 82 (0, 0)) := by
    have := heap_alloc_new (w.alloc (.cells (listL tg fr m c msk ns).toArray 121)) (.cells (itL x).toArray 82)
    rwa [show (w.alloc (.cells (listL tg fr m c msk ns).toArray 121)).heap.size = w.heap.size + 1 by simp] at this
  generalize hW : (w.alloc (.cells (listL tg fr m c msk ns).toArray 121)).alloc (.cells (itL x).toArray 82) = W at bw s0 k0 k1
  have kb : W.heap[bb]? = some (.cells (bldC (.slice none 0 0) mv r g b a many 0 mb) 113 (0, 0)) := (bw.block bb hlt).trans hbb
  have c7 : W.cell? ⟨bb, 7, none⟩ = some (.int .i64 many) := by rw [cell_cellH, cellH_of kb]; rfl
  have f7 : W.frozen? ⟨bb, 7, none⟩ = false := by simp [World.frozen?, kb]
  replace kb : Hid _ := kb
  replace k0 : Hid _ := k0
  replace k1 : Hid _ := k1
  replace s0 : Hid _ := s0
  clear hbb
  go_enter Tryz.func59, Tryz.ntmps59
  go_wp2
  have kb2 : (W.setCell ⟨bb, 7, none⟩ (.int .i64 (many + 1))).heap[bb]? = some (.cells (bldC (.slice none 0 0) mv r g b a (many + 1) 0 mb) 113 (0, 0)) := setCell_at kb.out _
  have kn2 : ∀ k, k ≠ bb → (W.setCell ⟨bb, 7, none⟩ (.int .i64 (many + 1))).heap[k]? = W.heap[k]? := fun k hk => Below.heap_setCell W _ _ k hk
  have s2 : (W.setCell ⟨bb, 7, none⟩ (.int .i64 (many + 1))).heap.size = w.heap.size + 2 := by rw [setCell_size, s0.out]
  have en2 : Env W (W.setCell ⟨bb, 7, none⟩ (.int .i64 (many + 1))) := ⟨rfl, rfl⟩
  generalize W.setCell ⟨bb, 7, none⟩ (.int .i64 (many + 1)) = W2 at kb2 kn2 s2 en2 ⊢
  have k02 : W2.heap[w.heap.size]? = some (.cells (listL tg fr m c msk ns).toArray 121 (0, 0)) := (kn2 _ (by omega)).trans k0.out
  have k12 : W2.heap[w.heap.size + 1]? = some (.cells (itL x).toArray 82 (0, 0)) := (kn2 _ (by omega)).trans k1.out
  have hown2 : W2.ownsMap Tryz.prog 3 tgR mb n D := by
    obtain ⟨es, clock, e1, e2⟩ := hown
    have hne : mb ≠ bb := fun e => by rw [e] at e1; have := (bw.block bb hlt).trans e1; rw [kb.out] at this; cases this
    exact ⟨es, clock, (kn2 _ hne).trans ((bw.block mb (Array.getElem?_eq_some_iff.1 e1).1).trans e1), e2⟩
  clear hown kb k0 k1 c7 f7 hW
  refine wp_region_held_drew (S := fun w' => ∀ k, k < W2.heap.size → w'.heap[k]? = W2.heap[k]?) (by kernel_rfl) (fun k hk => rfl) (fun hS => ?_)
  refine H_take 0 (some 30) (v := .pointer (some ⟨bb, 0, none⟩)) rfl rfl (by kernel_rfl) (by kernel_rfl) (by kernel_rfl) (fun _ _ _ h => h) hS (by rfl) (fun w' hs => by go_simp) ?_
  simp only [Act.put, List.setIfInBounds_toArray, List.set_cons_zero, List.set_cons_succ]
  refine H_take 1 (some 31) (v := .pointer (some ⟨bb, 0, none⟩)) rfl rfl (by kernel_rfl) (by kernel_rfl) (by kernel_rfl) (fun _ _ _ h => h) hS (by rfl) (fun w' hs => by go_simp) ?_
  simp only [Act.put, List.setIfInBounds_toArray, List.set_cons_zero, List.set_cons_succ]
  refine H_take 2 (some 32) (v := .pointer (some ⟨bb, 6, none⟩)) rfl rfl (by kernel_rfl) (by kernel_rfl) (by kernel_rfl) (fun _ _ _ h => h) hS (by rfl) (fun w' hs => by go_simp) ?_
  simp only [Act.put, List.setIfInBounds_toArray, List.set_cons_zero, List.set_cons_succ]
  refine H_take 3 (some 33) (v := .map (some mb)) rfl rfl (by kernel_rfl) (by kernel_rfl) (by kernel_rfl) (fun _ _ _ h => h) hS (by rfl) (fun w' hs => by 
      have hc : w'.cell? ⟨bb, 6, none⟩ = some (.map (some mb)) := by rw [cell_cellH, cellH_of ((hs _ (by omega)).trans kb2)]; rfl
      go_simp) ?_
  simp only [Act.put, List.setIfInBounds_toArray, List.set_cons_zero, List.set_cons_succ]
  refine H_take 4 (some 34) (v := .pointer (some ⟨w.heap.size + 1, 1, none⟩)) rfl rfl (by kernel_rfl) (by kernel_rfl) (by kernel_rfl) (fun _ _ _ h => h) hS (by rfl) (fun w' hs => by go_simp) ?_
  simp only [Act.put, List.setIfInBounds_toArray, List.set_cons_zero, List.set_cons_succ]
  refine H_take 5 (some 35) (v := .int .i64 (x 1)) rfl rfl (by kernel_rfl) (by kernel_rfl) (by kernel_rfl) (fun _ _ _ h => h) hS (by rfl) (fun w' hs => by 
      have hc : w'.cell? ⟨w.heap.size + 1, 1, none⟩ = some (.int .i64 (x 1)) := by rw [cell_cellH, cellH_of ((hs _ (by omega)).trans k12)]; rfl
      go_simp) ?_
  simp only [Act.put, List.setIfInBounds_toArray, List.set_cons_zero, List.set_cons_succ]
  refine H_take 6 (some 36) (v := .tuple #[.agg C.toArray, .bool true]) rfl rfl (by kernel_rfl) (by kernel_rfl) (by kernel_rfl) (fun _ _ _ h => h) hS (by rfl) (fun w' hs => by 
      have hl := run_lookTag (w := w') (by obtain ⟨es, clock, e1, e2⟩ := hown2; exact ⟨es, clock, (hs _ (Array.getElem?_eq_some_iff.1 e1).1).trans e1, e2⟩) (x 1) hwx hat
      go_simp) ?_
  simp only [Act.put, List.setIfInBounds_toArray, List.set_cons_zero, List.set_cons_succ]
  refine H_take 7 (some 29) (v := .tuple #[.agg C.toArray, .bool true]) rfl rfl (by kernel_rfl) (by kernel_rfl) (by kernel_rfl) (fun _ _ _ h => h) hS (by rfl) (fun w' hs => by go_simp) ?_
  simp only [Act.put, List.setIfInBounds_toArray, List.set_cons_zero, List.set_cons_succ]
  refine H_take 8 (some 37) (v := .agg C.toArray) rfl rfl (by kernel_rfl) (by kernel_rfl) (by kernel_rfl) (fun _ _ _ h => h) hS (by rfl) (fun w' hs => by go_simp) ?_
  simp only [Act.put, List.setIfInBounds_toArray, List.set_cons_zero, List.set_cons_succ]
  refine H_take 9 (some 38) (v := .bool true) rfl rfl (by kernel_rfl) (by kernel_rfl) (by kernel_rfl) (fun _ _ _ h => h) hS (by rfl) (fun w' hs => by go_simp) ?_
  simp only [Act.put, List.setIfInBounds_toArray, List.set_cons_zero, List.set_cons_succ]
  refine H_alloc 10 (some 8) rfl rfl (by kernel_rfl) (by rfl) 80 rfl Tryz.zeroValue80 55 rfl W2.heap.size rfl (fun w3 cs e1 e2 e3 e4 e5 => ⟨fun k hk => e2 k hk, ?_⟩)
  simp only [Act.put, List.setIfInBounds_toArray, List.set_cons_zero, List.set_cons_succ]
  have hS3 : ∀ k, k < W2.heap.size → w3.heap[k]? = W2.heap[k]? := fun k hk => e2 k hk
  refine H_store 11 rfl (by kernel_rfl) (by rfl) rfl (.tmp 8) (.tmp 37) 80 rfl leaves80 W2.heap.size 0 cs 80 e4 (.agg C.toArray) C rfl rfl rfl (by rw [leaves80_length]; exact hC) (by rw [hC, e3]; exact Nat.le_refl 55) hC1 (fun w4 f1 f2 f3 f4 => ⟨fun k hk => (f2 k (by omega)).trans (hS3 k hk), ?_⟩)
  rw [putArr_all (by rw [hC]; exact e3)] at f3
  have hS4 : ∀ k, k < W2.heap.size → w4.heap[k]? = W2.heap[k]? := fun k hk => (f2 k (by omega)).trans (hS3 k hk)
  refine H_take 12 (some 9) (v := .bool true) rfl rfl (by kernel_rfl) (by kernel_rfl) (by kernel_rfl) (fun _ _ _ h => h) hS4 (by rfl) (fun w' hs => by go_simp) ?_
  simp only [Act.put, List.setIfInBounds_toArray, List.set_cons_zero, List.set_cons_succ]
  refine wpAnyH_done (by kernel_rfl) ?_ _
  have s4 : w4.heap.size = w.heap.size + 3 := by rw [f1, e1, s2]
  have kb4 : w4.heap[bb]? = some (.cells (bldC (.slice none 0 0) mv r g b a (many + 1) 0 mb) 113 (0, 0)) := (hS4 _ (by omega)).trans kb2
  have k04 : w4.heap[w.heap.size]? = some (.cells (listL tg fr m c msk ns).toArray 121 (0, 0)) := (hS4 _ (by omega)).trans k02
  have k14 : w4.heap[w.heap.size + 1]? = some (.cells (itL x).toArray 82 (0, 0)) := (hS4 _ (by omega)).trans k12
  have k24 : w4.heap[w.heap.size + 2]? = some (.cells C.toArray 80 (0, 0)) := by rw [← s2]; exact f3
  have bw4 : ∀ k, k < w.heap.size → k ≠ bb → w4.heap[k]? = w.heap[k]? := fun k hk hkb => ((hS4 k (by omega)).trans (kn2 k hkb)).trans (bw.block k hk)
  have en4 : Env w w4 := ⟨f4.1.trans (e5.1.trans (en2.1.trans bw.env.1)), f4.2.trans (e5.2.trans (en2.2.trans bw.env.2))⟩
  rw [s2]
  clear hS4 f4 f3 f2 f1 hS3 e5 e4 e3 e2 e1 hS kb2 k02 k12 kn2 hown2 bw en2
  have c248 : w4.cell? ⟨w.heap.size + 2, 0, none⟩ = some (.int .i64 32) := (cell_block k24 0).trans hC0
  replace kb4 : Hid _ := kb4
  replace k24 : Hid _ := k24
  replace k04 : Hid _ := k04
  replace k14 : Hid _ := k14
  simp only [Exit.then]
  go_at_K
  go_wp2_with (first
    | (refine wpList_load _ rfl _ 61 rfl leaves61 (by kernel_rfl) w.heap.size 2 rfl (matL m) rfl (fun i hi => (cell_block k04.out (2 + i)).trans (listL_m tg msk fr ns m c i hi)) ?_; go_frame)
    | (refine wpList_load _ rfl _ 61 rfl leaves61 (by kernel_rfl) (w.heap.size + 1) 2 rfl (matL fun i => x (2 + i)) rfl (fun i hi => (cell_block k14.out (2 + i)).trans (itL_m x i hi)) ?_; go_frame)
    | (go_at_call 96; refine (hcomp _).mono ?_; rintro e w5 ⟨rfl, b5⟩)
    | (refine wpList_allocStore _ rfl rfl 10 61 rfl rfl _ rfl rfl leaves61 Tryz.zeroValue61 (by rfl) (by simp) (matL M) w5.heap.size rfl rfl rfl (matL_one M) ?_; intro w6 b6 s6 k6; go_frame
       have b46 : Bel w4.heap.size w4 w6 := b5.trans (b6.mono b5.size)
       have kb6 : w6.heap[bb]? = _ := (b46.block _ (by omega)).trans kb4.out
       have k06 : w6.heap[w.heap.size]? = _ := (b46.block _ (by omega)).trans k04.out
       have k16 : w6.heap[w.heap.size + 1]? = _ := (b46.block _ (by omega)).trans k14.out
       have k26 : w6.heap[w.heap.size + 2]? = _ := (b46.block _ (by omega)).trans k24.out
       have z5 := b5.size
       replace kb6 : Hid _ := kb6
       replace k06 : Hid _ := k06
       replace k16 : Hid _ := k16
       replace k26 : Hid _ := k26
       replace k6 : Hid _ := k6)
    | (refine wpList_storeAt rfl (.tmp 55) (.tmp 53) 46 rfl rfl leaves46 bb 8 _ 113 kb6.out (.int .i64 0) [.int .i64 0] rfl rfl rfl rfl (Nat.le_refl 9) (by intro v hv; rw [List.mem_singleton] at hv; subst hv; rfl) ?_; intro w7 s7 n7 kb7 en7
       have k07 : w7.heap[w.heap.size]? = _ := (n7 _ (by omega)).trans k06.out
       have k17 : w7.heap[w.heap.size + 1]? = _ := (n7 _ (by omega)).trans k16.out
       have k27 : w7.heap[w.heap.size + 2]? = _ := (n7 _ (by omega)).trans k26.out
       have k67 : w7.heap[w5.heap.size]? = _ := (n7 _ (by omega)).trans k6.out
       replace kb7 : Hid _ := kb7
       replace k07 : Hid _ := k07
       replace k17 : Hid _ := k17
       replace k27 : Hid _ := k27
       replace k67 : Hid _ := k67)
    | (refine wpList_load _ rfl _ 64 rfl leaves64 (by kernel_rfl) w.heap.size 8 rfl (cxLv c) rfl (fun i hi => (cell_block k07.out (8 + i)).trans (listL_c tg msk fr ns m c i hi)) ?_; go_frame)
    | (refine wpList_load _ rfl _ 64 rfl leaves64 (by kernel_rfl) (w.heap.size + 1) 8 rfl (cxLv fun i => x (8 + i)) rfl (fun i hi => (cell_block k17.out (8 + i)).trans (itL_c x i hi)) ?_; go_frame)
    | (go_at_call 97; refine (hcx _).mono ?_; rintro e w8 ⟨rfl, b8⟩)
    | (refine wpList_allocStore _ rfl rfl 12 64 rfl rfl _ rfl rfl leaves64 Tryz.zeroValue64 (by rfl) (by simp) (cxLv X) w8.heap.size rfl rfl rfl (cxLv_one X) ?_; intro w9 b9 s9 k9; go_frame
       have b79 : Bel w7.heap.size w7 w9 := b8.trans (b9.mono b8.size)
       have k29 : w9.heap[w.heap.size + 2]? = _ := (b79.block _ (by omega)).trans k27.out
       replace k29 : Hid _ := k29
       replace k9 : Hid _ := k9)
    | (refine wpList_load _ rfl _ 71 rfl leaves71 (by kernel_rfl) (w.heap.size + 2) 25 rfl (shL C) (by rw [leaves71_length]; exact shL_len hC) (fun i hi => (cell_block k29.out (25 + i)).trans (shL_at hC i (by rw [shL_len hC] at hi; exact hi))) ?_; go_frame)
    | (refine wpList_allocStore _ rfl rfl 13 71 rfl rfl _ rfl rfl leaves71 Tryz.zeroValue71 (by rw [leaves71_length]; rfl) (by simp) (shL C) w9.heap.size rfl rfl (by rw [leaves71_length]; exact shL_len hC) (shL_one hC1) ?_; intro w10 b10 s10 k10; go_frame
       have c10 : w10.cell? ⟨w.heap.size + 2, 0, none⟩ = some (.int .i64 32) := (cell_block ((b10.block _ (by have := b79.size; omega)).trans k29.out) 0).trans hC0
       replace k10 : Hid _ := k10)
    | go_in)
  have b710 : Bel w7.heap.size w7 w10 := b79.trans (b10.mono b79.size)
  have z710 := b710.size
  have zz8 := b8.size
  have kB : w10.heap[bb]? = some (.cells (bldC (.slice none 0 0) mv r g b a (many + 1) 0 mb) 113 (0, 0)) := (b710.block _ (by omega)).trans kb7.out
  have kL : w10.heap[w.heap.size]? = some (.cells (listL tg fr m c msk ns).toArray 121 (0, 0)) := (b710.block _ (by omega)).trans k07.out
  have kM : w10.heap[w5.heap.size]? = some (.cells (matL M).toArray 61 (0, 0)) := (b710.block _ (by omega)).trans k67.out
  have kX : w10.heap[w8.heap.size]? = some (.cells (cxLv X).toArray 64 (0, 0)) := (b10.block _ (by omega)).trans k9.out
  have kS : w10.heap[w9.heap.size]? = some (.cells (shL C).toArray 71 (0, 0)) := k10.out
  have z10 : w.heap.size + 3 ≤ w10.heap.size := by omega
  have o10 : ∀ k, k < w.heap.size → k ≠ bb → w10.heap[k]? = w.heap[k]? := fun k hk hkb => (((b710.block k (by omega)).trans (n7 k hkb)).trans (b46.block k (by omega))).trans (bw4 k hk hkb)
  have en10 : Env w w10 := ⟨b710.env.1.trans (en7.1.trans (b46.env.1.trans en4.1)), b710.env.2.trans (en7.2.trans (b46.env.2.trans en4.2))⟩
  obtain ⟨z0, hinfo, hz0⟩ := info86
  obtain ⟨i0, hi0, hz1, hz2, hz3⟩ := info_parts hinfo
  clear hcomp hcx c10 c248
  refine wp_region_held_drew (S := fun w' => ∀ k, k < w10.heap.size → k ≠ bb → w'.heap[k]? = w10.heap[k]?) (by kernel_rfl) (fun k hk _ => rfl) (fun hS => ?_)
  refine H_take 0 (some 101) (v := .pointer (some ⟨bb, 0, none⟩)) rfl rfl (by kernel_rfl) (by kernel_rfl) (by kernel_rfl) (fun _ _ _ h => h) hS (by rfl) (fun w' hs => by go_simp) ?_
  simp only [Act.put, List.setIfInBounds_toArray, List.set_cons_zero, List.set_cons_succ]
  refine H_take 1 (some 102) (v := .pointer (some ⟨bb, 0, none⟩)) rfl rfl (by kernel_rfl) (by kernel_rfl) (by kernel_rfl) (fun _ _ _ h => h) hS (by rfl) (fun w' hs => by go_simp) ?_
  simp only [Act.put, List.setIfInBounds_toArray, List.set_cons_zero, List.set_cons_succ]
  refine H_take 2 (some 103) (v := .pointer (some ⟨bb, 0, none⟩)) rfl rfl (by kernel_rfl) (by kernel_rfl) (by kernel_rfl) (fun _ _ _ h => h) hS (by rfl) (fun w' hs => by go_simp) ?_
  simp only [Act.put, List.setIfInBounds_toArray, List.set_cons_zero, List.set_cons_succ]
  refine H_take 4 (some 105) (v := .agg (shL C).toArray) rfl rfl (by kernel_rfl) (by kernel_rfl) (by kernel_rfl) (fun _ _ _ h => h) hS (by rfl) (fun w' hs => by exact run_opLoad w' 71 _ rfl leaves71 w9.heap.size 0 rfl (shL C) _ (val_agg agg71 _) (by rw [leaves71_length]; exact shL_len hC) (fun i hi => by rw [Nat.zero_add, cell_block ((hs _ (by omega) (by omega)).trans kS)]; exact getD_some hi) (fun h => by rw [agg71] at h; cases h)) ?_
  simp only [Act.put, List.setIfInBounds_toArray, List.set_cons_zero, List.set_cons_succ]
  refine H_take 5 (some 106) (v := .agg (matL M).toArray) rfl rfl (by kernel_rfl) (by kernel_rfl) (by kernel_rfl) (fun _ _ _ h => h) hS (by rfl) (fun w' hs => by exact run_opLoad w' 61 _ rfl leaves61 w5.heap.size 0 rfl (matL M) _ (val_agg agg61 _) (rfl) (fun i hi => by rw [Nat.zero_add, cell_block ((hs _ (by omega) (by omega)).trans kM)]; exact getD_some hi) (fun h => by rw [agg61] at h; cases h)) ?_
  simp only [Act.put, List.setIfInBounds_toArray, List.set_cons_zero, List.set_cons_succ]
  refine H_take 6 (some 107) (v := .agg (cxLv X).toArray) rfl rfl (by kernel_rfl) (by kernel_rfl) (by kernel_rfl) (fun _ _ _ h => h) hS (by rfl) (fun w' hs => by exact run_opLoad w' 64 _ rfl leaves64 w8.heap.size 0 rfl (cxLv X) _ (val_agg agg64 _) (rfl) (fun i hi => by rw [Nat.zero_add, cell_block ((hs _ (by omega) (by omega)).trans kX)]; exact getD_some hi) (fun h => by rw [agg64] at h; cases h)) ?_
  simp only [Act.put, List.setIfInBounds_toArray, List.set_cons_zero, List.set_cons_succ]
  refine H_take 7 (some 108) (v := .pointer (some ⟨w.heap.size, 16, none⟩)) rfl rfl (by kernel_rfl) (by kernel_rfl) (by kernel_rfl) (fun _ _ _ h => h) hS (by rfl) (fun w' hs => by go_simp) ?_
  simp only [Act.put, List.setIfInBounds_toArray, List.set_cons_zero, List.set_cons_succ]
  refine H_take 8 (some 109) (v := msk) rfl rfl (by kernel_rfl) (by kernel_rfl) (by kernel_rfl) (fun _ _ _ h => h) hS (by rfl) (fun w' hs => by 
      have hc : w'.cell? ⟨w.heap.size, 16, none⟩ = some msk := by rw [cell_cellH, cellH_of ((hs _ (by omega) (by omega)).trans kL)]; rfl
      go_simp) ?_
  simp only [Act.put, List.setIfInBounds_toArray, List.set_cons_zero, List.set_cons_succ]
  refine H_take 9 (some 110) (v := .agg (leafL C M X msk).toArray) rfl rfl (by kernel_rfl) (by kernel_rfl) (by kernel_rfl) (fun _ _ _ h => h) hS (by rfl) (fun w' hs => by exact run_opBuildS w' 86 _ rfl Tryz.underlying86 (z := _) Tryz.zeroValue86 (by kernel_rfl) #[(0, 8), (8, 6), (14, 8), (22, 1)] (by kernel_rfl) _ (by rw [List.map_toArray]; exact leaf_fill _ rfl hC M X hmk)) ?_
  simp only [Act.put, List.setIfInBounds_toArray, List.set_cons_zero, List.set_cons_succ]
  refine H_two 3 10 (some 104) (some 111) (v := .slice none 0 0) (v2 := .slice (some ⟨w10.heap.size, 0, none⟩) 1 1) (w2 := w10.drew.alloc (.cells (leafL C M X msk).toArray 86)) rfl rfl rfl rfl (by kernel_rfl) (by rfl) (by rfl) ?_ ?_ hS (fun k hk _ => Below.heap_alloc _ _ k hk) ?_ ?_
  · exact run_opLoad _ 40 _ rfl leaves40 bb 0 rfl [.slice none 0 0] _ (val_one agg40 _) rfl (fun i hi => by
      have hi : i = 0 := by simpa using hi
      subst hi
      rw [cell_cellH, cellH_of (show w10.drew.heap[bb]? = _ from kB)]; rfl) (fun _ => rfl)
  · exact run_opBuild1 w10.drew 40 (.tmp 110) rfl Tryz.underlying40 leaves86 Tryz.zeroValue86 (by rw [leaves86_length]; rfl) (by rw [leaves86_length]; decide) (by rw [leaves86_length]; decide) (leafL C M X msk) rfl (by rw [leaves86_length]; exact leafL_len hC M X msk)
  · simp only [Act.put, List.setIfInBounds_toArray, List.set_cons_zero, List.set_cons_succ]
    refine H_eff 10 (some 111) (v := .slice (some ⟨w10.heap.size, 0, none⟩) 1 1) (w2 := w10.drew.alloc (.cells (leafL C M X msk).toArray 86)) rfl rfl (by kernel_rfl) (by rfl) (run_opBuild1 w10.drew 40 (.tmp 110) rfl Tryz.underlying40 leaves86 Tryz.zeroValue86 (by rw [leaves86_length]; rfl) (by rw [leaves86_length]; decide) (by rw [leaves86_length]; decide) (leafL C M X msk) rfl (by rw [leaves86_length]; exact leafL_len hC M X msk)) (fun k hk _ => Below.heap_alloc _ _ k hk) ?_
    simp only [Act.put, List.setIfInBounds_toArray, List.set_cons_zero, List.set_cons_succ]
    have hq1 : (w10.drew.alloc (.cells (leafL C M X msk).toArray 86)).heap.size = w10.heap.size + 1 := by simp
    have hq2 : (w10.drew.alloc (.cells (leafL C M X msk).toArray 86)).heap[w10.heap.size]? = some (.cells (leafL C M X msk).toArray 86 (0, 0)) := heap_alloc_new w10.drew _
    have hq3 : ∀ k, k < w10.heap.size → (w10.drew.alloc (.cells (leafL C M X msk).toArray 86)).heap[k]? = w10.heap[k]? := fun k hk => Below.heap_alloc _ _ k hk
    refine H_wp 11 rfl (by kernel_rfl) (by rfl) (fun K hK => wp_append_own _ (.tmp 104) (.tmp 111) 40 rfl w10.heap.size 86 i0 (.agg z0) 23 248 Tryz.underlying40 hi0 hz1 hz2 hz3 hz0 (by decide) (.slice none 0 0) 0 [] rfl (World.ownsRow_nil _ _ _ _) ⟨w10.heap.size, 0, none⟩ 1 1 (leafL C M X msk) rfl (leafL_len hC M X msk) (fun j u hu => ?_) (leafL_one hC1 M X hmk1) (by decide) (by decide) (by rw [hq1]; omega) (fun v' w12 hrow hgr _ => ?_))
    · rw [addr_add0, cell_block hq2]; exact hu
    have hrow := hrow.2
    rcases hrow with ⟨_, h0⟩ | ⟨gb, cp, cur, rfl, hg1, hg2, hg3, hg4, hg5, hg6⟩
    · cases h0
    refine hK _ _ (fun k hk _ => (hgr.block k (by rw [hq1]; omega) (by simp [Value.ownBlock])).trans (hq3 k hk)) ?_
    simp only [Act.put, List.setIfInBounds_toArray, List.set_cons_zero, List.set_cons_succ]
    have kb12 : w12.heap[bb]? = some (.cells (bldC (.slice none 0 0) mv r g b a (many + 1) 0 mb) 113 (0, 0)) := ((hgr.block bb (by rw [hq1]; omega) (by simp [Value.ownBlock])).trans (hq3 bb (by omega))).trans kB
    have hS12 : ∀ k, k < w10.heap.size → k ≠ bb → w12.heap[k]? = w10.heap[k]? := fun k hk _ => (hgr.block k (by rw [hq1]; omega) (by simp [Value.ownBlock])).trans (hq3 k hk)
    refine H_take 12 (some 113) (v := .pointer (some ⟨bb, 0, none⟩)) rfl rfl (by kernel_rfl) (by kernel_rfl) (by kernel_rfl) (fun _ _ _ h => h) hS12 (by rfl) (fun w' hs => by go_simp) ?_
    simp only [Act.put, List.setIfInBounds_toArray, List.set_cons_zero, List.set_cons_succ]
    refine H_store 13 rfl (by kernel_rfl) (by rfl) rfl (.tmp 113) (.tmp 112) 40 rfl leaves40 bb 0 _ 113 kb12 (.slice (some ⟨gb, 0, none⟩) 1 cp) [.slice (some ⟨gb, 0, none⟩) 1 cp] rfl rfl rfl rfl (Nat.le_of_ble_eq_true rfl) (by intro v hv; rw [List.mem_singleton] at hv; subst hv; rfl) (fun w13 q1 q2 q3 q4 => ⟨fun k hk hkb => ((q2 k hkb).trans (hgr.block k (by rw [hq1]; omega) (by simp [Value.ownBlock]))).trans (hq3 k hk), wpAnyH_done (by kernel_rfl) ?_ _⟩)
    go_end0
    refine ⟨rfl, ⟨q4.1.trans (hgr.os.trans en10.1), q4.2.trans (hgr.output.trans en10.2)⟩, by have := hgr.size; rw [hq1] at this; omega, fun k hk hkb => (((q2 k hkb).trans (hgr.block k (by rw [hq1]; omega) (by simp [Value.ownBlock]))).trans (hq3 k (by omega))).trans (o10 k hk hkb), gb, cp, q3, by omega, ?_, hg3, hg4, fun j hj => ?_⟩
    · rw [q1]; exact (Array.getElem?_eq_some_iff.1 hg2).1
    · rw [cell_cellH, cellH_of ((q2 gb (by omega)).trans hg2), ← Array.getElem?_toList, ← List.getElem?_take_of_lt (show j < (0 + 1) * 23 by omega), hg6]
      exact getD_some (show j < (leafL C M X msk).length by rw [leafL_len hC]; exact hj)
  · simp only [Act.put, List.setIfInBounds_toArray, List.set_cons_zero, List.set_cons_succ]
    have hq1 : (w10.drew.alloc (.cells (leafL C M X msk).toArray 86)).heap.size = w10.heap.size + 1 := by simp
    have hq2 : (w10.drew.alloc (.cells (leafL C M X msk).toArray 86)).heap[w10.heap.size]? = some (.cells (leafL C M X msk).toArray 86 (0, 0)) := heap_alloc_new w10.drew _
    have hq3 : ∀ k, k < w10.heap.size → (w10.drew.alloc (.cells (leafL C M X msk).toArray 86)).heap[k]? = w10.heap[k]? := fun k hk => Below.heap_alloc _ _ k hk
    refine H_eff 3 (some 104) (v := .slice none 0 0) rfl rfl (by kernel_rfl) (by rfl) (run_opLoad _ 40 _ rfl leaves40 bb 0 rfl [.slice none 0 0] _ (val_one agg40 _) rfl (fun i hi => by
      have hi : i = 0 := by simpa using hi
      subst hi
      rw [cell_cellH, cellH_of ((hq3 bb (by omega)).trans kB)]; rfl) (fun _ => rfl)) (fun k hk _ => Below.heap_alloc _ _ k hk) ?_
    simp only [Act.put, List.setIfInBounds_toArray, List.set_cons_zero, List.set_cons_succ]
    refine H_wp 11 rfl (by kernel_rfl) (by rfl) (fun K hK => wp_append_own _ (.tmp 104) (.tmp 111) 40 rfl w10.heap.size 86 i0 (.agg z0) 23 248 Tryz.underlying40 hi0 hz1 hz2 hz3 hz0 (by decide) (.slice none 0 0) 0 [] rfl (World.ownsRow_nil _ _ _ _) ⟨w10.heap.size, 0, none⟩ 1 1 (leafL C M X msk) rfl (leafL_len hC M X msk) (fun j u hu => ?_) (leafL_one hC1 M X hmk1) (by decide) (by decide) (by rw [hq1]; omega) (fun v' w12 hrow hgr _ => ?_))
    · rw [addr_add0, cell_block hq2]; exact hu
    have hrow := hrow.2
    rcases hrow with ⟨_, h0⟩ | ⟨gb, cp, cur, rfl, hg1, hg2, hg3, hg4, hg5, hg6⟩
    · cases h0
    refine hK _ _ (fun k hk _ => (hgr.block k (by rw [hq1]; omega) (by simp [Value.ownBlock])).trans (hq3 k hk)) ?_
    simp only [Act.put, List.setIfInBounds_toArray, List.set_cons_zero, List.set_cons_succ]
    have kb12 : w12.heap[bb]? = some (.cells (bldC (.slice none 0 0) mv r g b a (many + 1) 0 mb) 113 (0, 0)) := ((hgr.block bb (by rw [hq1]; omega) (by simp [Value.ownBlock])).trans (hq3 bb (by omega))).trans kB
    have hS12 : ∀ k, k < w10.heap.size → k ≠ bb → w12.heap[k]? = w10.heap[k]? := fun k hk _ => (hgr.block k (by rw [hq1]; omega) (by simp [Value.ownBlock])).trans (hq3 k hk)
    refine H_take 12 (some 113) (v := .pointer (some ⟨bb, 0, none⟩)) rfl rfl (by kernel_rfl) (by kernel_rfl) (by kernel_rfl) (fun _ _ _ h => h) hS12 (by rfl) (fun w' hs => by go_simp) ?_
    simp only [Act.put, List.setIfInBounds_toArray, List.set_cons_zero, List.set_cons_succ]
    refine H_store 13 rfl (by kernel_rfl) (by rfl) rfl (.tmp 113) (.tmp 112) 40 rfl leaves40 bb 0 _ 113 kb12 (.slice (some ⟨gb, 0, none⟩) 1 cp) [.slice (some ⟨gb, 0, none⟩) 1 cp] rfl rfl rfl rfl (Nat.le_of_ble_eq_true rfl) (by intro v hv; rw [List.mem_singleton] at hv; subst hv; rfl) (fun w13 q1 q2 q3 q4 => ⟨fun k hk hkb => ((q2 k hkb).trans (hgr.block k (by rw [hq1]; omega) (by simp [Value.ownBlock]))).trans (hq3 k hk), wpAnyH_done (by kernel_rfl) ?_ _⟩)
    go_end0
    refine ⟨rfl, ⟨q4.1.trans (hgr.os.trans en10.1), q4.2.trans (hgr.output.trans en10.2)⟩, by have := hgr.size; rw [hq1] at this; omega, fun k hk hkb => (((q2 k hkb).trans (hgr.block k (by rw [hq1]; omega) (by simp [Value.ownBlock]))).trans (hq3 k (by omega))).trans (o10 k hk hkb), gb, cp, q3, by omega, ?_, hg3, hg4, fun j hj => ?_⟩
    · rw [q1]; exact (Array.getElem?_eq_some_iff.1 hg2).1
    · rw [cell_cellH, cellH_of ((q2 gb (by omega)).trans hg2), ← Array.getElem?_toList, ← List.getElem?_take_of_lt (show j < (0 + 1) * 23 by omega), hg6]
      exact getD_some (show j < (leafL C M X msk).length by rw [leafL_len hC]; exact hj)
end Go.AI
