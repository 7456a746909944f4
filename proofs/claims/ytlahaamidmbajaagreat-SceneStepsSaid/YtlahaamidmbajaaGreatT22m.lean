/- The scene of the fixed answer's movie, walked. -/
import Derived.Test.YtlahaamidmbajaaGreatT22l
import Derived.Test.YtlahaamidmbajaaGreatT22c
import Derived.Test.YtlahaamidmbajaaGreatT22r
set_option linter.unusedVariables false
set_option linter.unusedSimpArgs false
namespace Go.AI
open Go Go.RowKit Go.Proofs Go.Maps
theorem list_fill (z : Array Value) (hz : z.size = 18) (hz16 : z.toList.drop 16 = [.slice none 0 0, .int .i64 0]) {tg : Value} (htg : tg.cells = [tg].toArray) (fr : Int) (m c : Nat → Int) :
    Instr.fill (fun i => (#[(0, 1), (1, 1), (2, 6), (8, 8), (16, 1), (17, 1)] : Array (Nat × Nat))[i]?) z [(0, tg), (1, .int .i64 fr), (2, .agg (matL m).toArray), (3, .agg (cxLv c).toArray)] = some (listL tg fr m c (.slice none 0 0) 0).toArray := by
  have s1 : (putArr z 0 [tg]).size = 18 := by rw [putArr_size _ _ _ (by rw [hz]; exact Nat.le_of_ble_eq_true rfl), hz]
  have s2 : (putArr (putArr z 0 [tg]) 1 [.int .i64 fr]).size = 18 := by rw [putArr_size _ _ _ (by rw [s1]; exact Nat.le_of_ble_eq_true rfl), s1]
  have s3 : (putArr (putArr (putArr z 0 [tg]) 1 [.int .i64 fr]) 2 (matL m)).size = 18 := by rw [putArr_size _ _ _ (by rw [s2]; exact Nat.le_of_ble_eq_true rfl), s2]
  rw [fill_next (off := 0) (n := 1) (vs := [tg]) rfl htg rfl (by omega), fill_next (off := 1) (n := 1) (vs := [.int .i64 fr]) rfl rfl rfl (by omega), fill_next (off := 2) (n := 6) (vs := matL m) rfl rfl rfl (by omega), fill_next (off := 8) (n := 8) (vs := cxLv c) rfl rfl rfl (by omega), fill_nil]
  congr 1
  unfold putArr
  congr 1
  have e1 : putAt z.toList 0 [tg] = [tg] ++ z.toList.drop 1 := putAt_next [] [tg] z.toList
  have e2 : putAt ([tg] ++ z.toList.drop 1) 1 [.int .i64 fr] = ([tg] ++ [.int .i64 fr]) ++ (z.toList.drop 1).drop 1 := putAt_next [tg] [.int .i64 fr] (z.toList.drop 1)
  have e3 : putAt (([tg] ++ [.int .i64 fr]) ++ (z.toList.drop 1).drop 1) 2 (matL m) = (([tg] ++ [.int .i64 fr]) ++ matL m) ++ ((z.toList.drop 1).drop 1).drop 6 := putAt_next ([tg] ++ [.int .i64 fr]) (matL m) ((z.toList.drop 1).drop 1)
  have e4 : putAt ((([tg] ++ [.int .i64 fr]) ++ matL m) ++ ((z.toList.drop 1).drop 1).drop 6) 8 (cxLv c) = ((([tg] ++ [.int .i64 fr]) ++ matL m) ++ cxLv c) ++ (((z.toList.drop 1).drop 1).drop 6).drop 8 := putAt_next (([tg] ++ [.int .i64 fr]) ++ matL m) (cxLv c) (((z.toList.drop 1).drop 1).drop 6)
  have e5 : (((z.toList.drop 1).drop 1).drop 6).drop 8 = [.slice none 0 0, .int .i64 0] := by rw [List.drop_drop, List.drop_drop, List.drop_drop]; exact hz16
  simp only [e1, e2, e3, e4, e5]
  rfl
theorem results_cell2 {P : Program} {fn : Func} {a u : Tmp} {t : TypeId} (h : fn.results = #[.cell a t, .tmp u]) (tmps : Array Value) (b off : Nat) (hx : tmps.getD a undef = .pointer (some ⟨b, off, none⟩)) {v : Value} {w : World} (hl : (loadVar t ⟨b, off, none⟩).run P w = .ok v w) :
    (results fn tmps).run P w = .ok (.tuple #[v, tmps.getD u undef]) w := by
  have hx2 : tmps[a]?.getD undef = .pointer (some ⟨b, off, none⟩) := by simpa using hx
  simp [results, h, hx2, asAddr, hl]
theorem agg45 : isAggB Tryz.prog 45 = true := by kernel_rfl
theorem leaves45 : leaves Tryz.prog 45 = some ((leaves Tryz.prog 45).getD []) := by kernel_rfl
theorem leaves45_length : ((leaves Tryz.prog 45).getD []).length = 6 := by kernel_rfl
theorem agg80 : isAggB Tryz.prog 80 = true := by kernel_rfl
/-- the map of the characters, when the first tag alone is one -/
def mapF (q : Int) (C0 : List Value) : Nat → DataW Value
  | 0 => .map []
  | _ + 1 => (DataW.map []).put (.int .i64 q) (.held (.agg C0.toArray))
set_option maxHeartbeats 3000000 in
set_option maxRecDepth 1000000 in
theorem of_walk (ad : Option Addr) (tn tc : Nat) (b o : Nat) (kd : Nat → Int) (sh mo sp : Nat → Int) (C : Nat → List Value) (fr q : Int) (mL : List Value) (w : World) (hfr : 0 ≤ fr ∧ fr ≤ 255) (htn : 0 < tn) (htn2 : tn < 1000) (htc : tn ≤ tc) (hml : mL.length = 9) (hm8 : mL[8]? = some (.slice ad tn tc))
    (had : ad = some ⟨b, o, none⟩ ∧ b < w.heap.size)
    (hC : ∀ k, k < tn → (C k).length = 55 ∧ (∀ v, v ∈ C k → v.oneCell' = true) ∧ (∀ j, j < 55 → w.cell? ⟨b, o + k * 55 + j, none⟩ = some ((C k).getD j undef)) ∧
      (C k)[0]? = some (.int .i64 (kd k)) ∧ (C k)[25]? = some (.int .i64 (sh k)) ∧ (C k)[33]? = some (.int .i64 (mo k)) ∧ (C k)[52]? = some (.int .i64 (sp k)))
    (hk0 : kd 0 = 32) (hs0 : sh 0 = q) (hq : (Lit.int .i64 q).wf = true) (hkn : ∀ k, 0 < k → k < tn → kd k ≠ 32 ∧ kd k ≠ 46 ∧ kd k ≠ 39) (hk9 : ∀ k, k < tn → kd k ≠ 9)
    (hright : ∀ w0, Bel w.heap.size w w0 → Calls Tryz.prog 17 #[.agg mL.toArray] w0 fun e w' => e = .returned (.bool true) ∧ Bel w0.heap.size w0 w')
    (R : Value → World → Prop) (hone : ∀ lv v w1, R lv w1 → v ∈ [lv, Value.slice none 0 0, .int .i64 255, .int .i64 255, .int .i64 255, .int .i64 255] → v.oneCell' = true) (hR : ∀ lv w1 w2, R lv w1 → (∀ k, w.heap.size + 1 < k → w2.heap[k]? = w1.heap[k]? ) → w1.heap.size ≤ w2.heap.size → R lv w2)
    (hshow : ∀ w0 bb mb n, Bel w.heap.size w w0 → w.heap.size + 2 ≤ bb → bb < w0.heap.size → w0.heap[bb]? = some (.cells (bldC (.slice none 0 0) (.slice none 0 0) 255 255 255 255 0 0 mb) 113 (0, 0)) → w0.ownsMap Tryz.prog 3 tgR mb n (mapF q (C 0) 1) →
      Calls Tryz.prog 32 #[.pointer (some ⟨bb, 0, none⟩), .agg (listL (.slice ad tn tc) fr sameM plainX (.slice none 0 0) 0).toArray, .pointer (some ⟨bb, 0, none⟩)] w0 fun e w' => e = .returned (.tuple #[]) ∧ Env w0 w' ∧ w0.heap.size ≤ w'.heap.size ∧ (∀ k, k < w0.heap.size → k ≠ bb → w'.heap[k]? = w0.heap[k]?) ∧
        ∃ lv mn, w'.heap[bb]? = some (.cells (bldC lv (.slice none 0 0) 255 255 255 255 mn 0 mb) 113 (0, 0)) ∧ R lv w') :
    Calls Tryz.prog 16 #[.agg mL.toArray, .int .i64 fr] w fun e w' => ∃ lv, e = .returned (.tuple #[.agg #[lv, .slice none 0 0, .int .i64 255, .int .i64 255, .int .i64 255, .int .i64 255], .int .i64 0]) ∧ Bel w.heap.size w w' ∧ R lv w' := by
  have hmm := @run_makeMap Tryz.prog
  have bw : Bel w.heap.size w ((w.alloc (.cells mL.toArray 39)).alloc (.cells #[.slice none 0 0, .slice none 0 0, .int .i64 0, .int .i64 0, .int .i64 0, .int .i64 0] 45)) := Bel.ofBelow (((Below.refl _ w).alloc (Nat.le_refl _) _).alloc (by simp) _)
  have s0 : ((w.alloc (.cells mL.toArray 39)).alloc (.cells #[.slice none 0 0, .slice none 0 0, .int .i64 0, .int .i64 0, .int .i64 0, .int .i64 0] 45)).heap.size = w.heap.size + 2 := by simp
  have k0 : ((w.alloc (.cells mL.toArray 39)).alloc (.cells #[.slice none 0 0, .slice none 0 0, .int .i64 0, .int .i64 0, .int .i64 0, .int .i64 0] 45)).heap[w.heap.size]? = some (.cells mL.toArray 39 (0, 0)) := by
    rw [Below.heap_alloc _ _ _ (by simp)]; exact heap_alloc_new w _
  have k1 : ((w.alloc (.cells mL.toArray 39)).alloc (.cells #[.slice none 0 0, .slice none 0 0, .int .i64 0, .int .i64 0, .int .i64 0, .int .i64 0] 45)).heap[w.heap.size + 1]? = some (.cells #[.slice none 0 0, .slice none 0 0, .int .i64 0, .int .i64 0, .int .i64 0, .int .i64 0] 45 (0, 0)) := by
    have := heap_alloc_new (w.alloc (.cells mL.toArray 39)) (.cells #[.slice none 0 0, .slice none 0 0, .int .i64 0, .int .i64 0, .int .i64 0, .int .i64 0] 45)
    rwa [show (w.alloc (.cells mL.toArray 39)).heap.size = w.heap.size + 1 by simp] at this
  generalize hW : (w.alloc (.cells mL.toArray 39)).alloc (.cells #[.slice none 0 0, .slice none 0 0, .int .i64 0, .int .i64 0, .int .i64 0, .int .i64 0] 45) = W at bw s0 k0 k1
  replace k0 : Hid _ := k0
  replace k1 : Hid _ := k1
  replace s0 : Hid _ := s0
  replace hm8 : Hid _ := hm8
  replace hml : Hid _ := hml
  replace hk0 : Hid _ := hk0
  replace hs0 : Hid _ := hs0
  replace had : Hid _ := had
  have l39 : leaves Tryz.prog 39 = some ((leaves Tryz.prog 39).getD []) := by kernel_rfl
  have l39n : ((leaves Tryz.prog 39).getD []).length = 9 := by kernel_rfl
  replace l39 : Hid _ := l39
  replace l39n : Hid _ := l39n
  go_enter Tryz.func16, Tryz.ntmps16
  go_wp2_with (first
    | (refine wpList_load W rfl _ 39 rfl l39.out (by kernel_rfl) w.heap.size 0 rfl mL (by rw [l39n.out]; exact hml.out) (fun i hi => by rw [Nat.zero_add, cell_block k0.out]; exact getD_some hi) ?_; go_frame)
    | (go_at_call 17; refine (hright _ bw).mono ?_; rintro e w1 ⟨rfl, b1⟩
       have z1 := b1.size
       have q8 : w1.cell? ⟨w.heap.size, 8, none⟩ = some (.slice ad tn tc) := (cell_block ((b1.block _ (by rw [s0.out]; omega)).trans k0.out) 8).trans hm8.out
       have r8 : ((w1.alloc (.map #[] 0)).alloc (.cells (bldC (.slice none 0 0) (.slice none 0 0) 255 255 255 255 0 0 w1.heap.size) 113)).cell? ⟨w.heap.size, 8, none⟩ = some (.slice ad tn tc) := by rw [s0.out] at z1; rw [cell_cellH, cellH_of (by rw [Below.heap_alloc _ _ _ (by simp; omega), Below.heap_alloc _ _ _ (by omega)]; exact (b1.block _ (by rw [s0.out]; omega)).trans k0.out)]; rw [← Array.getElem?_toList]; exact hm8.out)
    | go_in)
  rw [s0.out] at z1
  have bw1 : Bel w.heap.size w w1 := bw.trans (b1.mono bw.size)
  have k01 : w1.heap[w.heap.size]? = some (.cells mL.toArray 39 (0, 0)) := (b1.block _ (by rw [s0.out]; omega)).trans k0.out
  have k11 : w1.heap[w.heap.size + 1]? = some (.cells #[.slice none 0 0, .slice none 0 0, .int .i64 0, .int .i64 0, .int .i64 0, .int .i64 0] 45 (0, 0)) := (b1.block _ (by rw [s0.out]; omega)).trans k1.out
  replace k01 : Hid _ := k01
  replace k11 : Hid _ := k11
  clear q8 r8 hW hright
  go_loopw [35] (fun i wr => ∃ k : Nat, k ≤ tn ∧ i = .int .i64 k ∧ wr.ownsMap Tryz.prog 3 tgR w1.heap.size k (mapF q (C 0) k) ∧ Hid (wr.heap[w1.heap.size + 1]? = some (.cells (bldC (.slice none 0 0) (.slice none 0 0) 255 255 255 255 0 0 w1.heap.size) 113 (0, 0))) ∧ Bel w1.heap.size w1 wr ∧ w1.heap.size + 2 ≤ wr.heap.size)
    (fun i wr => tn - (Go.RowKit.intOf i).toNat)
  case atStart =>
    refine ⟨0, Nat.zero_le _, rfl, (World.ownsMap_made w1 Tryz.prog 3 tgR).alloc _, ?_, Bel.ofBelow (((Below.refl _ w1).alloc (Nat.le_refl _) _).alloc (by simp) _), by simp⟩
    have := heap_alloc_new (w1.alloc (.map #[] 0)) (.cells (bldC (.slice none 0 0) (.slice none 0 0) 255 255 255 255 0 0 w1.heap.size) 113)
    rwa [show (w1.alloc (.map #[] 0)).heap.size = w1.heap.size + 1 by simp] at this
  case round =>
    obtain ⟨k, hk, rfl, hown, kb, hbw, hsz⟩ := hrel
    obtain ⟨zv, zd, hzv, hzd⟩ := tgR_zero
    replace hzv : Hid _ := hzv
    replace hzd : Hid _ := hzd
    by_cases hp : k < tn
    · obtain ⟨hA, hbb⟩ := had.out
      subst hA
      obtain ⟨hC1, hC2, hC3, hC4, hC5, hC6, hC7⟩ := hC k hp
      have hcell : ∀ i, i < (C k).length → wr.cell? ⟨b, o + k * 55 + i, none⟩ = some ((C k).getD i undef) := fun i hi => by rw [cell_bel hbw (by omega), cell_bel bw1 hbb]; exact hC3 i (by omega)
      have hidw := fun w0 => id_walk (C k) (kd k) (sh k) (mo k) (sp k) hC1 hC2 hC4 hC5 hC6 hC7 w0
      clear hC3 hC4 hC5 hC6 hC7
      replace hcell : Hid _ := hcell
      by_cases hz : k = 0
      · have hid : idF (kd k) (sh k) (mo k) (sp k) = (q, true) := by rw [hz, hk0.out, hs0.out]; rfl
        rw [hid] at hidw
        have hD : mapF q (C 0) k = .map [] := by rw [hz]; rfl
        rw [hD] at hown
        have hDn : mapF q (C 0) (k + 1) = (DataW.map []).put (.int .i64 q) (.held (.agg (C k).toArray)) := by rw [hz]; rfl
        replace hDn : Hid _ := hDn
        replace hz : Hid _ := hz
        clear hid hD
        replace hidw : Hid _ := hidw
        go_wp2_with (first
          | (refine wpList_load _ rfl _ 80 rfl leaves80 (by kernel_rfl) b (o + k * 55) rfl (C k) (by rw [leaves80_length]; exact hC1) hcell.out ?_; go_frame)
          | (refine wpList_allocStore _ rfl rfl 8 80 rfl rfl _ rfl rfl leaves80 Tryz.zeroValue80 (by rw [leaves80_length]; rfl) (by simp) (C k) wr.heap.size rfl rfl (by rw [leaves80_length]; exact hC1) hC2 ?_; intro w2 b2 s2 k2; go_frame
             replace k2 : Hid _ := k2)
          | (refine wpList_load _ rfl _ 80 rfl leaves80 (by kernel_rfl) wr.heap.size 0 rfl (C k) (by rw [leaves80_length]; exact hC1) (fun i hi => by rw [Nat.zero_add, cell_block k2.out]; exact getD_some hi) ?_; go_frame)
          | (go_at_call 31; refine Calls.mono (hidw.out _) ?_; rintro e w3 ⟨rfl, b3⟩
             rw [s2] at b3
             have kb3 : w3.heap[w1.heap.size + 1]? = some (.cells (bldC (.slice none 0 0) (.slice none 0 0) 255 255 255 255 0 0 w1.heap.size) 113 (0, 0)) := (b3.block _ (by omega)).trans ((b2.block _ (by omega)).trans kb.out)
             have c36 : w3.cell? ⟨w1.heap.size + 1, 6, none⟩ = some (.map (some w1.heap.size)) := cell_block kb3 6
             have b23 : Bel wr.heap.size wr w3 := b2.trans (b3.mono (by omega))
             have hown3 := ownsMap_bel hown b23
             replace kb3 : Hid _ := kb3)
          | (at_lookup; refine wpList_lookup_own_ok _ rfl _ _ 111 rfl 3 80 keyed3 Tryz.underlying111 tgR (hzv.out w3) zd [] hzd.out w1.heap.size k _ rfl hown3 _ _ rfl (keyOf_int_mk Tryz.underlying3 hq) ?_; intro v51 ps hv51; obtain ⟨_, Cz, rfl, hcz1, hcz2⟩ := tgR_inv hv51; clear hv51; go_frame)
          | (refine wpList_allocStore _ rfl rfl 11 80 rfl rfl _ rfl rfl leaves80 Tryz.zeroValue80 (by rw [leaves80_length]; rfl) (by simp) Cz w3.heap.size rfl rfl (by rw [leaves80_length]; exact hcz1) hcz2 ?_; intro w4 b4 s4 k4; go_frame
             clear k4)
          | go_in)
        have b24 : Bel wr.heap.size wr w4 := b23.trans (b4.mono b23.size)
        have z24 := b3.size
        have k24 : w4.heap[wr.heap.size]? = some (.cells (C k).toArray 80 (0, 0)) := (b4.block _ (by omega)).trans ((b3.block _ (by omega)).trans k2.out)
        have kb4 : w4.heap[w1.heap.size + 1]? = some (.cells (bldC (.slice none 0 0) (.slice none 0 0) 255 255 255 255 0 0 w1.heap.size) 113 (0, 0)) := (b4.block _ (by omega)).trans kb3.out
        have hown4 : w4.ownsMap Tryz.prog 3 tgR w1.heap.size k (.map []) := ownsMap_bel hown b24
        have z4 := b4.size
        replace kb4 : Hid _ := kb4
        replace k24 : Hid _ := k24
        clear hown hown3 kb3 c36
        refine wp_region_held_drew (S := fun w' => ∀ j, j < w4.heap.size → j ≠ w1.heap.size → w'.heap[j]? = w4.heap[j]?) (by kernel_rfl) (fun j hj _ => rfl) (fun hS => ?_)
        refine H_take 0 (some 56) (v := .pointer (some ⟨w1.heap.size + 1, 0, none⟩)) rfl rfl (by kernel_rfl) (by kernel_rfl) (by kernel_rfl) (fun _ _ _ h => h) hS (by rfl) (fun w' hs => by go_simp) ?_
        simp only [Act.put, List.setIfInBounds_toArray, List.set_cons_zero, List.set_cons_succ]
        refine H_take 1 (some 57) (v := .pointer (some ⟨w1.heap.size + 1, 0, none⟩)) rfl rfl (by kernel_rfl) (by kernel_rfl) (by kernel_rfl) (fun _ _ _ h => h) hS (by rfl) (fun w' hs => by go_simp) ?_
        simp only [Act.put, List.setIfInBounds_toArray, List.set_cons_zero, List.set_cons_succ]
        refine H_take 2 (some 58) (v := .pointer (some ⟨w1.heap.size + 1, 6, none⟩)) rfl rfl (by kernel_rfl) (by kernel_rfl) (by kernel_rfl) (fun _ _ _ h => h) hS (by rfl) (fun w' hs => by go_simp) ?_
        simp only [Act.put, List.setIfInBounds_toArray, List.set_cons_zero, List.set_cons_succ]
        refine H_take 3 (some 59) (v := .map (some w1.heap.size)) rfl rfl (by kernel_rfl) (by kernel_rfl) (by kernel_rfl) (fun _ _ _ h => h) hS (by rfl) (fun w' hs => by 
          have hc : w'.cell? ⟨w1.heap.size + 1, 6, none⟩ = some (.map (some w1.heap.size)) := by rw [cell_cellH, cellH_of ((hs _ (by omega) (by omega)).trans kb4.out)]; rfl
          go_simp) ?_
        simp only [Act.put, List.setIfInBounds_toArray, List.set_cons_zero, List.set_cons_succ]
        refine H_take 4 (some 60) (v := .int .i64 q) rfl rfl (by kernel_rfl) (by kernel_rfl) (by kernel_rfl) (fun _ _ _ h => h) hS (by rfl) (fun w' hs => by go_simp) ?_
        simp only [Act.put, List.setIfInBounds_toArray, List.set_cons_zero, List.set_cons_succ]
        refine H_take 5 (some 61) (v := .agg (C k).toArray) rfl rfl (by kernel_rfl) (by kernel_rfl) (by kernel_rfl) (fun _ _ _ h => h) hS (by rfl) (fun w' hs => by exact run_opLoad w' 80 _ rfl leaves80 wr.heap.size 0 rfl (C k) _ (val_agg agg80 _) (by rw [leaves80_length]; exact hC1) (fun i hi => by rw [Nat.zero_add, cell_block ((hs _ (by omega) (by omega)).trans k24.out)]; exact getD_some hi) (fun h => by rw [agg80] at h; cases h)) ?_
        simp only [Act.put, List.setIfInBounds_toArray, List.set_cons_zero, List.set_cons_succ]
        refine H_mapUpdate 6 none rfl rfl (by kernel_rfl) (by rfl) (.tmp 59) (.tmp 60) (.tmp 61) 111 rfl 3 80 keyed3 Tryz.underlying111 tgR w1.heap.size k (.map []) rfl (show w4.drew.ownsMap Tryz.prog 3 tgR w1.heap.size k (.map []) from hown4) (by unfold maxLen; omega) _ _ _ rfl rfl (keyOf_int_mk Tryz.underlying3 hq) _ [] (tgR_mk hC1 hC2) (fun w5 hown5 hg5 => ⟨fun j hj hjn => hg5.block j hj (fun e => hjn (by cases e; rfl)), wpAnyH_done (by kernel_rfl) ?_ _⟩)
        go_wp2
        have hb4 : Bel w1.heap.size w1 w4 := hbw.trans (b24.mono hbw.size)
        refine ⟨⟨k + 1, hp, by first | rw [wrapN hp (by unfold maxLen; omega)] | rfl, by rw [hDn.out]; exact hown5, (hg5.block (w1.heap.size + 1) (by show _ < w4.heap.size; omega) (by simp)).trans kb4.out, Bel.grown (⟨hb4.env, hb4.size, hb4.block⟩ : Bel w1.heap.size w1 w4.drew) hg5 hb4.size (fun j hj => by cases hj; exact Nat.le_refl _), by have := hg5.size; have : w4.heap.size ≤ w5.heap.size := this; omega⟩, by simp only [Go.RowKit.intOf]; omega⟩
      · have hid : idF (kd k) (sh k) (mo k) (sp k) = (0, false) := by
          obtain ⟨e1, e2, e3⟩ := hkn k (by omega) hp
          unfold idF
          rw [if_neg e1, if_neg e2, if_neg e3]
        rw [hid] at hidw
        have hDn : mapF q (C 0) (k + 1) = mapF q (C 0) k := by
          obtain ⟨j, rfl⟩ : ∃ j, k = j + 1 := ⟨k - 1, by omega⟩
          rfl
        replace hDn : Hid _ := hDn
        replace hz : Hid _ := hz
        clear hid
        replace hidw : Hid _ := hidw
        go_wp2_with (first
          | (refine wpList_load _ rfl _ 80 rfl leaves80 (by kernel_rfl) b (o + k * 55) rfl (C k) (by rw [leaves80_length]; exact hC1) hcell.out ?_; go_frame)
          | (refine wpList_allocStore _ rfl rfl 8 80 rfl rfl _ rfl rfl leaves80 Tryz.zeroValue80 (by rw [leaves80_length]; rfl) (by simp) (C k) wr.heap.size rfl rfl (by rw [leaves80_length]; exact hC1) hC2 ?_; intro w2 b2 s2 k2; go_frame
             replace k2 : Hid _ := k2)
          | (refine wpList_load _ rfl _ 80 rfl leaves80 (by kernel_rfl) wr.heap.size 0 rfl (C k) (by rw [leaves80_length]; exact hC1) (fun i hi => by rw [Nat.zero_add, cell_block k2.out]; exact getD_some hi) ?_; go_frame)
          | (go_at_call 31; refine Calls.mono (hidw.out _) ?_; rintro e w3 ⟨rfl, b3⟩)
          | go_in)
        have b23 : Bel wr.heap.size wr w3 := b2.trans (b3.mono (by omega))
        refine ⟨⟨k + 1, hp, by first | rw [wrapN hp (by unfold maxLen; omega)] | rfl, by rw [hDn.out]; exact (ownsMap_bel hown b23).mono (Nat.le_succ k), (b23.block _ (by omega)).trans kb.out, hbw.trans (b23.mono hbw.size), by have := b23.size; omega⟩, by simp only [Go.RowKit.intOf]; omega⟩
    · have hkt : k = tn := by omega
      subst hkt
      have hD1 : mapF q (C 0) k = mapF q (C 0) 1 := by
        obtain ⟨j, rfl⟩ : ∃ j, k = j + 1 := ⟨k - 1, by omega⟩
        rfl
      rw [hD1] at hown
      have kr0 : wr.heap[w.heap.size]? = some (.cells mL.toArray 39 (0, 0)) := (hbw.block _ (by omega)).trans k01.out
      have kr1 : wr.heap[w.heap.size + 1]? = _ := (hbw.block _ (by omega)).trans k11.out
      have cr8 : wr.cell? ⟨w.heap.size, 8, none⟩ = some (.slice ad k tc) := (cell_block kr0 8).trans hm8.out
      have bwr : Bel w.heap.size w wr := bw1.trans (hbw.mono bw1.size)
      have hdn := doneN_le kd fr k
      have hdone := done_walk ad k tc fr wr b o kd C (by omega) (fun _ => ⟨had.out.1, by have := had.out.2; omega⟩) (by unfold maxLen; omega) htc (fun j hj => by
        obtain ⟨d1, d2, d3, d4, _⟩ := hC j hj
        exact ⟨d1, d2, fun i hi => by rw [cell_bel bwr had.out.2]; exact d3 i hi, d4⟩)
      replace hdone : Hid _ := hdone
      replace kr0 : Hid _ := kr0
      replace kr1 : Hid _ := kr1
      clear hD1 k01 k11 hkn
      go_wp2_with (first
        | (go_at_call 25; refine Calls.mono hdone.out ?_; rintro e w2 ⟨rfl, b2⟩)
        | go_in)
      generalize doneN kd fr k = dn at hdn ⊢
      have bw2 : Bel w.heap.size w w2 := bwr.trans (b2.mono bwr.size)
      have z2 := b2.size
      have k20 : w2.heap[w.heap.size]? = some (.cells mL.toArray 39 (0, 0)) := (b2.block _ (by omega)).trans kr0.out
      have k21 : w2.heap[w.heap.size + 1]? = some (.cells #[.slice none 0 0, .slice none 0 0, .int .i64 0, .int .i64 0, .int .i64 0, .int .i64 0] 45 (0, 0)) := (b2.block _ (by omega)).trans kr1.out
      have kb2 : w2.heap[w1.heap.size + 1]? = some (.cells (bldC (.slice none 0 0) (.slice none 0 0) 255 255 255 255 0 0 w1.heap.size) 113 (0, 0)) := (b2.block _ (by omega)).trans kb.out
      have hown2 := ownsMap_bel hown b2
      replace k20 : Hid _ := k20
      replace k21 : Hid _ := k21
      replace kb2 : Hid _ := kb2
      clear hown kr0 kr1 cr8 hdone kb
      go_loopw [68] (fun i wq => ∃ j : Nat, j ≤ dn ∧ i = .int .i64 j ∧ Bel w2.heap.size w2 wq) (fun i wq => dn - (Go.RowKit.intOf i).toNat)
      case atStart => exact ⟨0, Nat.zero_le _, rfl, Bel.refl _ _⟩
      case round =>
        obtain ⟨j, hj, rfl, hbq⟩ := hrel
        by_cases hp2 : j < dn
        · obtain ⟨hA, hbb⟩ := had.out
          subst hA
          obtain ⟨hC1, hC2, hC3, hC4, _⟩ := hC j (by omega)
          have hk9j := hk9 j (by omega)
          have hcell : ∀ i, i < (C j).length → wr.cell? ⟨b, o + j * 55 + i, none⟩ = some ((C j).getD i undef) := fun i hi => by rw [cell_bel hbq (by omega), cell_bel bw2 hbb]; exact hC3 i (by omega)
          replace hcell : Hid _ := hcell
          clear hC3
          go_wp2_with (first
            | (refine wpList_load _ rfl _ 80 rfl leaves80 (by kernel_rfl) b (o + j * 55) rfl (C j) (by rw [leaves80_length]; exact hC1) hcell.out ?_; go_frame)
            | (refine wpList_allocStore _ rfl rfl 14 80 rfl rfl _ rfl rfl leaves80 Tryz.zeroValue80 (by rw [leaves80_length]; rfl) (by simp) (C j) wr.heap.size rfl rfl (by rw [leaves80_length]; exact hC1) hC2 ?_; intro w3 b3 s3 k3; go_frame
               have d0 : w3.cell? ⟨wr.heap.size, 0, none⟩ = some (.int .i64 (kd j)) := (cell_block k3 0).trans hC4
               clear k3)
            | go_in)
          refine ⟨⟨j + 1, hp2, by first | rw [wrapN hp2 (by unfold maxLen; omega)] | rfl, hbq.trans (b3.mono hbq.size)⟩, by simp only [Go.RowKit.intOf]; omega⟩
        · have hjd : j = dn := by omega
          subst hjd
          have zq := hbq.size
          have kq0 : wr.heap[w.heap.size]? = some (.cells mL.toArray 39 (0, 0)) := (hbq.block _ (by omega)).trans k20.out
          have kq1 : wr.heap[w.heap.size + 1]? = some (.cells #[.slice none 0 0, .slice none 0 0, .int .i64 0, .int .i64 0, .int .i64 0, .int .i64 0] 45 (0, 0)) := (hbq.block _ (by omega)).trans k21.out
          have kbq : wr.heap[w1.heap.size + 1]? = some (.cells (bldC (.slice none 0 0) (.slice none 0 0) 255 255 255 255 0 0 w1.heap.size) 113 (0, 0)) := (hbq.block _ (by omega)).trans kb2.out
          have hownq := ownsMap_bel hown2 hbq
          have bwq : Bel w.heap.size w wr := bw2.trans (hbq.mono bw2.size)
          replace kq0 : Hid _ := kq0
          replace kq1 : Hid _ := kq1
          replace kbq : Hid _ := kbq
          clear hown2 k20 k21 kb2 hC hk9
          go_wp2
          refine wp_region_held_drew (S := fun w' => ∀ i, i < wr.heap.size → i ≠ w1.heap.size + 1 → w'.heap[i]? = wr.heap[i]?) (by kernel_rfl) (fun i hi _ => rfl) (fun hS => ?_)
          refine H_take 0 (some 82) (v := .pointer (some ⟨w1.heap.size + 1, 0, none⟩)) rfl rfl (by kernel_rfl) (by kernel_rfl) (by kernel_rfl) (fun _ _ _ h => h) hS (by rfl) (fun w' hs => by go_simp) ?_
          simp only [Act.put, List.setIfInBounds_toArray, List.set_cons_zero, List.set_cons_succ]
          refine H_take 1 (some 83) (v := .pointer (some ⟨w.heap.size, 8, none⟩)) rfl rfl (by kernel_rfl) (by kernel_rfl) (by kernel_rfl) (fun _ _ _ h => h) hS (by rfl) (fun w' hs => by go_simp) ?_
          simp only [Act.put, List.setIfInBounds_toArray, List.set_cons_zero, List.set_cons_succ]
          refine H_take 2 (some 84) (v := .slice ad k tc) rfl rfl (by kernel_rfl) (by kernel_rfl) (by kernel_rfl) (fun _ _ _ h => h) hS (by rfl) (fun w' hs => by 
            have hc : w'.cell? ⟨w.heap.size, 8, none⟩ = some (.slice ad k tc) := by rw [cell_cellH, cellH_of ((hs _ (by omega) (by omega)).trans kq0.out), ← Array.getElem?_toList]; exact hm8.out
            go_simp) ?_
          simp only [Act.put, List.setIfInBounds_toArray, List.set_cons_zero, List.set_cons_succ]
          refine H_take 3 (some 85) (v := .int .i64 fr) rfl rfl (by kernel_rfl) (by kernel_rfl) (by kernel_rfl) (fun _ _ _ h => h) hS (by rfl) (fun w' hs => by go_simp) ?_
          simp only [Act.put, List.setIfInBounds_toArray, List.set_cons_zero, List.set_cons_succ]
          refine H_take 7 (some 89) (v := .pointer (some ⟨w1.heap.size + 1, 0, none⟩)) rfl rfl (by kernel_rfl) (by kernel_rfl) (by kernel_rfl) (fun _ _ _ h => h) hS (by rfl) (fun w' hs => by go_simp) ?_
          simp only [Act.put, List.setIfInBounds_toArray, List.set_cons_zero, List.set_cons_succ]
          refine H_take 8 (some 90) (v := .pointer (some ⟨w1.heap.size + 1, 0, none⟩)) rfl rfl (by kernel_rfl) (by kernel_rfl) (by kernel_rfl) (fun _ _ _ h => h) hS (by rfl) (fun w' hs => by go_simp) ?_
          simp only [Act.put, List.setIfInBounds_toArray, List.set_cons_zero, List.set_cons_succ]
          refine H_take 9 (some 91) (v := .pointer (some ⟨w1.heap.size + 1, 0, none⟩)) rfl rfl (by kernel_rfl) (by kernel_rfl) (by kernel_rfl) (fun _ _ _ h => h) hS (by rfl) (fun w' hs => by go_simp) ?_
          simp only [Act.put, List.setIfInBounds_toArray, List.set_cons_zero, List.set_cons_succ]
          refine H_take 10 (some 92) (v := .pointer (some ⟨w1.heap.size + 1, 0, none⟩)) rfl rfl (by kernel_rfl) (by kernel_rfl) (by kernel_rfl) (fun _ _ _ h => h) hS (by rfl) (fun w' hs => by go_simp) ?_
          simp only [Act.put, List.setIfInBounds_toArray, List.set_cons_zero, List.set_cons_succ]
          refine H_call 4 (some 86) rfl rfl (by kernel_rfl) (by rfl) (run_opCall noCountT _ 33 #[] #[] rfl Tryz.func33 (c := Tryz.f33.body.getD .skip) (by kernel_rfl) [] rfl) (same_calls _) ?_
          rintro e w4 ⟨rfl, b4⟩
          have hS4 : ∀ i, i < wr.heap.size → i ≠ w1.heap.size + 1 → w4.heap[i]? = wr.heap[i]? := fun i hi _ => b4.block i hi
          refine ⟨_, rfl, hS4, ?_⟩
          simp only [Act.put, List.setIfInBounds_toArray, List.set_cons_zero, List.set_cons_succ]
          refine H_call 5 (some 87) rfl rfl (by kernel_rfl) (by rfl) (run_opCall noCountT _ 34 #[] #[] rfl Tryz.func34 (c := Tryz.f34.body.getD .skip) (by kernel_rfl) [] rfl) (plain_calls34 _) ?_
          rintro e w5 ⟨rfl, b5⟩
          have b45 : Bel wr.heap.size wr w5 := (⟨b4.env, b4.size, b4.block⟩ : Bel wr.heap.size wr w4).trans (b5.mono b4.size)
          have hS5 : ∀ i, i < wr.heap.size → i ≠ w1.heap.size + 1 → w5.heap[i]? = wr.heap[i]? := fun i hi _ => b45.block i hi
          refine ⟨_, rfl, hS5, ?_⟩
          simp only [Act.put, List.setIfInBounds_toArray, List.set_cons_zero, List.set_cons_succ]
          refine H_take 6 (some 88) (v := .agg (listL (.slice ad k tc) fr sameM plainX (.slice none 0 0) 0).toArray) rfl rfl (by kernel_rfl) (by kernel_rfl) (by kernel_rfl) (fun _ _ _ h => h) hS5 (by rfl) (fun w' hs => by exact run_opBuildS w' 121 _ rfl Tryz.underlying121 (z := _) Tryz.zeroValue121 (by kernel_rfl) #[(0, 1), (1, 1), (2, 6), (8, 8), (16, 1), (17, 1)] (by kernel_rfl) _ (by rw [List.map_toArray]; exact list_fill _ rfl rfl rfl fr sameM plainX)) ?_
          simp only [Act.put, List.setIfInBounds_toArray, List.set_cons_zero, List.set_cons_succ]
          refine H_call 11 (some 93) rfl rfl (by kernel_rfl) (by rfl) (run_opCall noCountT _ 32 #[.tmp 82, .tmp 88, .tmp 92] #[110, 121, 122] rfl Tryz.func32 (c := Tryz.f32.body.getD .skip) (by kernel_rfl) [.pointer (some ⟨w1.heap.size + 1, 0, none⟩), .agg (listL (.slice ad k tc) fr sameM plainX (.slice none 0 0) 0).toArray, .pointer (some ⟨w1.heap.size + 1, 0, none⟩)] rfl) (hshow w5 (w1.heap.size + 1) w1.heap.size _ (bwq.trans (b45.mono bwq.size)) (by omega) (by have := b45.size; omega) ((b45.block _ (by omega)).trans kbq.out) (ownsMap_bel hownq b45)) ?_
          rintro e w6 ⟨rfl, en6, z6, o6, lv, mn, kb6, hr6⟩
          have z45 := b45.size
          have hS6 : ∀ i, i < wr.heap.size → i ≠ w1.heap.size + 1 → w6.heap[i]? = wr.heap[i]? := fun i hi hn => (o6 i (by omega) hn).trans (b45.block i hi)
          refine ⟨_, rfl, hS6, wpAnyH_done (by kernel_rfl) ?_ _⟩
          simp only [Act.put, List.setIfInBounds_toArray, List.set_cons_zero, List.set_cons_succ]
          have c60 : w6.cell? ⟨w1.heap.size + 1, 0, none⟩ = some lv := by rw [cell_cellH, cellH_of kb6]; rfl
          have c61 : w6.cell? ⟨w1.heap.size + 1, 1, none⟩ = some (.slice none 0 0) := by rw [cell_cellH, cellH_of kb6]; rfl
          have c62 : w6.cell? ⟨w1.heap.size + 1, 2, none⟩ = some (.int .i64 255) := by rw [cell_cellH, cellH_of kb6]; rfl
          have c63 : w6.cell? ⟨w1.heap.size + 1, 3, none⟩ = some (.int .i64 255) := by rw [cell_cellH, cellH_of kb6]; rfl
          have c64 : w6.cell? ⟨w1.heap.size + 1, 4, none⟩ = some (.int .i64 255) := by rw [cell_cellH, cellH_of kb6]; rfl
          have c65 : w6.cell? ⟨w1.heap.size + 1, 5, none⟩ = some (.int .i64 255) := by rw [cell_cellH, cellH_of kb6]; rfl
          have c68 : w6.cell? ⟨w1.heap.size + 1, 8, none⟩ = some (.int .i64 0) := by rw [cell_cellH, cellH_of kb6]; rfl
          have k61 : w6.heap[w.heap.size + 1]? = some (.cells #[.slice none 0 0, .slice none 0 0, .int .i64 0, .int .i64 0, .int .i64 0, .int .i64 0] 45 (0, 0)) := (hS6 _ (by omega) (by omega)).trans kq1.out
          replace k61 : Hid _ := k61
          go_wp2_with (first
            | (refine wpList_storeAt rfl (.tmp 4) (.tmp 107) 45 rfl rfl leaves45 (w.heap.size + 1) 0 _ 45 k61.out (.agg #[lv, .slice none 0 0, .int .i64 255, .int .i64 255, .int .i64 255, .int .i64 255]) [lv, .slice none 0 0, .int .i64 255, .int .i64 255, .int .i64 255, .int .i64 255] rfl rfl rfl (by rw [leaves45_length]; rfl) (Nat.le_of_ble_eq_true rfl) (fun v hv => ?_) ?_; exact hone lv v _ hr6 hv; intro w7 s7 n7 k7 en7
               have e70 : w7.cell? ⟨w.heap.size + 1, 0, none⟩ = some lv := by rw [cell_cellH, cellH_of k7]; rfl
               have e71 : w7.cell? ⟨w.heap.size + 1, 1, none⟩ = some (.slice none 0 0) := by rw [cell_cellH, cellH_of k7]; rfl
               have e72 : w7.cell? ⟨w.heap.size + 1, 2, none⟩ = some (.int .i64 255) := by rw [cell_cellH, cellH_of k7]; rfl
               have e73 : w7.cell? ⟨w.heap.size + 1, 3, none⟩ = some (.int .i64 255) := by rw [cell_cellH, cellH_of k7]; rfl
               have e74 : w7.cell? ⟨w.heap.size + 1, 4, none⟩ = some (.int .i64 255) := by rw [cell_cellH, cellH_of k7]; rfl
               have e75 : w7.cell? ⟨w.heap.size + 1, 5, none⟩ = some (.int .i64 255) := by rw [cell_cellH, cellH_of k7]; rfl
               replace k7 : Hid _ := k7)
            | go_in)
          refine bodyPost_ret (results_cell2 rfl _ (w.heap.size + 1) 0 rfl ((run_loadVar leaves45 w7 (w.heap.size + 1) 0 [lv, .slice none 0 0, .int .i64 255, .int .i64 255, .int .i64 255, .int .i64 255] (by rw [leaves45_length]; rfl) (fun i hi => by rw [Nat.zero_add, ← cell_cellH, cell_block (c := [lv, .slice none 0 0, .int .i64 255, .int .i64 255, .int .i64 255, .int .i64 255]) k7.out]; exact getD_some hi) (fun h => by rw [agg45] at h; cases h)).trans (by rw [val_agg agg45]))) rfl ?_
          simp only []
          refine ⟨lv, rfl, ⟨⟨en7.1.trans (en6.1.trans (b45.env.1.trans bwq.env.1)), en7.2.trans (en6.2.trans (b45.env.2.trans bwq.env.2))⟩, by omega, fun i hi => ?_⟩, ?_⟩
          · exact (n7 i (by omega)).trans ((hS6 i (by omega) (by omega)).trans (bwq.block i hi))
          · exact hR lv w6 w7 hr6 (fun i hi => n7 i (by omega)) (by omega)
end Go.AI
