/- The tags ahead of a frame's Show, walked. -/
import Derived.Test.YtlahaamidmbajaaGreatT22k
set_option linter.unusedVariables false
set_option linter.unusedSimpArgs false
namespace Go.AI
open Go Go.RowKit Go.Proofs Go.Maps
/-- how many shows are among the first tags -/
def shN (kd : Nat → Int) : Nat → Nat
  | 0 => 0
  | k + 1 => if kd k = 1 then shN kd k + 1 else shN kd k
theorem shN_le (kd : Nat → Int) : ∀ k, shN kd k ≤ k
  | 0 => Nat.le_refl _
  | k + 1 => by
    have := shN_le kd k
    unfold shN
    split <;> omega
/-- the first Show with so many ahead of it, from a tag on -/
def doneT (kd : Nat → Int) (fr : Int) : Nat → Nat → Nat
  | k, 0 => k
  | k, r + 1 => if kd k = 1 ∧ (shN kd k : Int) = fr then k else doneT kd fr (k + 1) r
def frame0 (frame : Int) : Int := if frame < 0 then 0 else frame
def doneN (kd : Nat → Int) (frame : Int) (len : Nat) : Nat := doneT kd (frame0 frame) 0 len
theorem doneT_le (kd : Nat → Int) (fr : Int) : ∀ r k, doneT kd fr k r ≤ k + r
  | 0, k => Nat.le_refl _
  | r + 1, k => by
    have := doneT_le kd fr r (k + 1)
    unfold doneT
    split <;> omega
theorem doneN_le (kd : Nat → Int) (frame : Int) (len : Nat) : doneN kd frame len ≤ len := by
  have := doneT_le kd (frame0 frame) len 0
  unfold doneN
  omega
set_option maxHeartbeats 4000000 in
set_option maxRecDepth 1000000 in
theorem done_walk (a : Option Addr) (len cap : Nat) (frame : Int) (w : World) (b o : Nat) (kd : Nat → Int) (C : Nat → List Value) (hf : frame ≤ 9223372036854775807)
    (ha : 0 < len → a = some ⟨b, o, none⟩ ∧ b < w.heap.size) (hn : len < maxLen) (hcap : len ≤ cap)
    (hC : ∀ k, k < len → (C k).length = 55 ∧ (∀ v, v ∈ C k → v.oneCell' = true) ∧ (∀ j, j < 55 → w.cell? ⟨b, o + k * 55 + j, none⟩ = some ((C k).getD j undef)) ∧ (C k)[0]? = some (.int .i64 (kd k))) :
    Calls Tryz.prog 25 #[.slice a len cap, .int .i64 frame] w fun e w' => e = .returned (.slice a (doneN kd frame len) cap) ∧ Bel w.heap.size w w' := by
  have h0 : Hid (doneT kd (frame0 frame) 0 len = doneN kd frame len) := rfl
  have hfr : 0 ≤ frame0 frame ∧ frame0 frame ≤ 9223372036854775807 := by unfold frame0; split <;> omega
  generalize hN : doneN kd frame len = N at h0 ⊢
  have hN : Hid _ := hN
  rcases (by omega : frame < 0 ∨ 0 ≤ frame) with hneg | hneg
  all_goals
    go_enter Tryz.func25, Tryz.ntmps25
    go_wp2
    have hfe : frame0 frame = (if frame < 0 then 0 else frame) := rfl
    first | rw [if_pos hneg] at hfe | rw [if_neg (by omega)] at hfe
    replace hfe : Hid _ := hfe
    go_loopw [5, 12] (fun lf i wr => ∃ k : Nat, k ≤ len ∧ i = .int .i64 k ∧ lf = .int .i64 (frame0 frame - shN kd k) ∧ Bel w.heap.size w wr ∧ Hid (doneT kd (frame0 frame) k (len - k) = N) ∧ (shN kd k : Int) ≤ frame0 frame)
      (fun lf i wr => len - (Go.RowKit.intOf i).toNat)
    case atStart =>
      refine ⟨0, Nat.zero_le _, rfl, ?_, Bel.refl _ _, h0, hfr.1⟩
      rw [hfe.out]
      simp [shN]
    case round =>
      obtain ⟨k, hk, rfl, rfl, hbw, hd, hle⟩ := hrel
      by_cases hp : k < len
      · obtain ⟨hA, hbb⟩ := ha (by omega)
        subst hA
        clear ha
        obtain ⟨hC1, hC2, hC3, hC4⟩ := hC k hp
        have hcell : ∀ i, i < (C k).length → wr.cell? ⟨b, o + k * 55 + i, none⟩ = some ((C k).getD i undef) := fun i hi => by rw [cell_bel hbw hbb]; exact hC3 i (by omega)
        clear hC hC3
        have hsl := shN_le kd k
        have hd2 : Hid (doneT kd (frame0 frame) k (len - k) = if kd k = 1 ∧ (shN kd k : Int) = frame0 frame then k else doneT kd (frame0 frame) (k + 1) (len - (k + 1))) := by
          have e : len - k = (len - (k + 1)) + 1 := by omega
          show _ = _
          rw [e, doneT]
        go_wp2_with (first
          | (refine wpList_load _ rfl _ 80 rfl leaves80 (by kernel_rfl) b (o + k * 55) rfl (C k) (by rw [leaves80_length]; exact hC1) hcell ?_; go_frame)
          | (refine wpList_allocBig _ rfl 80 rfl Tryz.zeroValue80 wr.heap.size rfl ?_; intro w2 b2 s2 h2; go_frame)
          | (refine wpList_storeBig _ rfl (.tmp 7) (.tmp 16) 80 rfl rfl leaves80 wr.heap.size _ h2 (by rw [leaves80_length]; rfl) (C k) rfl rfl (by rw [leaves80_length]; exact hC1) hC2 ?_; intro w3 b3 s3 h3 _
             have d0 : w3.cell? ⟨wr.heap.size, 0, none⟩ = some (.int .i64 (kd k)) := (cell_block h3 0).trans hC4)
          | go_in)
        · rename_i g1
          have g1 : ¬ kd k = 1 := by simpa using g1
          have e1 : shN kd (k + 1) = shN kd k := by rw [shN, if_neg g1]
          have hd3 := hd2.out.symm.trans hd.out
          rw [if_neg (fun h => g1 h.1)] at hd3
          exact ⟨⟨k + 1, hp, by first | rw [wrapN hp hn] | rfl, by rw [e1], hbw.trans ((b2.trans (b3.mono (Nat.le_refl _))).mono hbw.size), hd3, by rw [e1]; exact hle⟩, by first | (rw [wrapN hp hn, intOfN, intOfN]; omega) | (simp only [Go.RowKit.intOf]; omega)⟩
        · rename_i g1 _ _ g2
          have g1 : kd k = 1 := by simpa using g1
          have g2 : frame0 frame - (shN kd k : Int) = 0 := by simpa using g2
          have hd3 := hd2.out.symm.trans hd.out
          rw [if_pos ⟨g1, by omega⟩] at hd3
          subst hd3
          go_ret
          exact ⟨rfl, hbw.trans ((b2.trans (b3.mono (Nat.le_refl _))).mono hbw.size)⟩
        · rename_i g1 g2
          have g1 : kd k = 1 := by simpa using g1
          have g2 : ¬ frame0 frame - (shN kd k : Int) = 0 := by simpa using g2
          have e1 : shN kd (k + 1) = shN kd k + 1 := by rw [shN, if_pos g1]
          have hd3 := hd2.out.symm.trans hd.out
          rw [if_neg (fun h => by have := h.2; omega)] at hd3
          exact ⟨⟨k + 1, hp, by first | rw [wrapN hp hn] | rfl, by rw [e1]; congr 1; omega, hbw.trans ((b2.trans (b3.mono (Nat.le_refl _))).mono hbw.size), hd3, by rw [e1]; omega⟩, by first | (rw [wrapN hp hn, intOfN, intOfN]; omega) | (simp only [Go.RowKit.intOf]; omega)⟩
      · have hkn : k = len := by omega
        subst hkn
        rw [Nat.sub_self] at hd
        have hd : Hid (k = N) := hd
        go_wp2
        go_ret
        exact ⟨by have := hd.out; subst this; rfl, hbw⟩
end Go.AI
