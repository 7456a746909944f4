/- slices.SortFunc over a scene's items at this program: the row sorted by depth. -/
import Derived.Shelf.SlSortCmp.WholeK
import Derived.Test.YtlahaamidmbajaaGreatT22e
set_option linter.unusedVariables false
set_option linter.unusedSimpArgs false
namespace Go.Proofs
open Go.Shelf
def Tryz.sortL_ren : Go.Shelf.Ren := ⟨fun | 6 => 27 | 15 => 56 | 14 => 55 | 28 => 94 | 29 => 95 | 20 => 86 | 21 => 87 | 22 => 88 | 23 => 89 | 24 => 90 | 25 => 91 | 26 => 92 | 27 => 93 | 46 => 125 | 47 => 126 | 48 => 127 | 49 => 128 | 50 => 129 | 57 => 156 | n => n, fun | 22 => 30 | 24 => 82 | 25 => 106 | 3 => 3 | 39 => 146 | 0 => 0 | 53 => 191 | 55 => 193 | 4 => 4 | 46 => 185 | 45 => 184 | 50 => 114 | 5 => 5 | 9 => 9 | 66 => 235 | 70 => 239 | 76 => 261 | 77 => 262 | n => n, fun | n => n⟩
theorem Tryz.sortL : Go.Proofs.SlLaysF0.n6 Tryz.prog Tryz.sortL_ren := {
  mixed := by kernel_rfl
  f6 := ⟨Tryz.f27.name, by decide, Tryz.func27.trans (congrArg some (by kernel_rfl))⟩
  f14 := ⟨Tryz.f55.name, by decide, Tryz.func55.trans (congrArg some (by kernel_rfl))⟩
  f15 := Tryz.func56.trans (congrArg some (by kernel_rfl))
  f20 := ⟨Tryz.f86.name, by decide, Tryz.func86.trans (congrArg some (by kernel_rfl))⟩
  f21 := ⟨Tryz.f87.name, by decide, Tryz.func87.trans (congrArg some (by kernel_rfl))⟩
  f22 := ⟨Tryz.f88.name, by decide, Tryz.func88.trans (congrArg some (by kernel_rfl))⟩
  f23 := ⟨Tryz.f89.name, by decide, Tryz.func89.trans (congrArg some (by kernel_rfl))⟩
  f24 := ⟨Tryz.f90.name, by decide, Tryz.func90.trans (congrArg some (by kernel_rfl))⟩
  f25 := ⟨Tryz.f91.name, by decide, Tryz.func91.trans (congrArg some (by kernel_rfl))⟩
  f26 := ⟨Tryz.f92.name, by decide, Tryz.func92.trans (congrArg some (by kernel_rfl))⟩
  f27 := ⟨Tryz.f93.name, by decide, Tryz.func93.trans (congrArg some (by kernel_rfl))⟩
  f28 := Tryz.func94.trans (congrArg some (by kernel_rfl))
  f29 := Tryz.func95.trans (congrArg some (by kernel_rfl))
  f46 := ⟨Tryz.f125.name, by decide, Tryz.func125.trans (congrArg some (by kernel_rfl))⟩
  f47 := Tryz.func126.trans (congrArg some (by kernel_rfl))
  f48 := Tryz.func127.trans (congrArg some (by kernel_rfl))
  f49 := ⟨Tryz.f128.name, by decide, Tryz.func128.trans (congrArg some (by kernel_rfl))⟩
  f50 := ⟨Tryz.f129.name, by decide, Tryz.func129.trans (congrArg some (by kernel_rfl))⟩
  f57 := ⟨Tryz.f156.name, by decide, Tryz.func156.trans (congrArg some (by kernel_rfl))⟩
  t0 := Tryz.underlying0
  a0 := Tryz.isAgg0
  z0 := Tryz.sizeOf0
  v0 := Tryz.zeroValue0
  t3 := Tryz.underlying3
  a3 := Tryz.isAgg3
  z3 := Tryz.sizeOf3
  v3 := Tryz.zeroValue3
  t4 := Tryz.underlying4
  a4 := Tryz.isAgg4
  z4 := Tryz.sizeOf4
  v4 := Tryz.zeroValue4
  t5 := Tryz.underlying5
  a5 := Tryz.isAgg5
  z5 := Tryz.sizeOf5
  v5 := Tryz.zeroValue5
  t9 := Tryz.underlying9
  a9 := Tryz.isAgg9
  z9 := Tryz.sizeOf9
  v9 := Tryz.zeroValue9
  t22 := Tryz.underlying30
  a22 := Tryz.isAgg30
  z22 := Tryz.sizeOf30
  v22 := Tryz.zeroValue30
  t25 := Tryz.underlying106
  a25 := Tryz.isAgg106
  z25 := Tryz.sizeOf106
  v25 := Tryz.zeroValue106
  t39 := Tryz.underlying146
  a39 := Tryz.isAgg146
  z39 := Tryz.sizeOf146
  v39 := Tryz.zeroValue146
  t45 := Tryz.underlying184
  a45 := Tryz.isAgg184
  z45 := Tryz.sizeOf184
  v45 := Tryz.zeroValue184
  t46 := Tryz.underlying185
  a46 := Tryz.isAgg185
  z46 := Tryz.sizeOf185
  v46 := Tryz.zeroValue185
  t50 := Tryz.underlying114
  a50 := Tryz.isAgg114
  z50 := Tryz.sizeOf114
  v50 := Tryz.zeroValue114
  t53 := Tryz.underlying191
  a53 := Tryz.isAgg191
  z53 := Tryz.sizeOf191
  v53 := Tryz.zeroValue191
  t55 := Tryz.underlying193
  a55 := Tryz.isAgg193
  z55 := Tryz.sizeOf193
  v55 := Tryz.zeroValue193
  t66 := Tryz.underlying235
  a66 := Tryz.isAgg235
  z66 := Tryz.sizeOf235
  v66 := Tryz.zeroValue235
  t70 := Tryz.underlying239
  a70 := Tryz.isAgg239
  z70 := Tryz.sizeOf239
  v70 := Tryz.zeroValue239
  t76 := Tryz.underlying261
  a76 := Tryz.isAgg261
  z76 := Tryz.sizeOf261
  v76 := Tryz.zeroValue261
  t77 := Tryz.underlying262
  a77 := Tryz.isAgg262
  z77 := Tryz.sizeOf262
  v77 := Tryz.zeroValue262 }
end Go.Proofs
namespace Go.AI
open Go Go.RowKit Go.Proofs Go.Sort Go.Shelf
abbrev Itm := { x : Nat → Int // -1099511627776 ≤ x 0 ∧ x 0 ≤ 1099511627776 }
instance : Inhabited Itm := ⟨⟨fun _ => 0, by decide, by decide⟩⟩
def cfI (x y : Itm) : Int := x.1 0 - y.1 0
theorem swoI : SWO (ltOf cfI) where
  irrefl x := by unfold ltOf cfI; rw [decide_eq_false_iff_not]; omega
  trans x y z h1 h2 := by
    unfold ltOf cfI at *
    rw [decide_eq_true_eq] at *
    omega
  ntrans x y z h1 h2 := by
    unfold ltOf cfI at *
    rw [decide_eq_false_iff_not] at *
    omega
set_option maxHeartbeats 1000000 in
set_option maxRecDepth 100000 in
theorem cmp28 (x y : Itm) (W : World) : Calls Tryz.prog 28 #[.agg (itL x.1).toArray, .agg (itL y.1).toArray] W fun e w' => e = .returned (.int .i64 (cfI x y)) ∧ w' = grow W #[.cells (itL x.1).toArray 82, .cells (itL y.1).toArray 82] := by
  obtain ⟨x, hx1, hx2⟩ := x
  obtain ⟨y, hy1, hy2⟩ := y
  have e1 : ∀ o1 o2, (W.alloc o1).alloc o2 = grow W #[o1, o2] := fun o1 o2 => by rw [alloc_eq_grow, alloc_eq_grow, grow_grow]; rfl
  have hw : Go.RowKit.wrap64 (x 0 - y 0) = x 0 - y 0 := by unfold Go.RowKit.wrap64; omega
  show Calls Tryz.prog 28 #[.agg (itL x).toArray, .agg (itL y).toArray] W fun e w' => e = .returned (.int .i64 (x 0 - y 0)) ∧ w' = grow W #[.cells (itL x).toArray 82, .cells (itL y).toArray 82]
  rw [← e1]
  clear e1
  unfold itL
  go_enter Tryz.func28, Tryz.ntmps28
  go_wp2
  go_ret
  exact ⟨rfl, rfl⟩
theorem cmpLays28 (blk off size : Nat) (w : World) : CmpLays Tryz.prog 28 #[] (fun x : Itm => itL x.1) 19 cfI blk off size w := fun m os dk hs x y => by
  refine (cmp28 x y _).mono ?_
  rintro e w' ⟨rfl, rfl⟩
  exact ⟨rfl, 0, _, rfl⟩
set_option maxHeartbeats 1000000 in
set_option maxRecDepth 100000 in
theorem sort_none (W : World) : Calls Tryz.prog 27 #[.slice none 0 0, .func (.func 28) #[] #[]] W fun e w' => e = .returned (.tuple #[]) ∧ w' = W := by
  go_enter Tryz.func27, Tryz.ntmps27
  go_wp2
  refine wp_loop_rounds 1 ?_
  rw [rounds_succ]
  go_wp2
  refine wp_loop_rounds 1 ?_
  rw [rounds_succ]
  go_wp2
  go_end0
  simp only []
  go_at_K
  go_wp2
  refine bodyPost_ret (results_none rfl _ _ _) rfl ?_
  simp only []
  go_at_K
  go_wp2
  go_end0
  exact ⟨rfl, rfl⟩
theorem sort_some (blk cap : Nat) (d : Array Itm) (w : World) (hH : HoldsK (fun x : Itm => itL x.1) 19 w blk 0 d) (hblk : blk < w.heap.size) (hsz : d.size < 4611686018427387904) :
    Calls Tryz.prog 27 #[.slice (some ⟨blk, 0, none⟩) d.size cap, .func (.func 28) #[] #[]] w fun e w' =>
      e = .returned (.tuple #[]) ∧ ∃ d' n os, PermIn 0 d.size d d' ∧ SortedIn (ltOf cfI) 0 d.size d' ∧ w' = sortWorldK (fun x : Itm => itL x.1) 19 w blk 0 n d' os := by
  have eg : ∀ args w, (callFunc 28 args).run Tryz.prog w = .ok (.enter 28 args) w := enters_of Tryz.func28 (by kernel_rfl) rfl
  have h := AnyQ.slices_SortFunc (α := Itm) Tryz.sortL 19 Tryz.isAgg82 Tryz.sizeOf82 (fun x : Itm => itL x.1) (fun _ => rfl) (fun x v hv => itL_one x.1 v hv) cfI swoI 28 #[] blk 0 cap d w eg (cmpLays28 blk 0 d.size w) hH hblk hsz
  exact h
theorem mapBlock_heap (w : World) (blk : Nat) (f : Array Value → Array Value) (k : Nat) (h : k ≠ blk) : (mapBlock w blk f).heap[k]? = w.heap[k]? := by
  simp only [mapBlock, Array.getElem?_modify]
  rw [if_neg (Ne.symm h)]
/-- a row of items is sorted by depth -/
theorem sort_row (base : Nat) (v : Value) (L : List Itm) (w : World) (hrow : w.ownsRow base 82 19 v L.length (L.map fun x => itL x.1).flatten) (hL : L.length < 4611686018427387904) :
    Calls Tryz.prog 27 #[v, .func (.func 28) #[] #[]] w fun e w' => e = .returned (.tuple #[]) ∧ Bel base w w' ∧ ∃ L' : List Itm, L'.Perm L ∧ L'.Pairwise (fun x y => x.1 0 ≤ y.1 0) ∧
      ((v = .slice none 0 0 ∧ L' = []) ∨ ∃ g cap, v = .slice (some ⟨g, 0, none⟩) L.length cap ∧ L.length ≤ cap ∧ cap ≤ maxLen ∧ g < w'.heap.size ∧ ∀ i, i < L'.length → ∀ j, j < 19 → w'.cell? ⟨g, i * 19 + j, none⟩ = some ((itL (L'.getD i default).1).getD j undef)) := by
  rcases hrow.2 with ⟨rfl, h0⟩ | ⟨g, cap, cur, rfl, hg, hb, hc, hm, hs, ht⟩
  · have hL0 : L = [] := List.length_eq_zero_iff.1 h0
    subst hL0
    refine (sort_none w).mono ?_
    rintro e w' ⟨rfl, rfl⟩
    exact ⟨rfl, Bel.refl _ _, [], List.Perm.refl _, List.Pairwise.nil, .inl ⟨rfl, rfl⟩⟩
  · have hblk : g < w.heap.size := (Array.getElem?_eq_some_iff.1 hb).1
    have hsz : L.toArray.size = L.length := by simp
    have hflat : ∀ (L : List Itm) (i j : Nat), i < L.length → j < 19 → (L.map fun x => itL x.1).flatten[i * 19 + j]? = some ((itL (L.getD i default).1).getD j undef) := by
      intro L
      induction L with
      | nil => intro i j hi; exact absurd hi (Nat.not_lt_zero _)
      | cons x L ih =>
        intro i j hi hj
        rw [List.map_cons, List.flatten_cons]
        cases i with
        | zero =>
          rw [Nat.zero_mul, Nat.zero_add, List.getElem?_append_left (by exact hj)]
          exact getD_some hj
        | succ i =>
          rw [List.getElem?_append_right (by show 19 ≤ _; omega), show (i + 1) * 19 + j - (itL x.1).length = i * 19 + j by show (i + 1) * 19 + j - 19 = _; omega]
          exact ih i j (by simpa using hi) hj
    have hcell : ∀ i j, i < L.length → j < 19 → w.cell? ⟨g, i * 19 + j, none⟩ = some ((itL (L.getD i default).1).getD j undef) := fun i j hi hj => by
      have h1 : i * 19 + j < L.length * 19 := by omega
      rw [cell_cellH, cellH_of hb, ← Array.getElem?_toList, ← List.getElem?_take_of_lt h1, ht]
      exact hflat L i j hi hj
    have hH : HoldsK (fun x : Itm => itL x.1) 19 w g 0 L.toArray := by
      intro t ht'
      rw [size_flatK, hsz] at ht'
      have h1 : t / 19 < L.length := by omega
      have h2 : t % 19 < 19 := Nat.mod_lt _ (by decide)
      have e := hcell (t / 19) (t % 19) h1 h2
      rw [show t / 19 * 19 + t % 19 = t by omega] at e
      refine ⟨?_, ?_⟩
      · rw [Nat.zero_add, e, get_flatK _ _ _ _ (by rw [hsz]; exact ht')]
        have e1 : L.toArray[t / 19]! = L.getD (t / 19) default := by
          rw [getElem!_pos L.toArray _ (by rw [hsz]; exact h1)]
          simp [List.getD, h1]
        have e2 : ∀ l : List Value, t % 19 < l.length → l[t % 19]! = l.getD (t % 19) undef := fun l hl => by
          rw [getElem!_pos l _ hl]
          simp [List.getD, hl]
        rw [e1, e2 (itL (L.getD (t / 19) default).1) h2]
        rfl
      · simp [World.frozen?, hb]
    have h := sort_some g cap L.toArray w hH hblk (by rw [hsz]; exact hL)
    rw [hsz] at h
    refine h.mono ?_
    rintro e w' ⟨rfl, d', n, os, hp, hsorted, rfl⟩
    have hds : d'.size = L.length := by rw [hp.1, hsz]
    have hperm : d'.toList.Perm L := by
      have := hp.2.2
      rw [Array.extract_eq_self_of_le (by omega), Array.extract_eq_self_of_le (by omega)] at this
      exact this
    have hget : ∀ i, i < L.length → d'[i]! = d'.toList.getD i default := fun i hi => by
      rw [getElem!_pos d' _ (by omega)]
      simp [List.getD, hds, hi]
    have hput : HoldsK (fun x : Itm => itL x.1) 19 (putRowK (fun x : Itm => itL x.1) 19 (Sort.ahead w n) g 0 d') g 0 d' := holdsK_putRowK (enc := fun x : Itm => itL x.1) (k := 19) (Sort.ahead w n) g 0 L.toArray d' (holdsK_ahead (enc := fun x : Itm => itL x.1) (k := 19) w n g 0 L.toArray hH) (by rw [hds, hsz])
    have hsize : (putRowK (fun x : Itm => itL x.1) 19 (Sort.ahead w n) g 0 d').heap.size = w.heap.size := Go.Sort.size_putRow id _ g 0 _
    have hgrow := holdsK_grow (enc := fun x : Itm => itL x.1) (k := 19) _ os g 0 d' (by rw [hsize]; exact hblk) hput
    refine ⟨rfl, ⟨⟨rfl, rfl⟩, ?_, fun k hk => ?_⟩, d'.toList, hperm, ?_, .inr ⟨g, cap, rfl, hc, hm, ?_, fun i hi j hj => ?_⟩⟩
    · show _ ≤ (grow _ os).heap.size
      unfold grow
      simp only [Array.size_append]
      omega
    · show (grow _ os).heap[k]? = _
      unfold grow
      rw [Array.getElem?_append_left (by rw [hsize]; omega)]
      exact mapBlock_heap _ _ _ _ (by omega)
    · rw [List.pairwise_iff_getElem]
      intro i j hi hj hij
      have hi' : i < d'.size := by simpa using hi
      have hj' : j < d'.size := by simpa using hj
      have := hsorted i j (Nat.zero_le _) hij (by omega)
      rw [getElem!_pos d' i hi', getElem!_pos d' j hj'] at this
      unfold ltOf cfI at this
      rw [decide_eq_false_iff_not] at this
      simp only [Array.getElem_toList]
      omega
    · show _ < (grow _ os).heap.size
      unfold grow
      simp only [Array.size_append]
      omega
    · have hi' : i < d'.size := by simpa using hi
      have := (HoldsK.cell hgrow hi' hj).1
      rw [Nat.zero_add, hget i (by omega)] at this
      refine this.trans ?_
      congr 1
      rw [getElem!_pos _ j (by exact hj)]
      have : ∀ l : List Value, (h : j < l.length) → l[j] = l.getD j undef := fun l h => by simp [List.getD, h]
      exact this _ _
end Go.AI
