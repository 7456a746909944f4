/- What stands at a depth behind so many tags: by the map, and one depth by itself. -/
import Derived.Test.YtlahaamidmbajaaGreatT22d
set_option linter.unusedVariables false
set_option linter.unusedSimpArgs false
namespace Go.AI
open Go Go.Maps Go.RowKit
abbrev PlF := (Nat → Int) → Bool → (Nat → Int) → Int → (Nat → Int) × Bool
/-- an item's cells -/
def tr19 (x : Nat → Int) (j : Nat) : Int := if j < 19 then x j else 0
theorem itD_it (x : Nat → Int) : itD (.held (itV x)) = tr19 x := by
  funext j
  unfold tr19
  match j with
  | 0 => rfl
  | 1 => rfl
  | 2 => rfl
  | 3 => rfl
  | 4 => rfl
  | 5 => rfl
  | 6 => rfl
  | 7 => rfl
  | 8 => rfl
  | 9 => rfl
  | 10 => rfl
  | 11 => rfl
  | 12 => rfl
  | 13 => rfl
  | 14 => rfl
  | 15 => rfl
  | 16 => rfl
  | 17 => rfl
  | 18 => rfl
  | j + 19 =>
    rw [if_neg (by omega)]
    simp [itD, itV]
/-- how many shows -/
def shF (kd : Nat → Int) : Nat → Int
  | 0 => 0
  | k + 1 => if kd k = 1 then Go.RowKit.wrap64 (shF kd k + 1) else shF kd k
/-- what stands at a depth -/
def atS (placeF : PlF) (kd dp : Nat → Int) (pl : Nat → Nat → Int) (d : Int) : Nat → (Nat → Int) × Bool
  | 0 => (fun _ => 0, false)
  | k + 1 =>
    if kd k = 28 ∧ dp k = d then (fun _ => 0, false)
    else if kd k = 26 ∧ pl k 1 = d then
      bif (placeF (atS placeF kd dp pl d k).1 (atS placeF kd dp pl d k).2 (pl k) (shF kd k)).2 then (tr19 (placeF (atS placeF kd dp pl d k).1 (atS placeF kd dp pl d k).2 (pl k) (shF kd k)).1, true) else atS placeF kd dp pl d k
    else atS placeF kd dp pl d k
theorem int_key (q : Int) : WideAt.IsKeyLit (.int .i64 q) := by unfold WideAt.IsKeyLit; trivial
theorem lookI_put_same {D : DataW Value} (h : IsMap D) (q : Int) (x : Nat → Int) : lookI (D.put (.int .i64 q) (.held (itV x))) q = tr19 x := by
  unfold lookI
  rw [atKey_put_same h (int_key q), itD_it]
theorem lookI_put_other {D : DataW Value} {q r : Int} (h : r ≠ q) (d : DataW Value) : lookI (D.put (.int .i64 q) d) r = lookI D r := by
  unfold lookI
  rw [atKey_put_other (fun e => h (by cases e; rfl))]
theorem lookI_del_other {D : DataW Value} {q r : Int} (h : r ≠ q) : lookI (D.del (.int .i64 q)) r = lookI D r := by
  unfold lookI
  rw [atKey_del_other (fun e => h (by cases e; rfl))]
theorem lookI_not {D : DataW Value} {q : Int} (h : Maps.has D (.int .i64 q) = false) : lookI D q = fun _ => 0 := by
  unfold lookI
  rw [atKey_of_not_has h, itD_it]
  funext j
  unfold tr19
  split <;> rfl
theorem st_at (placeF : PlF) (kd dp : Nat → Int) (pl : Nat → Nat → Int) : ∀ k, IsMap (stF placeF kd dp pl k).1 ∧ (stF placeF kd dp pl k).2 = shF kd k ∧
    ∀ d, (lookI (stF placeF kd dp pl k).1 d, Maps.has (stF placeF kd dp pl k).1 (.int .i64 d)) = atS placeF kd dp pl d k
  | 0 => ⟨isMap_empty, rfl, fun d => by
    show (lookI (.map []) d, false) = ((fun _ => 0), false)
    rw [lookI_not rfl]⟩
  | k + 1 => by
    obtain ⟨h1, h2, h3⟩ := st_at placeF kd dp pl k
    have e : stF placeF kd dp pl (k + 1) = stepF placeF (kd k) (dp k) (pl k) (stF placeF kd dp pl k) := rfl
    rw [e]
    generalize stF placeF kd dp pl k = s at *
    have g1 : ∀ d, lookI s.1 d = (atS placeF kd dp pl d k).1 := fun d => by rw [← h3 d]
    have g2 : ∀ d, Maps.has s.1 (.int .i64 d) = (atS placeF kd dp pl d k).2 := fun d => by rw [← h3 d]
    unfold stepF
    by_cases k1 : kd k = 1
    · rw [if_pos k1]
      refine ⟨h1, ?_, fun d => ?_⟩
      · rw [shF, if_pos k1, h2]
      · rw [atS, if_neg (fun h => by omega), if_neg (fun h => by omega)]
        exact h3 d
    · rw [if_neg k1]
      have e2 : shF kd (k + 1) = shF kd k := by rw [shF, if_neg k1]
      by_cases k2 : kd k = 28
      · rw [if_pos k2]
        refine ⟨h1.del _, by rw [e2]; exact h2, fun d => ?_⟩
        rw [atS]
        by_cases hd : dp k = d
        · subst hd
          rw [if_pos ⟨k2, rfl⟩, lookI_not has_del_same, has_del_same]
        · rw [if_neg (fun h => hd h.2), if_neg (fun h => by omega), lookI_del_other (Ne.symm hd), has_del_other (fun e => hd (by cases e; rfl))]
          exact h3 d
      · rw [if_neg k2]
        by_cases k3 : kd k = 26
        · rw [if_pos k3, g1, g2, h2]
          cases hp : (placeF (atS placeF kd dp pl (pl k 1) k).1 (atS placeF kd dp pl (pl k 1) k).2 (pl k) (shF kd k)).2 with
          | false =>
            rw [if_neg (by simp)]
            refine ⟨h1, by rw [e2]; exact h2, fun d => ?_⟩
            rw [atS, if_neg (fun h => by omega)]
            by_cases hd : pl k 1 = d
            · subst hd
              rw [if_pos ⟨k3, rfl⟩, hp, cond_false]
              exact h3 _
            · rw [if_neg (fun h => hd h.2)]
              exact h3 d
          | true =>
            rw [if_pos rfl]
            refine ⟨h1.put _ _, by rw [e2], fun d => ?_⟩
            rw [atS, if_neg (fun h => by omega)]
            by_cases hd : pl k 1 = d
            · subst hd
              rw [if_pos ⟨k3, rfl⟩, hp, cond_true, lookI_put_same h1, has_put_same h1 (int_key _)]
            · rw [if_neg (fun h => hd h.2), lookI_put_other (Ne.symm hd), has_put_other (fun e => hd (by cases e; rfl))]
              exact h3 d
        · rw [if_neg k3]
          refine ⟨h1, by rw [e2]; exact h2, fun d => ?_⟩
          rw [atS, if_neg (fun h => by omega), if_neg (fun h => k3 h.1)]
          exact h3 d
/-- sorted lists of the same members are the same -/
theorem rise_eq {α : Type} (f : α → Int) : ∀ (A B : List α), A.Pairwise (fun x y => f x < f y) → B.Pairwise (fun x y => f x < f y) → (∀ x, x ∈ A ↔ x ∈ B) → A = B
  | [], [], _, _, _ => rfl
  | [], y :: B, _, _, h => by cases (h y).2 (by simp)
  | x :: A, [], _, _, h => by cases (h x).1 (by simp)
  | x :: A, y :: B, hA, hB, h => by
    rw [List.pairwise_cons] at hA hB
    have e : x = y := by
      rcases List.mem_cons.1 ((h x).1 (by simp)) with e | hx
      · exact e
      · rcases List.mem_cons.1 ((h y).2 (by simp)) with e | hy
        · exact e.symm
        · have := hA.1 y hy
          have := hB.1 x hx
          omega
    subst e
    rw [rise_eq f A B hA.2 hB.2 (fun z => ⟨fun hz => ?_, fun hz => ?_⟩)]
    · rcases List.mem_cons.1 ((h z).1 (List.mem_cons_of_mem _ hz)) with e | hz'
      · subst e
        have := hA.1 z hz
        omega
      · exact hz'
    · rcases List.mem_cons.1 ((h z).2 (List.mem_cons_of_mem _ hz)) with e | hz'
      · subst e
        have := hB.1 z hz
        omega
      · exact hz'
/-- all depths -/
def depths : List Int := (List.range 255).map fun k => ((k + 1 : Nat) : Int)
theorem mem_depths (d : Int) : d ∈ depths ↔ 1 ≤ d ∧ d ≤ 255 := by
  unfold depths
  rw [List.mem_map]
  constructor
  · rintro ⟨k, hk, rfl⟩
    rw [List.mem_range] at hk
    omega
  · intro h
    refine ⟨(d - 1).toNat, ?_, by omega⟩
    rw [List.mem_range]
    omega
theorem depths_rise : depths.Pairwise (fun x y => x < y) := by
  unfold depths
  rw [List.pairwise_map]
  exact List.pairwise_lt_range.imp (fun h => by omega)
/-- the items of so many tags -/
def itemsF (placeF : PlF) (kd dp : Nat → Int) (pl : Nat → Nat → Int) (n : Nat) : List (Nat → Int) :=
  depths.filterMap fun d => bif (atS placeF kd dp pl d n).2 then some (atS placeF kd dp pl d n).1 else none
/-- a place keeps or tells the depth -/
def KeepsD (placeF : PlF) : Prop := ∀ x th p n, (placeF x th p n).2 = true → (th = true → x 0 = p 1) → (placeF x th p n).1 0 = p 1
theorem at_depth {placeF : PlF} (hk : KeepsD placeF) {kd dp : Nat → Int} {pl : Nat → Nat → Int} (d : Int) : ∀ k, (atS placeF kd dp pl d k).2 = true → (atS placeF kd dp pl d k).1 0 = d
  | 0, h => by cases h
  | k + 1, h => by
    have ih := at_depth hk (kd := kd) (dp := dp) (pl := pl) d k
    rw [atS] at h ⊢
    split at h
    · cases h
    · rename_i h1
      rw [if_neg h1]
      split at h
      · rename_i h2
        rw [if_pos h2]
        cases hp : (placeF (atS placeF kd dp pl d k).1 (atS placeF kd dp pl d k).2 (pl k) (shF kd k)).2 with
        | true =>
          rw [cond_true]
          show tr19 _ 0 = d
          rw [← h2.2]
          exact hk _ _ _ _ (by rw [h2.2]; exact hp) (by rw [h2.2]; exact ih)
        | false =>
          rw [hp, cond_false] at h
          rw [cond_false]
          exact ih h
      · rename_i h2
        rw [if_neg h2]
        exact ih h
theorem at_there {placeF : PlF} {kd dp : Nat → Int} {pl : Nat → Nat → Int} {n : Nat} (hp : ∀ k, k < n → kd k = 26 → 1 ≤ pl k 1 ∧ pl k 1 ≤ 255) (d : Int) : ∀ k, k ≤ n → (atS placeF kd dp pl d k).2 = true → 1 ≤ d ∧ d ≤ 255
  | 0, _, h => by cases h
  | k + 1, hk, h => by
    have ih := at_there (placeF := placeF) (dp := dp) hp d k (by omega)
    rw [atS] at h
    split at h
    · cases h
    · split at h
      · rename_i h2
        have := hp k (by omega) h2.1
        rw [h2.2] at this
        exact this
      · exact ih h
theorem items_rise {placeF : PlF} (hk : KeepsD placeF) {kd dp : Nat → Int} {pl : Nat → Nat → Int} (n : Nat) : (itemsF placeF kd dp pl n).Pairwise (fun x y => x 0 < y 0) := by
  unfold itemsF
  rw [List.pairwise_filterMap]
  refine depths_rise.imp fun {a b} hab x hx y hy => ?_
  cases ha : (atS placeF kd dp pl a n).2 with
  | false => rw [ha] at hx; cases hx
  | true =>
    cases hb : (atS placeF kd dp pl b n).2 with
    | false => rw [hb] at hy; cases hy
    | true =>
      rw [ha, cond_true] at hx
      rw [hb, cond_true] at hy
      cases hx
      cases hy
      rw [at_depth hk a n ha, at_depth hk b n hb]
      exact hab
/-- the map's items, sorted by depth, are they -/
theorem items_of {placeF : PlF} (hk : KeepsD placeF) {kd dp : Nat → Int} {pl : Nat → Nat → Int} {n : Nat} (hp : ∀ k, k < n → kd k = 26 → 1 ≤ pl k 1 ∧ pl k 1 ≤ 255) {K : List Int} (hnd : K.Nodup) (hK : ∀ q, q ∈ K ↔ Maps.has (stF placeF kd dp pl n).1 (.int .i64 q) = true)
    {L : List (Nat → Int)} (hperm : L.Perm (K.map fun q => lookI (stF placeF kd dp pl n).1 q)) (hs : L.Pairwise (fun x y => x 0 ≤ y 0)) : L = itemsF placeF kd dp pl n := by
  obtain ⟨_, _, h3⟩ := st_at placeF kd dp pl n
  have g1 : ∀ d, lookI (stF placeF kd dp pl n).1 d = (atS placeF kd dp pl d n).1 := fun d => by rw [← h3 d]
  have g2 : ∀ d, Maps.has (stF placeF kd dp pl n).1 (.int .i64 d) = (atS placeF kd dp pl d n).2 := fun d => by rw [← h3 d]
  have hz : ∀ q, q ∈ K → lookI (stF placeF kd dp pl n).1 q 0 = q := fun q hq => by
    rw [g1]
    exact at_depth hk q n (by rw [← g2]; exact (hK q).1 hq)
  have hdep : (L.map fun x => x 0).Nodup := by
    have e : (L.map fun x => x 0).Perm K := by
      have := hperm.map (fun x : Nat → Int => x 0)
      rw [List.map_map] at this
      have e2 : K.map ((fun x : Nat → Int => x 0) ∘ fun q => lookI (stF placeF kd dp pl n).1 q) = K := by
        refine (List.map_congr_left (g := id) (fun q hq => hz q hq)).trans (List.map_id K)
      rw [e2] at this
      exact this
    exact e.nodup_iff.2 hnd
  have hstr : L.Pairwise (fun x y => x 0 < y 0) := by
    have h1 : L.Pairwise (fun x y => x 0 ≠ y 0) := by
      have := hdep
      unfold List.Nodup at this
      rwa [List.pairwise_map] at this
    exact (hs.and h1).imp (fun h => by omega)
  refine rise_eq (fun x => x 0) _ _ hstr (items_rise hk n) fun x => ?_
  rw [hperm.mem_iff, List.mem_map]
  unfold itemsF
  rw [List.mem_filterMap]
  constructor
  · rintro ⟨q, hq, rfl⟩
    have hq2 : (atS placeF kd dp pl q n).2 = true := by rw [← g2]; exact (hK q).1 hq
    refine ⟨q, (mem_depths q).2 (at_there hp q n (Nat.le_refl _) hq2), ?_⟩
    rw [hq2, cond_true, g1]
  · rintro ⟨d, hd, h⟩
    cases hb : (atS placeF kd dp pl d n).2 with
    | false => rw [hb] at h; cases h
    | true =>
      rw [hb, cond_true] at h
      cases h
      exact ⟨d, (hK d).2 (by rw [g2]; exact hb), g1 d⟩
end Go.AI
