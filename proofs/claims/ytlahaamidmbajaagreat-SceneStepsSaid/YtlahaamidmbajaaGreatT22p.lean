/- The answers of scene.Items, of scene.Of and of tag.Join given by hand: what they are, and that they are the program's. -/
import Derived.Test.YtlahaamidmbajaaGreatT22n
set_option linter.unusedVariables false
set_option linter.unusedSimpArgs false
set_option maxRecDepth 100000
namespace Go.AI
open Go Go.RowKit Go.Proofs Go.Maps
theorem cases15 {p : Nat → Prop} (h : p 0 ∧ p 1 ∧ p 2 ∧ p 3 ∧ p 4 ∧ p 5 ∧ p 6 ∧ p 7 ∧ p 8 ∧ p 9 ∧ p 10 ∧ p 11 ∧ p 12 ∧ p 13 ∧ p 14) : ∀ i, i < 15 → p i := by
  obtain ⟨h0, h1, h2, h3, h4, h5, h6, h7, h8, h9, h10, h11, h12, h13, h14⟩ := h
  intro i hi
  match i, hi with
  | 0, _ => exact h0
  | 1, _ => exact h1
  | 2, _ => exact h2
  | 3, _ => exact h3
  | 4, _ => exact h4
  | 5, _ => exact h5
  | 6, _ => exact h6
  | 7, _ => exact h7
  | 8, _ => exact h8
  | 9, _ => exact h9
  | 10, _ => exact h10
  | 11, _ => exact h11
  | 12, _ => exact h12
  | 13, _ => exact h13
  | 14, _ => exact h14
  | i + 15, hi => exact absurd hi (by omega)
theorem leaf86_sh : ((leaves Tryz.prog 86).getD []).take 8 = (((leaves Tryz.prog 80).getD []).drop 25).take 8 := by kernel_rfl
theorem leaf86_hi : ((leaves Tryz.prog 86).getD []).drop 8 = List.replicate 14 (.int .i64) ++ [.sl 3] := by kernel_rfl
theorem getD_take {α : Type} (l : List α) (d : α) {n j : Nat} (h : j < n) : (l.take n).getD j d = l.getD j d := by
  simp only [List.getD, List.getElem?_take_of_lt h]
theorem getD_drop {α : Type} (l : List α) (d : α) (n j : Nat) : (l.drop n).getD j d = l.getD (n + j) d := by
  simp only [List.getD, List.getElem?_drop]
theorem leafL_lo {C : List Value} (h : C.length = 55) (M X : Nat → Int) (m : Value) {j : Nat} (hj : j < 8) : (leafL C M X m).getD j undef = C.getD (25 + j) undef := by
  unfold leafL
  have : (shL C ++ (matL M ++ (cxLv X ++ [m]))).getD j undef = (shL C).getD j undef := by
    simp only [List.getD, List.getElem?_append_left (show j < (shL C).length by rw [shL_len h]; exact hj)]
  rw [this]
  unfold shL
  rw [getD_take _ _ hj, getD_drop]
theorem leafL_hi {C : List Value} (h : C.length = 55) (M X : Nat → Int) (m : Value) (j : Nat) : (leafL C M X m).getD (8 + j) undef = (matL M ++ (cxLv X ++ [m])).getD j undef := by
  unfold leafL
  simp only [List.getD, List.getElem?_append_right (show (shL C).length ≤ 8 + j by rw [shL_len h]; omega), shL_len h, Nat.add_sub_cancel_left]
def lvE (fr : Int) : List (List PV) := if fr = 0 then [leafE] else []
def sceneE (fr : Int) : List PV := [.l (lvE fr), .l [], .i 255, .i 255, .i 255, .i 255, .i 0]
theorem leafE_lo : ∀ j, j < 8 → leafE.getD j .u = (tags5.getD 0 []).getD (25 + j) .u := cases8 ⟨rfl, rfl, rfl, rfl, rfl, rfl, rfl, rfl⟩
theorem of_plain (p : CallF) {fr : Int} (hf : fr = 0 ∨ fr = 1) : PlainOk Tryz.prog (ann.by p) 16 (movE ++ [.i fr]) (sceneE fr) := by
  refine ⟨Tryz.f16, Tryz.f16.body.getD .skip, [.agg [.bool false, .int .i64 0, .int .i64 0, .int .i64 0, .int .i64 0, .int .i64 0, .int .i64 0, .int .i64 0, .sl 80 tags5], .v (.int .i64 fr)],
    [.agg [.sl 86 (lvE fr), .sl 40 [], .int .i64 255, .int .i64 255, .int .i64 255, .int .i64 255], .v (.int .i64 0)], Tryz.func16, by kernel_rfl, by kernel_rfl, by kernel_rfl, by kernel_rfl, by kernel_rfl, by kernel_rfl, fun N w vs hN hl hv => ?_⟩
  match vs, hl with
  | [v0, v1], _ =>
    have hv0 : VR Tryz.prog N w.heap (fun _ => none) (.agg [.bool false, .int .i64 0, .int .i64 0, .int .i64 0, .int .i64 0, .int .i64 0, .int .i64 0, .int .i64 0, .sl 80 tags5]) v0 := hv 0 (by simp)
    have hv1 : v1 = .int .i64 fr := (hv 1 (by simp)).leaf
    subst hv1
    have hvw : VR Tryz.prog (fun b => b < w.heap.size) w.heap (fun _ => none) (.agg [.bool false, .int .i64 0, .int .i64 0, .int .i64 0, .int .i64 0, .int .i64 0, .int .i64 0, .int .i64 0, .sl 80 tags5]) v0 := VR.mono ⟨fun b hb => ⟨hN b hb, rfl⟩, fun _ _ h => h⟩ hv0
    cases hv0 with
    | agg _ mL hml hm =>
      have hml : mL.length = 9 := hml
      have h8 : RP Tryz.prog N w.heap (.sl 80) (.l tags5) (mL.getD 8 undef) := hm 8 (by decide)
      obtain ⟨ad, b, o, tc, C, e8, htc, had, hC⟩ := tags_cells hN h8
      have hm8 : mL[8]? = some (.slice ad 5 tc) := by rw [getD_some (d := undef) (by rw [hml]; decide), e8]; rfl
      refine (of_calls (N := N) fr hf hml hm8 htc (had (by decide)) hvw hC).mono ?_
      rintro e w' ⟨lv, rfl, hb, hlv⟩
      refine ⟨[.agg #[lv, .slice none 0 0, .int .i64 255, .int .i64 255, .int .i64 255, .int .i64 255], .int .i64 0], rfl, hb, rfl, fun i hi => ?_⟩
      have hlr : RP Tryz.prog (fun b => N b ∨ (w.heap.size ≤ b ∧ b < w'.heap.size)) w'.heap (.sl 86) (.l (lvE fr)) lv := by
        rcases hlv with ⟨rfl, gb, cp, rfl, g1, g2, g3, g4, g5⟩ | ⟨rfl, rfl⟩
        · obtain ⟨c1, _, _, _, _, _, c7⟩ := hC 0 (by decide)
          refine RP.sl (P := Tryz.prog) (N := fun b => N b ∨ (w.heap.size ≤ b ∧ b < w'.heap.size)) (hp := w'.heap) 86 ((leaves Tryz.prog 86).getD []) [leafE] gb 0 cp (fun j => (leafL (C 0) sameM plainX (.slice none 0 0)).getD j undef) g3 leaves86 (.inr ⟨by omega, g2⟩)
            (fun i hi => by
              have hi : i = 0 := by simpa using hi
              subst hi
              rw [leaves86_length]; rfl)
            (fun j hj => by
              rw [leaves86_length] at hj
              have hj : j < 23 := by simpa using hj
              rw [← cell_cellH, Nat.zero_add]
              exact g5 j hj)
            (fun i j hi hj => ?_)
          have hi : i = 0 := by simpa using hi
          subst hi
          rw [leaves86_length] at hj
          rw [Nat.zero_mul, Nat.zero_add]
          by_cases h : j < 8
          · rw [leafL_lo c1 _ _ _ h, ← getD_take ((leaves Tryz.prog 86).getD []) _ h, leaf86_sh, getD_take _ _ h, getD_drop]
            show RP _ _ _ _ (leafE.getD j .u) _
            rw [leafE_lo j h]
            exact RP.mono (fun b hb' => ⟨.inl hb', hb.block b (hN b hb')⟩) (c7 (25 + j) (by omega))
          · obtain ⟨i, rfl⟩ : ∃ i, j = 8 + i := ⟨j - 8, by omega⟩
            rw [leafL_hi c1, ← getD_drop ((leaves Tryz.prog 86).getD []), leaf86_hi]
            exact cases15 (p := fun i => RP Tryz.prog (fun b => N b ∨ (w.heap.size ≤ b ∧ b < w'.heap.size)) w'.heap ((List.replicate 14 (LTy.int .i64) ++ [LTy.sl 3]).getD i .no) (leafE.getD (8 + i) .u) ((matL sameM ++ (cxLv plainX ++ [Value.slice none 0 0])).getD i undef))
              ⟨.int _ _, .int _ _, .int _ _, .int _ _, .int _ _, .int _ _, .int _ _, .int _ _, .int _ _, .int _ _, .int _ _, .int _ _, .int _ _, .int _ _, .nil _ _⟩ i (by omega)
        · exact .nil _ _
      match i, hi with
      | 0, _ =>
        refine VR.agg [.sl 86 (lvE fr), .sl 40 [], .int .i64 255, .int .i64 255, .int .i64 255, .int .i64 255] [lv, .slice none 0 0, .int .i64 255, .int .i64 255, .int .i64 255, .int .i64 255] rfl (fun i hi => ?_)
        match i, hi with
        | 0, _ => exact hlr
        | 1, _ => exact RP.nil _ _
        | 2, _ => exact rfl
        | 3, _ => exact rfl
        | 4, _ => exact rfl
        | 5, _ => exact rfl
      | 1, _ => exact .v _ _ rfl
open Classical in
/-- the answers given by hand -/
noncomputable def primS : CallF := fun f ps bs =>
  if f = 12 ∧ bs = [] ∧ ∃ es fr, ps = [.l es, .i fr] ∧ OkE es fr then
    (match ps with
    | [.l es, .i fr] => some ([.l ((itemsE es fr).map itE)], [])
    | _ => none)
  else if f = 16 ∧ bs = [] ∧ ps = movE ++ [.i 0] then some (sceneE 0, [])
  else if f = 16 ∧ bs = [] ∧ ps = movE ++ [.i 1] then some (sceneE 1, [])
  else primJ f ps bs
theorem primS_plain (p : CallF) {f : FuncId} {ps : List PV} {bs : List BX} {res : Res} (h : primS f ps bs = some res) : bs = [] ∧ res.2 = [] ∧ PlainOk Tryz.prog (ann.by p) f ps res.1 := by
  unfold primS at h
  split at h
  · rename_i h1
    obtain ⟨rfl, rfl, es, fr, rfl, hok⟩ := h1
    simp only [Option.some.injEq] at h
    subst h
    exact ⟨rfl, rfl, items_plain p hok⟩
  · split at h
    · rename_i h1
      obtain ⟨rfl, rfl, rfl⟩ := h1
      simp only [Option.some.injEq] at h
      subst h
      exact ⟨rfl, rfl, of_plain p (.inl rfl)⟩
    · split at h
      · rename_i h1
        obtain ⟨rfl, rfl, rfl⟩ := h1
        simp only [Option.some.injEq] at h
        subst h
        exact ⟨rfl, rfl, of_plain p (.inr rfl)⟩
      · exact primJ_plain p h
noncomputable def annP : Ann := ann.by primS
noncomputable def cP : CallF := callW Tryz.prog annP
noncomputable def rP : FuncId → List TypeId → List Item → St → Option Res := runW Tryz.prog annP
theorem cP_fix (f : FuncId) (args : List PV) (bs : List BX) : cP f args bs = stepC Tryz.prog annP cP rP f args bs := callW_fix _ _ f args bs
theorem rP_fix (f : FuncId) (pts : List TypeId) (t : List Item) (st : St) : rP f pts t st = stepR Tryz.prog annP cP rP f pts t st := runW_fix _ _ f pts t st
theorem ans_p {f : FuncId} {ps : List PV} {bs : List BX} {r : Res} (h : cP f ps bs = some r) : Ans (fun k => callAt Tryz.prog annP k f ps bs) r := ans_of _ _ h
theorem prim_ok : CallOk Tryz.prog annP annP.prim := prim_plain noCountT (fun f ps bs res h => primS_plain primS h)
theorem none12 (ps : List PV) (bs : List BX) : ∀ n, callAt Tryz.prog ann n 12 ps bs = none
  | 0 => rfl
  | n + 1 => by
    show (lvl Tryz.prog ann (n + 1)).1 12 ps bs = none
    rw [lvl]
    show (match Tryz.prog.funcs[12]? with
      | some fn => match fn.body, enter Tryz.prog ann 12 fn ps bs with
        | some c, some st => adv Tryz.prog ann 12 fn (bs.map (·.1)) (lvl Tryz.prog ann n).1 ((lvl Tryz.prog ann n).2 12 (bs.map (·.1))) 5000 true [.code c] st
        | none, _ => extR Tryz.prog ann 12 fn ps bs
        | _, _ => none
      | none => none) = none
    generalize (lvl Tryz.prog ann n).1 = C
    generalize (lvl Tryz.prog ann n).2 = R
    rw [Tryz.func12]
    simp only
    generalize enter Tryz.prog ann 12 Tryz.f12 ps bs = en
    generalize bs.map (·.1) = pts
    cases en with
    | none => kernel_rfl
    | some st => kernel_rfl
theorem none16 (ps : List PV) (bs : List BX) : ∀ n, callAt Tryz.prog ann n 16 ps bs = none
  | 0 => rfl
  | n + 1 => by
    show (lvl Tryz.prog ann (n + 1)).1 16 ps bs = none
    rw [lvl]
    show (match Tryz.prog.funcs[16]? with
      | some fn => match fn.body, enter Tryz.prog ann 16 fn ps bs with
        | some c, some st => adv Tryz.prog ann 16 fn (bs.map (·.1)) (lvl Tryz.prog ann n).1 ((lvl Tryz.prog ann n).2 16 (bs.map (·.1))) 5000 true [.code c] st
        | none, _ => extR Tryz.prog ann 16 fn ps bs
        | _, _ => none
      | none => none) = none
    generalize (lvl Tryz.prog ann n).1 = C
    generalize (lvl Tryz.prog ann n).2 = R
    rw [Tryz.func16]
    simp only
    generalize enter Tryz.prog ann 16 Tryz.f16 ps bs = en
    generalize bs.map (·.1) = pts
    cases en with
    | none => kernel_rfl
    | some st => kernel_rfl
theorem none64 (ps : List PV) (bs : List BX) : ∀ n, callAt Tryz.prog ann n 64 ps bs = none
  | 0 => rfl
  | n + 1 => by
    show (lvl Tryz.prog ann (n + 1)).1 64 ps bs = none
    rw [lvl]
    show (match Tryz.prog.funcs[64]? with
      | some fn => match fn.body, enter Tryz.prog ann 64 fn ps bs with
        | some c, some st => adv Tryz.prog ann 64 fn (bs.map (·.1)) (lvl Tryz.prog ann n).1 ((lvl Tryz.prog ann n).2 64 (bs.map (·.1))) 5000 true [.code c] st
        | none, _ => extR Tryz.prog ann 64 fn ps bs
        | _, _ => none
      | none => none) = none
    generalize (lvl Tryz.prog ann n).1 = C
    generalize (lvl Tryz.prog ann n).2 = R
    rw [Tryz.func64]
    simp only
    generalize enter Tryz.prog ann 64 Tryz.f64 ps bs = en
    generalize bs.map (·.1) = pts
    cases en with
    | none => kernel_rfl
    | some st => kernel_rfl
theorem primS_none {f : FuncId} {ps : List PV} {bs : List BX} {r : Res} (h : primS f ps bs = some r) (n : Nat) : callAt Tryz.prog ann n f ps bs = none := by
  unfold primS at h
  split at h
  · rename_i h1
    obtain ⟨rfl, _⟩ := h1
    exact none12 ps bs n
  · split at h
    · rename_i h1
      obtain ⟨rfl, _⟩ := h1
      exact none16 ps bs n
    · split at h
      · rename_i h1
        obtain ⟨rfl, _⟩ := h1
        exact none16 ps bs n
      · unfold primJ at h
        cases hf : Nat.beq f 64 with
        | false => rw [hf] at h; cases h
        | true =>
          have := Nat.eq_of_beq_eq_true hf
          subst this
          exact none64 ps bs n
/-- what was answered without stands -/
theorem cP_of {f : FuncId} {ps : List PV} {bs : List BX} {r : Res} (h : cW f ps bs = some r) : cP f ps bs = some r := callW_by Tryz.prog (A := ann) (p := primS) rfl (fun f ps bs r h n => primS_none h n) h
theorem Items_p {es : List (List PV)} {fr : Int} (h : OkE es fr) : cP f_scene_Items [.l es, .i fr] [] = some ([.l ((itemsE es fr).map itE)], []) := by
  rw [cP_fix]
  have : primS f_scene_Items [.l es, .i fr] [] = some ([.l ((itemsE es fr).map itE)], []) := by
    unfold primS
    rw [if_pos ⟨rfl, rfl, es, fr, rfl, h⟩]
  unfold stepC
  rw [show annP.prim f_scene_Items [.l es, .i fr] [] = _ from this]
theorem Of_p {fr : Int} (h : fr = 0 ∨ fr = 1) : cP f_scene_Of (movE ++ [.i fr]) [] = some (sceneE fr, []) := by
  rw [cP_fix]
  have : primS f_scene_Of (movE ++ [.i fr]) [] = some (sceneE fr, []) := by
    unfold primS
    rw [if_neg (fun h => by have := h.1; exact absurd this (by decide))]
    rcases h with rfl | rfl
    · rw [if_pos ⟨rfl, rfl, rfl⟩]
    · rw [if_neg (fun h => by have := h.2.2; unfold movE at this; simp at this), if_pos ⟨rfl, rfl, rfl⟩]
  unfold stepC
  rw [show annP.prim f_scene_Of (movE ++ [.i fr]) [] = _ from this]
end Go.AI
