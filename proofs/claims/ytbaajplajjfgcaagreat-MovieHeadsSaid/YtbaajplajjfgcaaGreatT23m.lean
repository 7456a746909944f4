/- The answers of tag.Join and of deflate.Raw given by hand. -/
import Derived.Test.YtbaajplajjfgcaaGreatT23r
import Derived.Test.YtbaajplajjfgcaaGreatT05f
set_option linter.unusedVariables false
set_option linter.unusedSimpArgs false
set_option maxRecDepth 100000
namespace Go.AI
open Go Go.Proofs
open Classical in
noncomputable def primM : CallF := fun f ps bs =>
  if f = 29 ∧ bs = [] ∧ ∃ es, ps = [.l es] ∧ es.all tgB = true then
    (match ps with
    | [.l es] => some ([.s (joinT (es.map unTg)).1, .i (joinT (es.map unTg)).2], [])
    | _ => none)
  else if f = 34 ∧ bs = [] ∧ ∃ l, ps = [.s l] then
    (match ps with
    | [.s l] => some (rawF l, [])
    | _ => none)
  else none
theorem primM_plain (p : CallF) {f : FuncId} {ps : List PV} {bs : List BX} {res : Res} (h : primM f ps bs = some res) : bs = [] ∧ res.2 = [] ∧ PlainOk Tryz.prog (ann.by p) f ps res.1 := by
  unfold primM at h
  split at h
  · rename_i h1
    obtain ⟨rfl, rfl, es, rfl, hb⟩ := h1
    simp only [Option.some.injEq] at h
    subst h
    exact ⟨rfl, rfl, join_plain p hb⟩
  · split at h
    · rename_i h1
      obtain ⟨rfl, rfl, l, rfl⟩ := h1
      simp only [Option.some.injEq] at h
      subst h
      exact ⟨rfl, rfl, raw_plain p l⟩
    · cases h
noncomputable def annM : Ann := ann.by primM
noncomputable def cM : CallF := callW Tryz.prog annM
noncomputable def rM : FuncId → List TypeId → List Item → St → Option Res := runW Tryz.prog annM
theorem cM_fix (f : FuncId) (args : List PV) (bs : List BX) : cM f args bs = stepC Tryz.prog annM cM rM f args bs := callW_fix _ _ f args bs
theorem rM_fix (f : FuncId) (pts : List TypeId) (t : List Item) (st : St) : rM f pts t st = stepR Tryz.prog annM cM rM f pts t st := runW_fix _ _ f pts t st
theorem ans_m {f : FuncId} {ps : List PV} {bs : List BX} {r : Res} (h : cM f ps bs = some r) : Ans (fun k => callAt Tryz.prog annM k f ps bs) r := ans_of _ _ h
theorem primM_ok : CallOk Tryz.prog annM annM.prim := prim_plain noCountT (fun f ps bs res h => primM_plain primM h)
theorem noneJ (ps : List PV) (bs : List BX) : ∀ n, callAt Tryz.prog ann n 29 ps bs = none
  | 0 => rfl
  | n + 1 => by
    show (lvl Tryz.prog ann (n + 1)).1 29 ps bs = none
    rw [lvl]
    show (match Tryz.prog.funcs[29]? with
      | some fn => match fn.body, enter Tryz.prog ann 29 fn ps bs with
        | some c, some st => adv Tryz.prog ann 29 fn (bs.map (·.1)) (lvl Tryz.prog ann n).1 ((lvl Tryz.prog ann n).2 29 (bs.map (·.1))) 5000 true [.code c] st
        | none, _ => extR Tryz.prog ann 29 fn ps bs
        | _, _ => none
      | none => none) = none
    generalize (lvl Tryz.prog ann n).1 = C
    generalize (lvl Tryz.prog ann n).2 = R
    rw [Tryz.func29]
    simp only
    generalize enter Tryz.prog ann 29 Tryz.f29 ps bs = en
    generalize bs.map (·.1) = pts
    cases en with
    | none => kernel_rfl
    | some st => kernel_rfl
theorem noneR (ps : List PV) (bs : List BX) : ∀ n, callAt Tryz.prog ann n 34 ps bs = none
  | 0 => rfl
  | n + 1 => by
    show (lvl Tryz.prog ann (n + 1)).1 34 ps bs = none
    rw [lvl]
    show (match Tryz.prog.funcs[34]? with
      | some fn => match fn.body, enter Tryz.prog ann 34 fn ps bs with
        | some c, some st => adv Tryz.prog ann 34 fn (bs.map (·.1)) (lvl Tryz.prog ann n).1 ((lvl Tryz.prog ann n).2 34 (bs.map (·.1))) 5000 true [.code c] st
        | none, _ => extR Tryz.prog ann 34 fn ps bs
        | _, _ => none
      | none => none) = none
    generalize (lvl Tryz.prog ann n).1 = C
    generalize (lvl Tryz.prog ann n).2 = R
    rw [Tryz.func34]
    simp only
    generalize enter Tryz.prog ann 34 Tryz.f34 ps bs = en
    generalize bs.map (·.1) = pts
    cases en with
    | none => kernel_rfl
    | some st => kernel_rfl
theorem primM_none {f : FuncId} {ps : List PV} {bs : List BX} {r : Res} (h : primM f ps bs = some r) (n : Nat) : callAt Tryz.prog ann n f ps bs = none := by
  unfold primM at h
  split at h
  · rename_i h1
    obtain ⟨rfl, _⟩ := h1
    exact noneJ ps bs n
  · split at h
    · rename_i h1
      obtain ⟨rfl, _⟩ := h1
      exact noneR ps bs n
    · cases h
/-- what was answered without stands -/
theorem cM_of {f : FuncId} {ps : List PV} {bs : List BX} {r : Res} (h : cW f ps bs = some r) : cM f ps bs = some r := callW_by Tryz.prog (A := ann) (p := primM) rfl (fun f ps bs r h n => primM_none h n) h
theorem cM_prim {f : FuncId} {ps : List PV} {r : Res} (h : primM f ps [] = some r) : cM f ps [] = some r := by
  rw [cM_fix]
  unfold stepC
  rw [show annM.prim f ps [] = some r from h]
theorem Join_m {es : List (List PV)} (h : es.all tgB = true) : cM f_tag_Join [.l es] [] = some ([.s (joinT (es.map unTg)).1, .i (joinT (es.map unTg)).2], []) := cM_prim (by
  unfold primM
  rw [if_pos ⟨rfl, rfl, es, rfl, h⟩])
theorem Raw_m (l : List UInt8) : cM f_deflate_Raw [.s l] [] = some (rawF l, []) := cM_prim (by
  unfold primM
  rw [if_neg (fun h => absurd h.1 (by decide)), if_pos ⟨rfl, rfl, l, rfl⟩])
end Go.AI
