/- m[k] = append(m[k], x) on a map of slices: the entry that is made first, and what is laid into it. -/
import Derived.Test.YtbaajplajjfgcaaGreatAiL
import Derived.Maps.GroupsBeside
import Derived.WideKeyEntry
set_option linter.unusedVariables false
set_option linter.unusedSimpArgs false
namespace Go.AI
open Go Go.Maps Go.WideElems Go.MapKept Go.RowKit Go.ChangeShapes Go.WideShapes
open Go.ChangeMaps (setBlock heap_setBlock_same heap_setBlock_other modify_eq_set)

section
variable {H : Type} {P : Program} {t k E e : TypeId} {q : IntKind} {b n base : Nat}
/-- the entry and the store are one update, whatever else lies in memory -/
theorem entry_uniform (K : Keyed P k) (ht : P.underlying t = some (.map k E)) {z : Value} (hz : ∀ u : World, (zeroValue E).run P u = .ok z u) {es : Array MapEntry} {clock : Nat} {R : Value → Option (DataW H × List MemPlace)} (F : Fit P k R es clock)
    {key : Value} {kl : Lit} (hkey : keyOf P k key = some kl) :
    ∃ (v0 : Value) (st : Nat) (es1 : Array MapEntry) (clock1 clock2 : Nat) (es2 : Value → Array MapEntry),
      (∀ u : World, u.heap[b]? = some (.map es clock) → (Instr.mapEntry t (.map (some b)) key).run P u = .ok (.tuple #[v0, goInt st]) (setBlock u b (.map es1 clock1)) ∧
        (Instr.lookup t (.map (some b)) key false).run P u = .ok v0 u ∧ ∀ val, (Instr.mapUpdate t (.map (some b)) key val).run P u = .ok () (setBlock u b (.map (es2 val) clock2))) ∧
      ∀ (u : World) (val : Value), u.heap[b]? = some (.map es1 clock1) → (Instr.entryStore t (.map (some b)) (goInt st) val).run P u = .ok () (setBlock u b (.map (es2 val) clock2)) := by
  obtain ⟨s1, s2, s3⟩ := F.stamped
  rcases K.find (default : World) hkey es.toList F.keys with ⟨_, h2⟩ | ⟨j, e0, _, h2, h3⟩
  · have hf : ∀ u : World, (Instr.findKey k key es.toList).run P u = .ok none u := fun u => by
      rcases K.find u hkey es.toList F.keys with ⟨h, _⟩ | ⟨j, e0, _, g2, g3⟩
      · exact h
      · exact absurd g3 (h2 e0 (List.mem_of_getElem? g2))
    refine ⟨z, clock, es.push ⟨key, z, clock⟩, clock + 1, clock + 1, fun val => es.push ⟨key, val, clock⟩, fun u hb => ⟨?_, ?_, fun val => ?_⟩, fun u val hw2 => ?_⟩
    · simp [Instr.mapEntry, run_underlying ht, MapKept.run_getObj_map hb, K.check u false hkey, hf, hz, MapKept.run_setObj_map _ hb, Result.andThen, setBlock]
    · simp [Instr.lookup, run_underlying ht, MapKept.run_getObj_map hb, K.check u es.isEmpty hkey, hf, hz, Result.andThen]
    · simp [Instr.mapUpdate, run_underlying ht, MapKept.run_getObj_map hb, K.check u false hkey, hf, MapKept.run_setObj_map _ hb, Result.andThen, setBlock]
    · have hidx : (es.push ⟨key, z, clock⟩).findIdx? (fun e => ((e.born : Nat) : Int) == ((clock : Nat) : Int)) = some es.size := by
        rw [findIdx_arr]
        exact findIdx_born (l := (es.push ⟨key, z, clock⟩).toList) (j := es.size) (e0 := ⟨key, z, clock⟩) (by
          simp only [Array.toList_push, List.map_append, List.map_cons, List.map_nil]
          refine List.nodup_append.2 ⟨s2, by simp, fun a ha c hc e1 => ?_⟩
          simp only [List.mem_singleton] at hc
          obtain ⟨x, hx, rfl⟩ := List.mem_map.1 ha
          have := s1 x hx
          omega) (by simp)
      have hmod : (es.push ⟨key, z, clock⟩).modify es.size (fun e => { e with val := val }) = es.push ⟨key, val, clock⟩ := by
        apply Array.ext'
        rw [Array.toList_modify, Array.toList_push, Array.toList_push, ← Array.length_toList, modify_last]
      simp [Instr.entryStore, MapKept.run_getObj_map hw2, asInt, asIntOf, goInt, hidx, hmod, MapKept.run_setObj_map _ hw2, Result.andThen, setBlock]
  · have hj : es[j]? = some e0 := by simpa using h2
    have hf : ∀ u : World, (Instr.findKey k key es.toList).run P u = .ok (some (j, e0.val)) u := fun u => by
      rcases K.find u hkey es.toList F.keys with ⟨_, h⟩ | ⟨j', e', g1, g2, g3⟩
      · exact absurd h3 (h e0 (List.mem_of_getElem? h2))
      · have e2 : j' = j := by
          refine (List.getElem?_inj (i := j') (j := j) (l := es.toList.map (·.key)) ?_ s3).1 ?_
          · rw [List.length_map]; exact (List.getElem?_eq_some_iff.1 g2).1
          · rw [List.getElem?_map, List.getElem?_map, g2, h2]
            exact congrArg some (g3.trans h3.symm)
        have e1 : e' = e0 := by rw [e2, h2] at g2; exact (Option.some.inj g2).symm
        rw [g1, e2, e1]
    have hsame : es.modify j (fun e => { e with key := key }) = es := by
      apply Array.ext'
      rw [Array.toList_modify, modify_eq_set _ _ _ _ h2]
      have : ({ e0 with key := key } : MapEntry) = e0 := by rw [← h3]
      rw [this]
      exact WideElems.set_self _ _ _ h2
    refine ⟨e0.val, e0.born, es, clock, clock, fun val => es.modify j (fun e' => { e' with key := key, val := val }), fun u hb => ⟨?_, ?_, fun val => ?_⟩, fun u val hw2 => ?_⟩
    · simp [Instr.mapEntry, run_underlying ht, MapKept.run_getObj_map hb, K.check u false hkey, hf, hj, h3, K.stays u hkey, hsame, MapKept.run_setObj_map _ hb, Result.andThen, setBlock]
    · simp [Instr.lookup, run_underlying ht, MapKept.run_getObj_map hb, K.check u es.isEmpty hkey, hf, hz, Result.andThen]
    · simp [Instr.mapUpdate, run_underlying ht, MapKept.run_getObj_map hb, K.check u false hkey, hf, hj, h3, K.stays u hkey, MapKept.run_setObj_map _ hb, Result.andThen, setBlock]
    · have hidx : es.findIdx? (fun e => ((e.born : Nat) : Int) == ((e0.born : Nat) : Int)) = some j := by
        rw [findIdx_arr]
        exact findIdx_born s2 h2
      have hmod : es.modify j (fun e => { e with val := val }) = es.modify j (fun e' => { e' with key := key, val := val }) := by
        apply Array.ext'
        rw [Array.toList_modify, Array.toList_modify, modify_eq_set _ _ _ _ h2, modify_eq_set _ _ _ _ h2, ← h3]
      simp [Instr.entryStore, MapKept.run_getObj_map hw2, asInt, asIntOf, goInt, hidx, hmod, MapKept.run_setObj_map _ hw2, Result.andThen, setBlock]
/-- what the entry hands over, and the way back -/
theorem groups_entry (K : Keyed P k) (ht : P.underlying t = some (.map k E)) (hz : ∀ u : World, (zeroValue E).run P u = .ok (.slice none 0 0) u) {w : World} {D : DataW H} (h : w.ownsGroups P k base e q b n D) (hn : n < maxLen) {No : Nat → Prop} (hNo : w.Shuns b No)
    {key : Value} {kl : Lit} (hkey : keyOf P k key = some kl) :
    ∃ (v : Value) (zs : List Int) (st : Nat) (w1 : World), (Instr.mapEntry t (.map (some b)) key).run P w = .ok (.tuple #[v, goInt st]) w1 ∧ w.grownBy w1 (some b) ∧ w1.heap.size = w.heap.size ∧ D.atKey kl .nil = rowDatum q v zs ∧ w.ownsInts base e q v zs ∧ zs.length ≤ n ∧ (∀ g, v.ownBlock = some g → ¬ No g) ∧
      ∀ (w2 : World) (v' : Value) (zs' : List Int), w1.grownBy w2 v.ownBlock → w2.ownsInts base e q v' zs' → zs'.length ≤ n + 1 → (v'.ownBlock = v.ownBlock ∨ ∃ g, v'.ownBlock = some g ∧ w.heap.size ≤ g) → (∀ g, v'.ownBlock = some g → ¬ No g) →
        ∃ w3, (Instr.entryStore t (.map (some b)) (goInt st) v').run P w2 = .ok () w3 ∧ w3.ownsGroups P k base e q b (n + 1) (D.put kl (rowDatum q v' zs')) ∧ w2.grownBy w3 (some b) ∧ w3.Shuns b No := by
  have h0 := h
  obtain ⟨es, clock, hb, F, hs, _, hbb, _, _⟩ := h
  have hblt : b < w.heap.size := (Array.getElem?_eq_some_iff.1 hb).1
  obtain ⟨v0, st, es1, clock1, clock2, es2, hU, hS⟩ := entry_uniform (b := b) K ht hz F hkey
  obtain ⟨v, zs, hlook, hat, hoi, hzl, hback⟩ := h0.at K ht (hz w) hn hkey
  have hsh : ∀ g, v.ownBlock = some g → ¬ No g := by
    rcases Maps.fit_look false K ht (hz w) hb F hkey with ⟨hrun', _, _⟩ | ⟨e0, y, hm0, _, hrun', _, _, _⟩
    · rw [hlook] at hrun'
      obtain rfl : v = .slice none 0 0 := by simpa using hrun'
      intro g hg'
      cases hg'
    · rw [hlook] at hrun'
      obtain rfl : v = e0.val := by simpa using hrun'
      exact fun g hg' => hNo es clock hb e0 hm0 g hg'
  have e0 : v0 = v := by
    have := (hU w hb).2.1.symm.trans hlook
    simpa using this
  subst e0
  have hsz : (setBlock w b (.map es1 clock1)).heap.size = w.heap.size := by simp [setBlock]
  have hb1 : (setBlock w b (.map es1 clock1)).heap[b]? = some (.map es1 clock1) := heap_setBlock_same hb _
  refine ⟨v0, zs, st, setBlock w b (.map es1 clock1), (hU w hb).1, ⟨rfl, rfl, rfl, by rw [hsz]; exact Nat.le_refl _, fun i _ hi => heap_setBlock_other hb _ (fun e1 => hi (by rw [e1]))⟩, hsz, hat, hoi, hzl, hsh, fun w2 v' zs' hg hown' hl' hloc hno => ?_⟩
  have hvb : ∀ {u : World} {x : Value} {ys : List Int}, u.ownsInts base e q x ys → x.ownBlock ≠ some b := fun ho e1 => by
    have := (ho.1.lt b e1).1
    omega
  have hb2 : w2.heap[b]? = some (.map es1 clock1) := (hg.block b (by rw [hsz]; exact hblt) (fun e1 => hvb hoi e1.symm)).trans hb1
  -- the world with the old map
  have hblt2 : b < w2.heap.size := (Array.getElem?_eq_some_iff.1 hb2).1
  have hbR : (setBlock w2 b (.map es clock)).heap[b]? = some (.map es clock) := heap_setBlock_same hb2 _
  have gR : w.grownBy (setBlock w2 b (.map es clock)) v0.ownBlock := ⟨hg.os, hg.tape, hg.output, by
    have := hg.size
    rw [hsz] at this
    simpa [setBlock] using this, fun i hi hne => by
    by_cases e1 : i = b
    · rw [e1, hbR, hb]
    · rw [heap_setBlock_other hb2 _ e1, hg.block i (by rw [hsz]; exact hi) hne, heap_setBlock_other hb _ e1]⟩
  have g2R : w2.grownBy (setBlock w2 b (.map es clock)) (some b) := ⟨rfl, rfl, rfl, by simp [setBlock], fun i _ hi => heap_setBlock_other hb2 _ (fun e1 => hi (by rw [e1]))⟩
  have oR : (setBlock w2 b (.map es clock)).ownsInts base e q v' zs' := hown'.kept g2R (by
    cases hv : v'.ownBlock with
    | none => exact .inl rfl
    | some g => exact .inr (fun e1 => hvb hown' (hv.trans e1)))
  obtain ⟨w3, hrun, r1, r2⟩ := hback _ v' zs' gR oR hl' hloc
  have hrun2 := (hU _ hbR).2.2 v'
  have ew : w3 = setBlock (setBlock w2 b (.map es clock)) b (.map (es2 v') clock2) := by
    have := hrun.symm.trans hrun2
    simpa using this
  have ew2 : setBlock (setBlock w2 b (.map es clock)) b (.map (es2 v') clock2) = setBlock w2 b (.map (es2 v') clock2) := by
    unfold setBlock
    simp
  have hS2 := hS w2 v' hb2
  have r3 : w3.Shuns b No := by
    obtain ⟨es', clock', hb3, hwho⟩ := stored_who K ht hbR F (Nat.lt_of_le_of_lt hs hn) hkey hrun
    intro esx clockx hbx y hy g hyg
    obtain ⟨rfl, rfl⟩ : es' = esx ∧ clock' = clockx := by rw [hb3] at hbx; simpa using hbx
    rcases hwho y hy with ⟨hy0, _⟩ | ⟨_, hval⟩
    · exact hNo es clock hb y hy0 g hyg
    · exact hno g (hval ▸ hyg)
  rw [ew, ew2] at r1 r3
  exact ⟨_, hS2, r1, ⟨rfl, rfl, rfl, by simp [setBlock], fun i _ hi => heap_setBlock_other hb2 _ (fun e1 => hi (by rw [e1]))⟩, r3⟩
end
end Go.AI
