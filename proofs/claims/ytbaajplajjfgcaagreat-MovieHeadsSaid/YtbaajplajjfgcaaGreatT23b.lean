/- tag.Join walked, for tags of any length that a movie may have. -/
import Derived.Test.YtbaajplajjfgcaaGreatT22a
import Derived.Test.YtbaajplajjfgcaaGreatT22h
import Derived.Test.YtbaajplajjfgcaaGreatAiL
set_option linter.unusedVariables false
set_option linter.unusedSimpArgs false
namespace Go.AI
open Go Go.RowKit Go.Proofs

theorem Bel.of {B : Nat} {w w' : World} (h : Below B w w') : Bel B w w' := ⟨⟨h.os, h.output⟩, h.size, h.block⟩
theorem isBuilder_bel {w w' : World} {T e : TypeId} {B b : Nat} {bs : List Value} (h : Lib.IsBuilder T e B b bs w) (hk : Bel w.heap.size w w') : Lib.IsBuilder T e B b bs w' := by
  have key : ∀ p, Lib.BuilderAt T e B b p bs w → Lib.BuilderAt T e B b p bs w' := fun p h => by
    obtain ⟨h1, v, h2, h3, h4⟩ := h
    refine ⟨h1, v, ?_, ownsRow_bel h3 hk, h4⟩
    rw [hk.block b (Array.getElem?_eq_some_iff.1 h2).1]
    exact h2
  rcases h with h | h
  · exact .inl (key _ h)
  · exact .inr (key _ h)

/-- a tag's bytes -/
def b8 (n : Int) : UInt8 := UInt8.ofNat n.toNat
def le2 (n : Nat) : List UInt8 := [UInt8.ofNat (n % 256), UInt8.ofNat (n / 256 % 256)]
def le4 (n : Nat) : List UInt8 := [UInt8.ofNat (n % 256), UInt8.ofNat (n / 256 % 256), UInt8.ofNat (n / 65536 % 256), UInt8.ofNat (n / 16777216 % 256)]
def putT (c : Int) (s : List UInt8) : List UInt8 × Int :=
  if c < 0 ∨ c ≥ 1024 then ([], 1) else (le2 (c.toNat * 64 + min s.length 63) ++ (if 63 ≤ s.length then le4 s.length else []) ++ s, 0)
/-- tags, one behind the other -/
def goJ : List (Int × List UInt8) → List UInt8 → List UInt8 × Int
  | [], acc => (acc ++ [0, 0], 0)
  | (c, s) :: l, acc => if (putT c s).2 ≠ 0 ∨ c = 0 then ([], 1) else goJ l (acc ++ (putT c s).1)
def joinT (l : List (Int × List UInt8)) : List UInt8 × Int := if 256 < l.length then ([], 1) else goJ l []

theorem putT_length {c : Int} {s : List UInt8} (h : s.length ≤ 400000000) : (putT c s).1.length ≤ 400000100 := by
  unfold putT
  split
  · simp
  · split <;> simp [le2, le4] <;> omega
set_option maxHeartbeats 4000000 in
set_option maxRecDepth 1000000 in
theorem join_walk (Pm : Int → ByteArray → Prop) (hput : ∀ (c : Int) (s : ByteArray) (w : World), Pm c s → Calls Tryz.prog 64 #[.agg #[.int .i64 c, .string s]] w fun e w' => e = .returned (.tuple #[.string ⟨(putT c s.data.toList).1.toArray⟩, .int .i64 (putT c s.data.toList).2]) ∧ Bel w.heap.size w w')
    (a : Option Addr) (b o cap : Nat) (l : List (Int × ByteArray)) (w : World) (hm : ∀ x, x ∈ l → Pm x.1 x.2) (ha : a = some ⟨b, o, none⟩ ∨ l = []) (hl : ∀ i (h : i < l.length), w.cell? ⟨b, o + 2 * i, none⟩ = some (.int .i64 l[i].1) ∧ w.cell? ⟨b, o + 2 * i + 1, none⟩ = some (.string l[i].2)) (hs : ∀ x, x ∈ l → x.2.size ≤ 400000000) :
    Calls Tryz.prog 29 #[.slice a l.length cap] w fun e w' => e = .returned (.tuple #[.string ⟨(joinT (l.map fun x => (x.1, x.2.data.toList))).1.toArray⟩, .int .i64 (joinT (l.map fun x => (x.1, x.2.data.toList))).2]) ∧ Bel w.heap.size w w' := by
  have hB : l ≠ [] → b < w.heap.size := fun hn => by
    have := World.block_lt_of_cell? w _ (hl 0 (List.length_pos_iff.2 hn)).1
    exact this
  generalize hJ : joinT (l.map fun x => (x.1, x.2.data.toList)) = J
  have hJ := hJ
  unfold joinT at hJ
  rw [List.length_map] at hJ
  go_enter Tryz.func29, Tryz.ntmps29
  go_wp2
  · go_ret2
    rename_i h256
    rw [if_pos (by omega)] at hJ
    subst hJ
    exact ⟨rfl, Bel.refl _ _⟩
  · rename_i h256 _ _
    rw [if_neg (by omega)] at hJ
    have HJ : Hid (goJ (l.map fun x => (x.1, x.2.data.toList)) [] = J) := hJ
    clear hJ
    go_loopw [14] (fun i wr => ∃ (k : Nat) (acc : List UInt8), i = .int .i64 k ∧ k ≤ l.length ∧ Lib.IsBuilder 157 5 w.heap.size w.heap.size (Lib.byteCells acc) wr ∧ Bel w.heap.size w wr ∧ Hid (goJ ((l.drop k).map fun x => (x.1, x.2.data.toList)) acc = J) ∧ acc.length ≤ 400001000 * k) (fun i wr => l.length - (Go.RowKit.intOf i).toNat)
    case atStart =>
      refine ⟨0, [], rfl, Nat.zero_le _, Lib.fresh_isBuilder 157 5 w, Bel.of ((Below.refl _ w).alloc (Nat.le_refl _) _), HJ, Nat.zero_le _⟩
    case round =>
      obtain ⟨k, acc, rfl, hk, hI, hbw, hacc, hal⟩ := hrel
      by_cases hp : k < l.length
      · have hsk : l[k].2.size ≤ 400000000 := hs _ (List.getElem_mem hp)
        have hmk : Hid (Pm l[k].1 l[k].2) := hm _ (List.getElem_mem hp)
        have hne : l ≠ [] := fun e => by rw [e] at hp; exact absurd hp (Nat.not_lt_zero _)
        obtain rfl : a = some ⟨b, o, none⟩ := ha.resolve_right hne
        clear ha
        have hblk := hB hne
        have hcell : wr.cell? ⟨b, o + k * 2, none⟩ = some (.int .i64 l[k].1) := by
          rw [World.cell?_of_block (w := w) (hbw.block b hblk), Nat.mul_comm]; exact (hl k hp).1
        have hcell2 : wr.cell? ⟨b, o + k * 2 + 1, none⟩ = some (.string l[k].2) := by
          rw [World.cell?_of_block (w := w) (hbw.block b hblk), Nat.mul_comm]; exact (hl k hp).2
        go_wp2_with (go_at_call 64; refine (hput l[k].1 l[k].2 _ hmk.out).mono ?_)
        rintro e W1 ⟨rfl, bq⟩
        have hb2 : Bel wr.heap.size wr W1 := (Bel.of ((Below.refl _ wr).alloc (Nat.le_refl _) _)).trans (bq.mono (by simp))
        have hW : W1.heap[wr.heap.size]? = some (.cells #[.int .i64 l[k].1, .string l[k].2] 74 (0, 0)) := by
          rw [bq.block _ (by simp)]
          exact heap_alloc_new wr _
        have d0 : W1.cell? ⟨wr.heap.size, 0, none⟩ = some (.int .i64 l[k].1) := by rw [Lib.cell_of_heap hW]; rfl
        have hI2 := isBuilder_bel hI hb2
        have hbb : Bel w.heap.size w W1 := hbw.trans (hb2.mono hbw.size)
        have hacc := hacc.out
        have hdrop : l.drop k = l[k] :: l.drop (k + 1) := List.drop_eq_getElem_cons hp
        rw [hdrop, List.map_cons, goJ] at hacc
        clear hW bq hcell hcell2 hdrop
        have hlen := putT_length (c := l[k].1) (s := l[k].2.data.toList) (by simpa using hsk)
        by_cases he : (putT l[k].1 l[k].2.data.toList).2 = 0
        · by_cases h0 : l[k].1 = 0
          · rw [if_pos (.inr h0)] at hacc
            subst hacc
            go_wp2
            go_ret2
            exact ⟨rfl, hbb⟩
          · rw [if_neg (by rintro (h | h); exact h he; exact h0 h)] at hacc
            have HA : Hid (goJ ((l.drop (k + 1)).map fun x => (x.1, x.2.data.toList)) (acc ++ (putT l[k].1 l[k].2.data.toList).1) = J) := hacc
            clear hacc
            go_wp2_with (go_at_call 65; refine (Tryz.WriteString w.heap.size w.heap.size _ _ _ hI2 ?w1 ?w2).mono ?_)
            case w1 =>
              rw [Lib.byteCells_length]
              show acc.length + (putT l[k].1 l[k].2.data.toList).1.toArray.size ≤ _
              rw [List.size_toArray]
              omega
            case w2 => exact hbb.size
            rintro e W2 ⟨rfl, h2, b2⟩
            go_wp2
            go_roundw
            case rel =>
              refine ⟨k + 1, acc ++ (putT l[k].1 l[k].2.data.toList).1, ?_, hp, ?_, hbb.trans (Bel.of b2), HA, ?_⟩
              · congr 1
              · rw [Lib.byteCells_append]; exact Or.inr h2
              · rw [List.length_append]; omega
            case measure =>
              simp [Go.RowKit.intOf]
              omega
        · rw [if_pos (.inl he)] at hacc
          subst hacc
          have he' : ((putT l[k].1 l[k].2.data.toList).2 == 0) = false := by simpa using he
          clear hlen
          go_wp2
          go_ret2
          exact ⟨rfl, hbb⟩
      · have hkl : k = l.length := by omega
        subst hkl
        have hacc := hacc.out
        rw [List.drop_length, List.map_nil, goJ] at hacc
        subst hacc
        go_wp2_with (go_at_call 66; refine (Tryz.Builder_String_any w.heap.size w.heap.size acc _ hI hbw.size).mono ?_)
        rintro e W1 ⟨rfl, b1⟩
        go_wp2
        go_ret2
        have e1 : (⟨acc.toArray⟩ ++ ⟨#[0, 0]⟩ : ByteArray) = ⟨(acc ++ [0, 0]).toArray⟩ := by
          apply ByteArray.ext
          rw [ByteArray.data_append]
          simp
        refine ⟨by simp [e1], hbw.trans (Bel.of b1)⟩
end Go.AI
