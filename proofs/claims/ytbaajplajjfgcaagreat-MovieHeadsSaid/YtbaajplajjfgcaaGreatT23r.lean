/- tag.Join as an answer given by hand. -/
import Derived.Test.YtbaajplajjfgcaaGreatPJ
import Derived.Test.YtbaajplajjfgcaaGreatT22h
set_option linter.unusedVariables false
set_option linter.unusedSimpArgs false
set_option maxRecDepth 100000
namespace Go.AI
open Go Go.Proofs Go.RowKit
def tgB : List PV → Bool
  | [.i _, .s s] => decide (s.length ≤ 400000000)
  | _ => false
def unTg : List PV → Tg
  | [.i c, .s s] => (c, s)
  | _ => (0, [])
theorem put_calls (c : Int) (s : ByteArray) (h : s.data.toList.length ≤ 400000000) (w : World) : Calls Tryz.prog 64 #[.agg #[.int .i64 c, .string s]] w fun e w' => e = .returned (.tuple #[.string ⟨(putT c s.data.toList).1.toArray⟩, .int .i64 (putT c s.data.toList).2]) ∧ Bel w.heap.size w w' := by
  obtain ⟨n, hn⟩ := (callW_iff _ _).1 (tagPut_c (c := c) h)
  refine (plain_calls (A := ann) (fn := Tryz.f64) (c := Tryz.f64.body.getD .skip) noCountT (noPrim rfl) hn Tryz.func64 (by kernel_rfl) (by kernel_rfl)
    (avs := [.agg [.int .i64 c, .str s.data.toList]]) (by kernel_rfl) (by kernel_rfl) (args := [.agg #[.int .i64 c, .string s]]) (w := w) rfl (fun i hi => ?_)).mono ?_
  · have hi : i = 0 := by simpa using hi
    subst hi
    refine VR.agg [.int .i64 c, .str s.data.toList] [.int .i64 c, .string s] rfl (fun i hi => ?_)
    match i, hi with
    | 0, _ => exact rfl
    | 1, _ => exact ⟨s, rfl, rfl⟩
  · rintro e w' ⟨v, rfl, hb, vs, rfl, hvs⟩
    refine ⟨?_, hb⟩
    obtain ⟨h1, h2⟩ := hvs [.v (.str (putT c s.data.toList).1), .v (.int .i64 (putT c s.data.toList).2)] [] 0 (by kernel_rfl)
    match vs, h1 with
    | [v1, v2], _ =>
      have e1 := (h2 0 (by simp)).leaf
      have e2 := (h2 1 (by simp)).leaf
      obtain ⟨x, rfl, hx⟩ : ∃ x : ByteArray, v1 = .string x ∧ x.data.toList = (putT c s.data.toList).1 := e1
      obtain rfl : v2 = .int .i64 (putT c s.data.toList).2 := e2
      have : x = ⟨(putT c s.data.toList).1.toArray⟩ := by
        apply ByteArray.ext
        rw [← hx]
      rw [this]
      rfl
theorem join_plain (p : CallF) {es : List (List PV)} (hb : es.all tgB = true) : PlainOk Tryz.prog (ann.by p) 29 [.l es] [.s (joinT (es.map unTg)).1, .i (joinT (es.map unTg)).2] := by
  refine ⟨Tryz.f29, Tryz.f29.body.getD .skip, [.v (.sl 74 es)], [.v (.str (joinT (es.map unTg)).1), .v (.int .i64 (joinT (es.map unTg)).2)], Tryz.func29, by kernel_rfl, by kernel_rfl, by kernel_rfl, by kernel_rfl, by kernel_rfl, by kernel_rfl, fun N w vs hN hl hv => ?_⟩
  match vs, hl with
  | [v], _ =>
    have hvv : RP Tryz.prog N w.heap (.sl 74) (.l es) v := (hv 0 (by simp)).leaf
    have hl23 : leaves Tryz.prog 74 = some [.int .i64, .str] := by kernel_rfl
    have key : ∃ (ad : Option Addr) (b o cap : Nat) (l : List (Int × ByteArray)), v = .slice ad l.length cap ∧ l.map (fun x => (x.1, x.2.data.toList)) = es.map unTg ∧ (ad = some ⟨b, o, none⟩ ∨ l = []) ∧
        (∀ i (h : i < l.length), w.cell? ⟨b, o + 2 * i, none⟩ = some (.int .i64 l[i].1) ∧ w.cell? ⟨b, o + 2 * i + 1, none⟩ = some (.string l[i].2)) ∧ (∀ x, x ∈ l → x.2.size ≤ 400000000) := by
      cases hvv with
      | nil _ ad => exact ⟨ad, 0, 0, 0, [], rfl, rfl, .inr rfl, fun i h => absurd h (Nat.not_lt_zero _), fun x hx => by cases hx⟩
      | sl _ ts _ b o cap ws hc hlv hN h1 h2 h3 =>
        rw [hl23] at hlv
        cases hlv
        have hes : ∀ x, x ∈ es → ∃ c s, x = [.i c, .s s] ∧ s.length ≤ 400000000 := fun x hx => by
          have := List.all_eq_true.1 hb x hx
          unfold tgB at this
          split at this
          · exact ⟨_, _, rfl, by simpa using this⟩
          · cases this
        refine ⟨some ⟨b, o, none⟩, b, o, cap, es.map (fun e => ((unTg e).1, ⟨(unTg e).2.toArray⟩)), by rw [List.length_map], ?_, .inl rfl, fun i hi => ?_, fun x hx => ?_⟩
        · rw [List.map_map]
          exact List.map_congr_left (fun e _ => rfl)
        · rw [List.length_map] at hi
          rw [List.getElem_map]
          have eg : es.getD i [] = es[i] := by simp [List.getD, hi]
          obtain ⟨c, s, he, _⟩ := hes es[i] (List.getElem_mem hi)
          have a0 := h2 (i * 2) (by simp; omega)
          have a1 := h2 (i * 2 + 1) (by simp; omega)
          have b0 := h3 i 0 hi (by simp)
          have b1 := h3 i 1 hi (by simp)
          rw [eg, he] at b0 b1
          rw [he]
          have c0 : ws (i * 2) = .int .i64 c := by
            have b0 : RP Tryz.prog N w.heap (.int .i64) (.i c) (ws (i * 2)) := b0
            generalize ws (i * 2) = u at b0
            cases b0 with
            | int k n => rfl
          have c1 : ws (i * 2 + 1) = .string ⟨s.toArray⟩ := by
            have b1 : RP Tryz.prog N w.heap .str (.s s) (ws (i * 2 + 1)) := b1
            generalize ws (i * 2 + 1) = u at b1
            cases b1 with
            | str x => rfl
          rw [cell_cellH, cell_cellH]
          show cellH w.heap b (o + 2 * i) = some (.int .i64 c) ∧ cellH w.heap b (o + 2 * i + 1) = some (.string ⟨s.toArray⟩)
          rw [Nat.mul_comm 2 i, Nat.add_assoc o, a0, a1, c0, c1]
          exact ⟨rfl, rfl⟩
        · obtain ⟨e, he, rfl⟩ := List.mem_map.1 hx
          obtain ⟨c, s, rfl, hs⟩ := hes e he
          exact hs
    obtain ⟨ad, b, o', cap, l, rfl, hL, hA, hC, hS⟩ := key
    have hcall := join_walk (fun c s => s.data.toList.length ≤ 400000000) (fun c s w hm => put_calls c s hm w) ad b o' cap l w (fun x hx => by have := hS x hx; rw [Array.length_toList]; exact this) hA hC hS
    rw [hL] at hcall
    refine hcall.mono ?_
    rintro e w' ⟨rfl, hb'⟩
    refine ⟨[_, _], rfl, hb', rfl, fun i hi => ?_⟩
    match i, hi with
    | 0, _ => exact .v _ _ ⟨⟨(joinT (es.map unTg)).1.toArray⟩, rfl, rfl⟩
    | 1, _ => exact .v _ _ rfl
end Go.AI
