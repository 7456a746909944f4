/- The movie of the fixed answer is right. -/
import Derived.Test.YtlahaamidmbajaaGreatT22b
set_option linter.unusedVariables false
set_option linter.unusedSimpArgs false
set_option maxRecDepth 100000
namespace Go.AI
open Go Go.Proofs Go.RowKit
abbrev Tg := Int × List UInt8
def tgP (t : Tg) : List PV := [.i t.1, .s t.2]
def tgB : List PV → Bool
  | [.i _, .s s] => decide (s.length ≤ 4096)
  | _ => false
def unTg : List PV → Tg
  | [.i c, .s s] => (c, s)
  | _ => (0, [])
def lJ : List Tg := [(32, [3, 0, 0, 0, 0, 0, 0]), (26, [2, 1, 0, 3, 0]), (1, []), (28, [1, 0]), (1, [])]
def primJ : CallF := fun f ps bs => bif Nat.beq f 64 then (match ps, bs with
  | [.l es], [] => bif es.all tgB && decide (es.map unTg = lJ) then some ([.s (joinT lJ).1, .i (joinT lJ).2], []) else none
  | _, _ => none) else none
/-- a tag's cells, by its kind, its depth, its place's flags, depth and number, its shape's number -/
def tagE (kd dp fl pd pi sh : Int) : List PV := [.i kd, .i dp, .i 0, .i 0, .i 0, .i 0, .i fl, .i pd, .i pi] ++ List.replicate 16 (.i 0) ++ [.i sh, .i 0, .i 0, .i 0, .i 0, .l [], .l [], .l []] ++
  List.replicate 9 (.i 0) ++ [.l [], .l [], .l [], .l [], .l [], .l []] ++ [.i 0, .i 0, .i 0, .l []] ++ [.i 0, .i 0, .l []]
def tags5 : List (List PV) := [tagE 32 0 0 0 0 3, tagE 26 0 2 1 3 0, tagE 1 0 0 0 0 0, tagE 28 1 0 0 0 0, tagE 1 0 0 0 0 0]
def movE : List PV := [.b false, .i 0, .i 0, .i 0, .i 0, .i 0, .i 0, .i 0, .l tags5]
theorem right_s : callAt Tryz.prog (ann.by primJ) 60 17 movE [] = some ([.b true], []) := by kernel_rfl
theorem putJ : ∀ t, t ∈ lJ → callAt Tryz.prog ann 60 106 (tgP t) [] = some ([.s (putT t.1 t.2).1, .i (putT t.1 t.2).2], []) := by
  intro t ht
  simp only [lJ, List.mem_cons, List.not_mem_nil, or_false] at ht
  rcases ht with rfl | rfl | rfl | rfl | rfl
  · kernel_rfl
  · kernel_rfl
  · kernel_rfl
  · kernel_rfl
  · kernel_rfl
theorem put_calls (c : Int) (s : ByteArray) (h : (c, s.data.toList) ∈ lJ) (w : World) : Calls Tryz.prog 106 #[.agg #[.int .i64 c, .string s]] w fun e w' => e = .returned (.tuple #[.string ⟨(putT c s.data.toList).1.toArray⟩, .int .i64 (putT c s.data.toList).2]) ∧ Bel w.heap.size w w' := by
  have hn : callAt Tryz.prog ann 60 106 [.i c, .s s.data.toList] [] = some ([.s (putT c s.data.toList).1, .i (putT c s.data.toList).2], []) := putJ (c, s.data.toList) h
  refine (plain_calls (A := ann) (fn := Tryz.f106) (c := Tryz.f106.body.getD .skip) noCountT (noPrim rfl) hn Tryz.func106 (by kernel_rfl) (by kernel_rfl)
    (avs := [.agg [.int .i64 c, .str s.data.toList]]) (by kernel_rfl) (by kernel_rfl) (args := [.agg #[.int .i64 c, .string s]]) (w := w) rfl (fun i hi => ?_)).mono ?_
  · have hi : i = 0 := by simpa using hi
    subst hi
    refine VR.agg [.int .i64 c, .str s.data.toList] [.int .i64 c, .string s] rfl (fun i hi => ?_)
    match i, hi with
    | 0, _ => exact rfl
    | 1, _ => exact ⟨s, rfl, rfl⟩
  · rintro e w' ⟨v, rfl, hb, vs, rfl, hvs⟩
    refine ⟨?_, hb⟩
    obtain ⟨h1, h2⟩ := hvs [.v (.str (putT c s.data.toList).1), .v (.int .i64 (putT c s.data.toList).2)] [] 0 (by kernel_rfl)
    match vs, h1 with
    | [v1, v2], _ =>
      have e1 := (h2 0 (by simp)).leaf
      have e2 := (h2 1 (by simp)).leaf
      obtain ⟨x, rfl, hx⟩ : ∃ x : ByteArray, v1 = .string x ∧ x.data.toList = (putT c s.data.toList).1 := e1
      obtain rfl : v2 = .int .i64 (putT c s.data.toList).2 := e2
      have : x = ⟨(putT c s.data.toList).1.toArray⟩ := by
        apply ByteArray.ext
        rw [← hx]
      rw [this]
      rfl
theorem join_plain (p : CallF) {es : List (List PV)} (hb : es.all tgB = true) (he : es.map unTg = lJ) : PlainOk Tryz.prog (ann.by p) 64 [.l es] [.s (joinT lJ).1, .i (joinT lJ).2] := by
  refine ⟨Tryz.f64, Tryz.f64.body.getD .skip, [.v (.sl 200 es)], [.v (.str (joinT lJ).1), .v (.int .i64 (joinT lJ).2)], Tryz.func64, by kernel_rfl, by kernel_rfl, by kernel_rfl, by kernel_rfl, by kernel_rfl, by kernel_rfl, fun N w vs hN hl hv => ?_⟩
  match vs, hl with
  | [v], _ =>
    have hvv : RP Tryz.prog N w.heap (.sl 200) (.l es) v := (hv 0 (by simp)).leaf
    have hl23 : leaves Tryz.prog 200 = some [.int .i64, .str] := by kernel_rfl
    have key : ∃ (ad : Option Addr) (b o cap : Nat) (l : List (Int × ByteArray)), v = .slice ad l.length cap ∧ l.map (fun x => (x.1, x.2.data.toList)) = es.map unTg ∧ (ad = some ⟨b, o, none⟩ ∨ l = []) ∧
        (∀ i (h : i < l.length), w.cell? ⟨b, o + 2 * i, none⟩ = some (.int .i64 l[i].1) ∧ w.cell? ⟨b, o + 2 * i + 1, none⟩ = some (.string l[i].2)) ∧ (∀ x, x ∈ l → x.2.size ≤ 4096) := by
      cases hvv with
      | nil _ ad => exact ⟨ad, 0, 0, 0, [], rfl, rfl, .inr rfl, fun i h => absurd h (Nat.not_lt_zero _), fun x hx => by cases hx⟩
      | sl _ ts _ b o cap ws hc hlv hN h1 h2 h3 =>
        rw [hl23] at hlv
        cases hlv
        have hes : ∀ x, x ∈ es → ∃ c s, x = [.i c, .s s] ∧ s.length ≤ 4096 := fun x hx => by
          have := List.all_eq_true.1 hb x hx
          unfold tgB at this
          split at this
          · exact ⟨_, _, rfl, by simpa using this⟩
          · cases this
        refine ⟨some ⟨b, o, none⟩, b, o, cap, es.map (fun e => ((unTg e).1, ⟨(unTg e).2.toArray⟩)), by rw [List.length_map], ?_, .inl rfl, fun i hi => ?_, fun x hx => ?_⟩
        · rw [List.map_map]
          exact List.map_congr_left (fun e _ => rfl)
        · rw [List.length_map] at hi
          rw [List.getElem_map]
          have eg : es.getD i [] = es[i] := by simp [List.getD, hi]
          obtain ⟨c, s, he, _⟩ := hes es[i] (List.getElem_mem hi)
          have a0 := h2 (i * 2) (by simp; omega)
          have a1 := h2 (i * 2 + 1) (by simp; omega)
          have b0 := h3 i 0 hi (by simp)
          have b1 := h3 i 1 hi (by simp)
          rw [eg, he] at b0 b1
          rw [he]
          have c0 : ws (i * 2) = .int .i64 c := by
            have b0 : RP Tryz.prog N w.heap (.int .i64) (.i c) (ws (i * 2)) := b0
            generalize ws (i * 2) = u at b0
            cases b0 with
            | int k n => rfl
          have c1 : ws (i * 2 + 1) = .string ⟨s.toArray⟩ := by
            have b1 : RP Tryz.prog N w.heap .str (.s s) (ws (i * 2 + 1)) := b1
            generalize ws (i * 2 + 1) = u at b1
            cases b1 with
            | str x => rfl
          rw [cell_cellH, cell_cellH]
          show cellH w.heap b (o + 2 * i) = some (.int .i64 c) ∧ cellH w.heap b (o + 2 * i + 1) = some (.string ⟨s.toArray⟩)
          rw [Nat.mul_comm 2 i, Nat.add_assoc o, a0, a1, c0, c1]
          exact ⟨rfl, rfl⟩
        · obtain ⟨e, he, rfl⟩ := List.mem_map.1 hx
          obtain ⟨c, s, rfl, hs⟩ := hes e he
          exact hs
    obtain ⟨ad, b, o', cap, l, rfl, hL, hA, hC, hS⟩ := key
    have hcall := join_walk (fun c s => (c, s.data.toList) ∈ lJ) (fun c s w hm => put_calls c s hm w) ad b o' cap l w (fun x hx => by rw [← he, ← hL]; exact List.mem_map.2 ⟨x, hx, rfl⟩) hA hC hS
    rw [hL, he] at hcall
    refine hcall.mono ?_
    rintro e w' ⟨rfl, hb'⟩
    refine ⟨[_, _], rfl, hb', rfl, fun i hi => ?_⟩
    match i, hi with
    | 0, _ => exact .v _ _ ⟨⟨(joinT lJ).1.toArray⟩, rfl, rfl⟩
    | 1, _ => exact .v _ _ rfl
theorem primJ_plain (p : CallF) {f : FuncId} {ps : List PV} {bs : List BX} {res : Res} (h : primJ f ps bs = some res) : bs = [] ∧ res.2 = [] ∧ PlainOk Tryz.prog (ann.by p) f ps res.1 := by
  unfold primJ at h
  cases hf : Nat.beq f 64 with
  | false => rw [hf] at h; cases h
  | true =>
    have := Nat.eq_of_beq_eq_true hf
    subst this
    rw [hf, cond_true] at h
    split at h
    · rename_i es
      cases hb : (es.all tgB && decide (es.map unTg = lJ)) with
      | false => rw [hb] at h; cases h
      | true =>
        rw [hb] at h
        cases h
        rw [Bool.and_eq_true, decide_eq_true_eq] at hb
        exact ⟨rfl, rfl, join_plain p hb.1 hb.2⟩
    · cases h
theorem primJ_ok : CallOk Tryz.prog (ann.by primJ) (ann.by primJ).prim := prim_plain noCountT (fun f ps bs res h => primJ_plain primJ h)
/-- the movie is right -/
theorem right_calls {mL : List Value} {w : World} (hl : mL.length = 9) (hv : VR Tryz.prog (fun b => b < w.heap.size) w.heap (fun _ => none) (.agg [.bool false, .int .i64 0, .int .i64 0, .int .i64 0, .int .i64 0, .int .i64 0, .int .i64 0, .int .i64 0, .sl 80 tags5]) (.agg mL.toArray)) :
    Calls Tryz.prog 17 #[.agg mL.toArray] w fun e w' => e = .returned (.bool true) ∧ Bel w.heap.size w w' := by
  refine (plain_calls (A := ann.by primJ) (fn := Tryz.f17) (c := Tryz.f17.body.getD .skip) noCountT primJ_ok right_s Tryz.func17 (by kernel_rfl) (by kernel_rfl)
    (avs := [.agg [.bool false, .int .i64 0, .int .i64 0, .int .i64 0, .int .i64 0, .int .i64 0, .int .i64 0, .int .i64 0, .sl 80 tags5]]) (by kernel_rfl) (by kernel_rfl) (args := [.agg mL.toArray]) (w := w) rfl (fun i hi => ?_)).mono ?_
  · have hi : i = 0 := by simpa using hi
    subst hi
    exact hv
  · rintro e w' ⟨v, rfl, hb, vs, rfl, hvs⟩
    refine ⟨?_, hb⟩
    obtain ⟨h1, h2⟩ := hvs [.v (.bool true)] [] 0 (by kernel_rfl)
    match vs, h1 with
    | [v1], _ =>
      have e1 : v1 = .bool true := (h2 0 (by simp)).leaf
      rw [e1]
      rfl
end Go.AI
