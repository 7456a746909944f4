/- The packer's writer: there are answers, and how much more is written. -/
import Derived.Test.YtbaajplajjfgcaaGreatU05
import Derived.Test.YtbaajplajjfgcaaGreatAiM
import Derived.Test.YtbaajplajjfgcaaGreatW
set_option linter.unusedVariables false
set_option linter.unusedSimpArgs false
set_option maxRecDepth 100000
namespace Go.AI
open Go Go.Proofs

def W5 (es : List (List PV)) (fr : Int) : List BX := [(t_deflate_writer, [.l es, .i fr])]
def Wk (es : List (List PV)) (fr : Int) : Prop := (0 ≤ fr ∧ fr ≤ 8) ∧ (fr ≠ 0 → es ≠ [])
/-- so many bytes at most -/
def Grown (o : Option Res) (n : Nat) : Prop := ∃ es fr, o = some ([], W5 es fr) ∧ (Wk es fr ∧ es.length ≤ n)
theorem Grown.mono {o : Option Res} {m n : Nat} (h : Grown o m) (hm : m ≤ n) : Grown o n := by
  obtain ⟨es, fr, h1, h2, h3⟩ := h
  exact ⟨es, fr, h1, h2, Nat.le_trans h3 hm⟩
theorem inB_k {i : Int} {n : Nat} (h0 : 0 ≤ i) (h1 : i < n) : inB i n = true := by
  unfold inB
  simp only [Bool.and_eq_true, decide_eq_true_eq]
  exact ⟨h0, h1⟩
theorem bits5_loop (v n : Int) : ∀ (r : Nat) (i : Int) (es : List (List PV)) (fr : Int), 0 ≤ i → i + r = n → n ≤ 1000 → Wk es fr → es.length + r ≤ 1099511627776 →
    Grown (rW f___celluloid_deflate_writer__bits [t_deflate_writer] at___celluloid_deflate_writer__bits_L0 (S___celluloid_deflate_writer__bits_L0 v n i es fr)) (es.length + r)
  | 0, i, es, fr, h0, hi, hn, hw, hl => by
    rw [w___celluloid_deflate_writer__bits_L0, decide_eq_false (by omega), cond_false]
    exact ⟨es, fr, rfl, hw, Nat.le_refl _⟩
  | r + 1, i, es, fr, h0, hi, hn, hw, hl => by
    have ei : IntKind.wrap .i64 (i + 1) = i + 1 := wrap64 (by omega) (by omega)
    obtain ⟨⟨f0, f8⟩, hne⟩ := hw
    rw [w___celluloid_deflate_writer__bits_L0, decide_eq_true (by omega), cond_true, ei]
    by_cases hf : fr = 0
    · have e1 : IntKind.wrap .i64 (((es.length + 1 : Nat) : Int) - 1) = (es.length : Int) := by rw [wrap64 (by omega) (by omega)]; omega
      have hlen : (es ++ [[PV.i 0]]).length = es.length + 1 := by simp
      rw [show (fr == 0) = true by rw [beq_iff_eq]; exact hf, cond_true, decide_eq_true (show (es.length + 1) * 1 ≤ 140737488355328 by omega), decide_eq_true (show es.length + 1 ≤ 4611686018427387904 by omega)]
      rw [hlen, e1, inB_k (by omega) (by omega), decide_eq_true h0]
      simp only [Bool.and_self, cond_true]
      refine (bits5_loop v n r (i + 1) _ 7 (by omega) (by omega) hn ⟨by omega, fun _ h => ?_⟩ ?_).mono ?_
      · have := congrArg List.length h
        rw [List.length_set, hlen] at this
        cases this
      · rw [List.length_set, hlen]; omega
      · rw [List.length_set, hlen]; omega
    · have hpos : 0 < es.length := List.length_pos_iff.2 (hne hf)
      have e1 : IntKind.wrap .i64 (((es.length : Nat) : Int) - 1) = ((es.length - 1 : Nat) : Int) := by rw [wrap64 (by omega) (by omega)]; omega
      have e2 : IntKind.wrap .i64 (8 - fr) = 8 - fr := wrap64 (by omega) (by omega)
      have e3 : IntKind.wrap .i64 (fr - 1) = fr - 1 := wrap64 (by omega) (by omega)
      rw [show (fr == 0) = false by rw [beq_eq_false_iff_ne]; exact hf, cond_false, e1, e2, e3, inB_k (by omega) (by omega), decide_eq_true h0, decide_eq_true (by omega)]
      simp only [cond_true]
      refine (bits5_loop v n r (i + 1) _ (fr - 1) (by omega) (by omega) hn ⟨by omega, fun _ h => ?_⟩ ?_).mono ?_
      · have := congrArg List.length h
        rw [List.length_set] at this
        simp only [List.length_nil] at this
        omega
      · rw [List.length_set]; omega
      · rw [List.length_set]; omega
theorem bits5_c (v : Int) {n : Int} (h1 : 0 ≤ n) (h2 : n ≤ 1000) {es : List (List PV)} {fr : Int} (hw : Wk es fr) (hl : es.length + n.toNat ≤ 1099511627776) : Grown (cW f___celluloid_deflate_writer__bits [.u, .i v, .i n] (W5 es fr)) (es.length + n.toNat) := by
  unfold W5
  rw [w___celluloid_deflate_writer__bits]
  exact bits5_loop v n n.toNat 0 es fr (by omega) (by omega) h2 hw hl
theorem code5_loop (v : Int) : ∀ (r : Nat) (i : Int) (es : List (List PV)) (fr : Int), i + 1 = r → r ≤ 1000 → Wk es fr → es.length + r ≤ 1099511627776 →
    Grown (rW f___celluloid_deflate_writer__code [t_deflate_writer] at___celluloid_deflate_writer__code_L0 (S___celluloid_deflate_writer__code_L0 v i es fr)) (es.length + r)
  | 0, i, es, fr, hi, hn, hw, hl => by
    rw [w___celluloid_deflate_writer__code_L0, decide_eq_false (by omega), cond_false]
    exact ⟨es, fr, rfl, hw, Nat.le_refl _⟩
  | r + 1, i, es, fr, hi, hn, hw, hl => by
    have ei : IntKind.wrap .i64 (i - 1) = i - 1 := wrap64 (by omega) (by omega)
    obtain ⟨es2, fr2, b1, b2, b3⟩ := bits5_c (bitsOp .and .i64 (shr .i64 v i) 1) (n := 1) (by omega) (by omega) hw (by omega)
    unfold W5 at b1
    rw [w___celluloid_deflate_writer__code_L0, decide_eq_true (show i ≥ 0 by omega), cond_true, cond_true, ei, b1]
    refine (code5_loop v r (i - 1) es2 fr2 (by omega) (by omega) b2 ?_).mono ?_
    · have : (1 : Int).toNat = 1 := rfl
      omega
    · have : (1 : Int).toNat = 1 := rfl
      omega
theorem code5_c (v : Int) {n : Int} (h1 : 0 ≤ n) (h2 : n ≤ 1000) {es : List (List PV)} {fr : Int} (hw : Wk es fr) (hl : es.length + n.toNat ≤ 1099511627776) : Grown (cW f___celluloid_deflate_writer__code [.u, .i v, .i n] (W5 es fr)) (es.length + n.toNat) := by
  unfold W5
  rw [w___celluloid_deflate_writer__code, wrap64 (by omega) (by omega)]
  exact code5_loop v n.toNat (n - 1) es fr (by omega) (by omega) hw hl
theorem symbol5_c (s : Int) {es : List (List PV)} {fr : Int} (hw : Wk es fr) (hl : es.length + 9 ≤ 1099511627776) : Grown (cW f___celluloid_deflate_writer__symbol [.u, .i s] (W5 es fr)) (es.length + 9) := by
  have key : ∀ v n : Int, 0 ≤ n → n ≤ 9 → Grown ((cW f___celluloid_deflate_writer__code [.u, .i v, .i n] (W5 es fr)).bind fun r1 => some ([], [(t_deflate_writer, [(PV.l (((((r1).2.getD 0 (0, []))).2.getD 0 PV.u)).toL), (PV.i (((((r1).2.getD 0 (0, []))).2.getD 1 PV.u)).toI)])])) (es.length + 9) := fun v n h0 h9 => by
    obtain ⟨es2, fr2, b1, b2, b3⟩ := code5_c v h0 (by omega) hw (by omega)
    rw [b1]
    exact ⟨es2, fr2, rfl, b2, by omega⟩
  unfold W5 at key ⊢
  rw [w___celluloid_deflate_writer__symbol]
  cases decide (s < 144) with
  | true => exact key _ 8 (by omega) (by omega)
  | false =>
    cases decide (s < 256) with
    | true => exact key _ 9 (by omega) (by omega)
    | false =>
      cases decide (s < 280) with
      | true => exact key _ 7 (by omega) (by omega)
      | false => exact key _ 8 (by omega) (by omega)
theorem lengthOf_c {k : Int} (h1 : 257 ≤ k) (h2 : k < 285) : ∃ b m : Int, cW f_deflate_lengthOf [.i k] [] = some ([.i b, .i m], []) ∧ (0 ≤ m ∧ m ≤ 5) := by
  have e1 : IntKind.wrap .i64 (k - 257) = k - 257 := wrap64 (by omega) (by omega)
  rw [w_deflate_lengthOf, e1]
  by_cases h : k - 257 < 8
  · rw [decide_eq_true h, cond_true]
    exact ⟨_, 0, rfl, by omega⟩
  · have e2 : (k - 257).tdiv 4 = (k - 257) / 4 := by rw [Int.tdiv_eq_ediv_of_nonneg (by omega)]
    rw [decide_eq_false h, cond_false, e2, wrap64 (n := (k - 257) / 4) (by omega) (by omega), wrap64 (n := (k - 257) / 4 - 1) (by omega) (by omega), decide_eq_true (by omega), cond_true]
    exact ⟨_, _, rfl, by omega⟩
theorem distanceOf_c {k : Int} (h1 : 0 ≤ k) (h2 : k < 30) : ∃ b m : Int, cW f_deflate_distanceOf [.i k] [] = some ([.i b, .i m], []) ∧ (0 ≤ m ∧ m ≤ 13) := by
  rw [w_deflate_distanceOf]
  by_cases h : k < 4
  · rw [decide_eq_true h, cond_true]
    exact ⟨_, 0, rfl, by omega⟩
  · have e2 : k.tdiv 2 = k / 2 := by rw [Int.tdiv_eq_ediv_of_nonneg (by omega)]
    rw [decide_eq_false h, cond_false, e2, wrap64 (n := k / 2) (by omega) (by omega), wrap64 (n := k / 2 - 1) (by omega) (by omega), decide_eq_true (by omega), cond_true]
    exact ⟨_, _, rfl, by omega⟩
theorem run5_end (far sym base more : Int) {es : List (List PV)} {fr : Int} (hw : Wk es fr) (hm : 0 ≤ more ∧ more ≤ 13) (hl : es.length + 18 ≤ 1099511627776) : ∀ (r : Nat) (k sym base more : Int), 0 ≤ k → k + r = 30 → 0 ≤ more ∧ more ≤ 13 →
    Grown (rW f___celluloid_deflate_writer__run [t_deflate_writer] at___celluloid_deflate_writer__run_L2 (S___celluloid_deflate_writer__run_L2 far sym base more k es fr)) (es.length + 18)
  | 0, k, sym, base, more, h0, hk, hm => by
    obtain ⟨es2, fr2, b1, b2, b3⟩ := code5_c sym (n := 5) (by omega) (by omega) hw (by omega)
    have t5 : (5 : Int).toNat = 5 := rfl
    obtain ⟨es3, fr3, c1, c2, c3⟩ := bits5_c (IntKind.wrap .i64 (far - base)) hm.1 (by omega) b2 (by omega)
    unfold W5 at b1 c1
    rw [w___celluloid_deflate_writer__run_L2, decide_eq_false (by omega), cond_false, b1]
    simp only [Option.bind_some, List.getD_cons_zero, List.getD_cons_succ, toL_l, toI_i]
    rw [c1]
    exact ⟨es3, fr3, rfl, c2, by omega⟩
  | r + 1, k, sym, base, more, h0, hk, hm => by
    have ek : IntKind.wrap .i64 (k + 1) = k + 1 := wrap64 (by omega) (by omega)
    obtain ⟨b, m, d1, d2⟩ := distanceOf_c h0 (by omega)
    rw [w___celluloid_deflate_writer__run_L2, decide_eq_true (by omega), cond_true, d1, ek]
    simp only [Option.bind_some, List.getD_cons_zero, List.getD_cons_succ, toI_i]
    cases decide (b ≤ far) with
    | true => exact run5_end far sym base more hw hm hl r (k + 1) k b m (by omega) (by omega) d2
    | false => exact run5_end far sym base more hw hm hl r (k + 1) sym base more (by omega) (by omega) hm
theorem run5_loop (n far : Int) {es : List (List PV)} {fr : Int} (hw : Wk es fr) (hl : es.length + 32 ≤ 1099511627776) : ∀ (r : Nat) (k sym base more : Int), 257 ≤ k → k + r = 285 → 0 ≤ more ∧ more ≤ 5 →
    Grown (rW f___celluloid_deflate_writer__run [t_deflate_writer] at___celluloid_deflate_writer__run_L0 (S___celluloid_deflate_writer__run_L0 n far sym base more k es fr)) (es.length + 32)
  | 0, k, sym, base, more, h0, hk, hm => by
    rw [w___celluloid_deflate_writer__run_L0, decide_eq_false (by omega), cond_false]
    have key : ∀ s v m : Int, 0 ≤ m → m ≤ 5 → Grown ((cW f___celluloid_deflate_writer__symbol [PV.u, (PV.i s)] [(t_deflate_writer, [(PV.l es), (PV.i fr)])]).bind fun r2 =>
        (cW f___celluloid_deflate_writer__bits [PV.u, (PV.i v), (PV.i m)] [(t_deflate_writer, [(PV.l (((((r2).2.getD 0 (0, []))).2.getD 0 PV.u)).toL), (PV.i (((((r2).2.getD 0 (0, []))).2.getD 1 PV.u)).toI)])]).bind fun r3 =>
        rW f___celluloid_deflate_writer__run [t_deflate_writer] at___celluloid_deflate_writer__run_L2 (S___celluloid_deflate_writer__run_L2 far ((0 : Int)) ((1 : Int)) ((0 : Int)) ((0 : Int)) ((((((r3).2.getD 0 (0, []))).2.getD 0 PV.u)).toL) ((((((r3).2.getD 0 (0, []))).2.getD 1 PV.u)).toI))) (es.length + 32) := fun s v m m0 m5 => by
      obtain ⟨es2, fr2, b1, b2, b3⟩ := symbol5_c s hw (by omega)
      obtain ⟨es3, fr3, c1, c2, c3⟩ := bits5_c v m0 (by omega) b2 (by omega)
      unfold W5 at b1 c1
      rw [b1]
      simp only [Option.bind_some, List.getD_cons_zero, List.getD_cons_succ, toL_l, toI_i]
      rw [c1]
      exact (run5_end far 0 1 0 c2 ⟨by omega, by omega⟩ (by omega) 30 0 0 1 0 (by omega) (by omega) ⟨by omega, by omega⟩).mono (by omega)
    cases n == 258 with
    | true => exact key _ _ 0 (by omega) (by omega)
    | false => exact key _ _ more hm.1 hm.2
  | r + 1, k, sym, base, more, h0, hk, hm => by
    have ek : IntKind.wrap .i64 (k + 1) = k + 1 := wrap64 (by omega) (by omega)
    obtain ⟨b, m, d1, d2⟩ := lengthOf_c h0 (by omega)
    rw [w___celluloid_deflate_writer__run_L0, decide_eq_true (by omega), cond_true, d1, ek]
    simp only [Option.bind_some, List.getD_cons_zero, List.getD_cons_succ, toI_i]
    cases decide (b ≤ n) with
    | true => exact run5_loop n far hw hl r (k + 1) k b m (by omega) (by omega) d2
    | false => exact run5_loop n far hw hl r (k + 1) sym base more (by omega) (by omega) hm
theorem run5_c (n far : Int) {es : List (List PV)} {fr : Int} (hw : Wk es fr) (hl : es.length + 32 ≤ 1099511627776) : Grown (cW f___celluloid_deflate_writer__run [.u, .i n, .i far] (W5 es fr)) (es.length + 32) := by
  unfold W5
  rw [w___celluloid_deflate_writer__run]
  exact run5_loop n far hw hl 28 257 257 3 0 (by omega) (by omega) ⟨by omega, by omega⟩
/-- how much is alike -/
theorem alike_loop (s : List UInt8) {i k : Int} (hk : 0 ≤ k) (hki : k < i) (hs : s.length ≤ 262144) : ∀ (r : Nat) (n : Int), 0 ≤ n → n + r = 258 → i + n ≤ s.length →
    ∃ m : Int, rW f_deflate_alike [] at_deflate_alike_L0 (S_deflate_alike_L0 s i k n) = some ([.i m], []) ∧ (0 ≤ m ∧ m ≤ 258 ∧ i + m ≤ s.length)
  | 0, n, h0, hn, hi => by
    rw [w_deflate_alike_L0, decide_eq_false (by omega), cond_false]
    exact ⟨n, rfl, h0, by omega, hi⟩
  | r + 1, n, h0, hn, hi => by
    have e1 : IntKind.wrap .i64 (i + n) = i + n := wrap64 (by omega) (by omega)
    have e2 : IntKind.wrap .i64 (k + n) = k + n := wrap64 (by omega) (by omega)
    have e3 : IntKind.wrap .i64 (n + 1) = n + 1 := wrap64 (by omega) (by omega)
    rw [w_deflate_alike_L0, decide_eq_true (by omega), cond_true, e1, e2, e3]
    by_cases h : i + n < s.length
    · rw [decide_eq_true h, cond_true, inB_k (by omega) h, inB_k (by omega) (by omega), cond_true, cond_true]
      cases bt s (i + n) == bt s (k + n) with
      | true => exact alike_loop s hk hki hs r (n + 1) (by omega) (by omega) (by omega)
      | false => exact ⟨n, rfl, h0, by omega, hi⟩
    · rw [decide_eq_false h, cond_false]
      exact ⟨n, rfl, h0, by omega, hi⟩
theorem alike_c (s : List UInt8) {i k : Int} (hk : 0 ≤ k) (hki : k < i) (hs : s.length ≤ 262144) (hi : i ≤ s.length) : ∃ m : Int, cW f_deflate_alike [.s s, .i i, .i k] [] = some ([.i m], []) ∧ (0 ≤ m ∧ m ≤ 258 ∧ i + m ≤ s.length) := by
  rw [w_deflate_alike]
  exact alike_loop s hk hki hs 258 0 (by omega) (by omega) (by omega)
/-- a run that is there -/
def RunOk (s : List UInt8) (i n : Int) : Prop := n = 0 ∨ (3 ≤ n ∧ n ≤ 258 ∧ i + n ≤ s.length)
theorem best_loop (s : List UInt8) {i : Int} (l : List (List PV)) (hs : s.length ≤ 262144) (hi : i ≤ s.length) (hl : ∀ e, e ∈ l → ∃ k : Int, e = [.i k] ∧ (0 ≤ k ∧ k < i)) (hll : l.length ≤ 262144) : ∀ (r : Nat) (k most far : Int), k + 1 = r → r ≤ l.length → (0 ≤ most ∧ most ≤ 258 ∧ i + most ≤ s.length) →
    ∃ n far' : Int, rW f_deflate_best [] at_deflate_best_L0 (S_deflate_best_L0 s i l most far k) = some ([.i n, .i far'], []) ∧ RunOk s i n := by
  have fin : ∀ most far : Int, (0 ≤ most ∧ most ≤ 258 ∧ i + most ≤ s.length) → ∃ n far' : Int, (bif (decide (most < (3 : Int))) then some ([(PV.i (0 : Int)), (PV.i (0 : Int))], ([] : List BX)) else some ([(PV.i most), (PV.i far)], [])) = some ([.i n, .i far'], []) ∧ RunOk s i n := fun most far hm => by
    by_cases h : most < 3
    · rw [decide_eq_true h, cond_true]; exact ⟨0, 0, rfl, .inl rfl⟩
    · rw [decide_eq_false h, cond_false]; exact ⟨most, far, rfl, .inr ⟨by omega, hm.2.1, hm.2.2⟩⟩
  intro r
  induction r with
  | zero =>
    intro k most far hk hr hm
    rw [w_deflate_best_L0, decide_eq_false (by omega), cond_false]
    exact fin most far hm
  | succ r ih =>
    intro k most far hk hr hm
    have ek : IntKind.wrap .i64 (k - 1) = k - 1 := wrap64 (by omega) (by omega)
    have hkn : k.toNat < l.length := by omega
    obtain ⟨p, hp, p0, p1⟩ := hl (elemAt l k) (by
      unfold elemAt
      rw [List.getD_eq_getElem?_getD, List.getElem?_eq_getElem hkn]
      exact List.getElem_mem hkn)
    have ep : IntKind.wrap .i64 (i - p) = i - p := wrap64 (by omega) (by omega)
    obtain ⟨m, a1, a2⟩ := alike_c s p0 p1 hs hi
    have nx := ih (k - 1)
    rw [w_deflate_best_L0, decide_eq_true (by omega), cond_true, inB_k (by omega) (by omega), cond_true, hp, ek]
    simp only [List.getD_cons_zero, toI_i]
    rw [ep, a1]
    simp only [Option.bind_some, List.getD_cons_zero, toI_i, toB_b, cond_true]
    cases decide (i - p ≤ 32768) with
    | false => exact fin most far hm
    | true =>
      rw [cond_true]
      cases decide (m > most) with
      | true =>
        rw [cond_true]
        cases m == 258 with
        | true => exact fin m (i - p) a2
        | false =>
          rw [cond_false]
          cases IntKind.wrap .i64 (i + m) == ((s.length : Nat) : Int) with
          | true => exact fin m (i - p) a2
          | false => exact nx m (i - p) (by omega) (by omega) a2
      | false =>
        rw [cond_false]
        cases most == 258 with
        | true => exact fin most far hm
        | false =>
          rw [cond_false]
          cases IntKind.wrap .i64 (i + most) == ((s.length : Nat) : Int) with
          | true => exact fin most far hm
          | false => exact nx most far (by omega) (by omega) hm
theorem best_c (s : List UInt8) {i : Int} (l : List (List PV)) (hs : s.length ≤ 262144) (h0 : 0 ≤ i) (hi : i ≤ s.length) (hl : ∀ e, e ∈ l → ∃ k : Int, e = [.i k] ∧ (0 ≤ k ∧ k < i)) (hll : l.length ≤ 262144) : ∃ n far : Int, cW f_deflate_best [.s s, .i i, .l l] [] = some ([.i n, .i far], []) ∧ RunOk s i n := by
  rw [w_deflate_best, wrap64 (by omega) (by omega)]
  exact best_loop s l hs hi hl hll l.length _ 0 0 (by omega) (Nat.le_refl _) ⟨by omega, by omega, by omega⟩
/-- the three bytes at a place -/
theorem at3_no (s : List UInt8) {i : Int} (hs : s.length ≤ 262144) (h0 : 0 ≤ i) (h : s.length < i + 3) : cW f_deflate_at [.s s, .i i] [] = some ([.i 0, .i 0, .i 0, .b false], []) := by
  rw [w_deflate_at, decide_eq_false (by omega), cond_false, wrap64 (n := (s.length : Int) - 3) (by omega) (by omega), decide_eq_true (by omega)]
  rfl
theorem at3_yes (s : List UInt8) {i : Int} (hs : s.length ≤ 262144) (h0 : 0 ≤ i) (h : i + 3 ≤ s.length) : cW f_deflate_at [.s s, .i i] [] = some ([.i (bt s i), .i (bt s (i + 1)), .i (bt s (i + 2)), .b true], []) := by
  rw [w_deflate_at, decide_eq_false (by omega), cond_false, wrap64 (n := (s.length : Int) - 3) (by omega) (by omega), decide_eq_false (by omega), wrap64 (n := i + 1) (by omega) (by omega), wrap64 (n := i + 2) (by omega) (by omega), inB_k (by omega) (by omega), inB_k (by omega) (by omega), inB_k (by omega) (by omega)]
  rfl
end Go.AI
