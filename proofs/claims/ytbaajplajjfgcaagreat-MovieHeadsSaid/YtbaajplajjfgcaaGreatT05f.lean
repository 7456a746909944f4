/- deflate.Raw as an answer given by hand. -/
import Derived.Test.YtbaajplajjfgcaaGreatT05e
set_option linter.unusedVariables false
set_option linter.unusedSimpArgs false
namespace Go.AI
open Go Go.RowKit Go.Proofs
noncomputable def rawF (l : List UInt8) : List PV := if 262144 < l.length then [.s [], .i 7] else [.s (toBytes (outZ l).1), .i 0]
theorem loop_ok {l : List UInt8} (hl : l.length ≤ 262144) : ∀ f i st, i ≤ l.length → Wk st.1 st.2 → st.1.length ≤ 3 + 32 * i → Wk (loopZ l f i st).1 (loopZ l f i st).2 ∧ (loopZ l f i st).1.length ≤ 3 + 32 * l.length
  | 0, i, st, hi, h1, h2 => ⟨h1, by rw [loopZ]; omega⟩
  | f + 1, i, st, hi, h1, h2 => by
    rw [loopZ]
    split
    · rename_i hlt
      obtain ⟨a, b⟩ := step_ok hl hlt h1 h2
      exact loop_ok hl f _ _ a.2 b.1 b.2
    · exact ⟨h1, by omega⟩
theorem out_len {l : List UInt8} (hl : l.length ≤ 262144) : (outZ l).1.length ≤ 12 + 32 * l.length := by
  obtain ⟨a, b⟩ := loop_ok hl l.length 0 st0Z (Nat.zero_le _) st0_ok.1 (by have := st0_ok.2; omega)
  have := (g5_c (symbol5_c 256 a (by omega))).2.2
  unfold outZ
  omega
theorem raw_plain (p : CallF) (l : List UInt8) : PlainOk Tryz.prog (ann.by p) 34 [.s l] (rawF l) := by
  by_cases h : 262144 < l.length
  · refine ⟨Tryz.f34, Tryz.f34.body.getD .skip, [.v (.str l)], [.v (.str []), .v (.int .i64 7)], Tryz.func34, by kernel_rfl, by kernel_rfl, by kernel_rfl, by rw [rawF, if_pos h]; kernel_rfl, by kernel_rfl, by rw [rawF, if_pos h]; kernel_rfl, fun N w vs hN hl hv => ?_⟩
    match vs, hl with
    | [v0], _ =>
      obtain ⟨s, rfl, hs⟩ : ∃ x : ByteArray, v0 = .string x ∧ x.data.toList = l := (hv 0 (by simp)).leaf
      refine (raw_walk s l hs w).mono ?_
      rintro e w' ⟨hr, hb⟩
      rcases hr with ⟨_, rfl⟩ | ⟨h2, _⟩
      · refine ⟨[.string .empty, .int .i64 7], rfl, hb, rfl, fun i hi => ?_⟩
        match i, hi with
        | 0, _ => exact .v _ _ ⟨.empty, rfl, rfl⟩
        | 1, _ => exact .v _ _ rfl
      · omega
  · refine ⟨Tryz.f34, Tryz.f34.body.getD .skip, [.v (.str l)], [.v (.str (toBytes (outZ l).1)), .v (.int .i64 0)], Tryz.func34, by kernel_rfl, by kernel_rfl, by kernel_rfl, by rw [rawF, if_neg h]; kernel_rfl, by kernel_rfl, by rw [rawF, if_neg h]; kernel_rfl, fun N w vs hN hl hv => ?_⟩
    match vs, hl with
    | [v0], _ =>
      obtain ⟨s, rfl, hs⟩ : ∃ x : ByteArray, v0 = .string x ∧ x.data.toList = l := (hv 0 (by simp)).leaf
      refine (raw_walk s l hs w).mono ?_
      rintro e w' ⟨hr, hb⟩
      rcases hr with ⟨h2, _⟩ | ⟨_, x, rfl, hx⟩
      · omega
      · refine ⟨[.string x, .int .i64 0], rfl, hb, rfl, fun i hi => ?_⟩
        match i, hi with
        | 0, _ => exact .v _ _ ⟨x, rfl, hx⟩
        | 1, _ => exact .v _ _ rfl
end Go.AI
