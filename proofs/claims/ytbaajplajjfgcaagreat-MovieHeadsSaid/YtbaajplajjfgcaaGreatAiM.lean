/- More fuel changes no answer; and answers that hold from some depth on. -/
import Derived.Test.YtbaajplajjfgcaaGreatAiDefs
set_option linter.unusedVariables false
set_option linter.unusedSimpArgs false
namespace Go.AI
open Go

section
variable {α : Type} {call call' : CallF} (hc : ∀ f ps bs r, call f ps bs = some r → call' f ps bs = some r)
include hc

theorem run_mono : ∀ (x : Acc) (st : St) (K K' : St → Option α), (∀ st r, K st = some r → K' st = some r) → ∀ r, x.run call st K = some r → x.run call' st K' = some r := by
  intro x
  induction x with
  | done => intro st K K' h r hr; exact h st r hr
  | fail => intro st K K' h r hr; cases hr
  | getT t k ih => intro st K K' h r hr; exact ih _ st K K' h r hr
  | getB id k ih => intro st K K' h r hr; exact ih _ st K K' h r hr
  | setT d v k ih =>
    intro st K K' h r hr
    simp only [Acc.run] at hr ⊢
    cases hb : Nat.blt d st.nt with
    | false => rw [hb] at hr; cases hr
    | true => rw [hb] at hr; exact ih _ K K' h r hr
  | setB id b k ih =>
    intro st K K' h r hr
    simp only [Acc.run] at hr ⊢
    cases hb : (!st.q || id.fresh st.r) with
    | false => rw [hb] at hr; cases hr
    | true => rw [hb] at hr; exact ih _ K K' h r hr
  | test b k ih =>
    intro st K K' h r hr
    simp only [Acc.run] at hr ⊢
    cases b with
    | false => cases hr
    | true => exact ih st K K' h r hr
  | fork b x y ihx ihy =>
    intro st K K' h r hr
    simp only [Acc.run] at hr ⊢
    cases b with
    | false => exact ihy st K K' h r hr
    | true => exact ihx st K K' h r hr
  | br d want x y ihx ihy =>
    intro st K K' h r hr
    simp only [Acc.run] at hr ⊢
    split at hr
    · cases want <;> (rename_i b _; cases b)
      · exact ihx _ K K' h r hr
      · exact ihy _ K K' h r hr
      · exact ihy _ K K' h r hr
      · exact ihx _ K K' h r hr
    · exact ihy st K K' h r hr
    · cases hr
  | call f ps bs k ih =>
    intro st K K' h r hr
    simp only [Acc.run] at hr ⊢
    cases hb : (!st.q || bs.isEmpty) with
    | false => rw [hb] at hr; cases hr
    | true =>
      rw [hb, cond_true, Option.bind_eq_some_iff] at hr
      obtain ⟨x, h1, h2⟩ := hr
      rw [cond_true, hc _ _ _ _ h1]
      exact ih x st K K' h r h2

theorem runL_mono : ∀ (x : Acc) (st : St) (f : Foot) (K K' : St → Foot → Option α), (∀ st f r, K st f = some r → K' st f = some r) → ∀ r, x.runL call st f K = some r → x.runL call' st f K' = some r := by
  intro x
  induction x with
  | done => intro st f K K' h r hr; exact h st f r hr
  | fail => intro st f K K' h r hr; cases hr
  | getT t k ih => intro st f K K' h r hr; exact ih _ st _ K K' h r hr
  | getB id k ih => intro st f K K' h r hr; exact ih _ st _ K K' h r hr
  | setT d v k ih =>
    intro st f K K' h r hr
    simp only [Acc.runL] at hr ⊢
    cases hb : Nat.blt d st.nt with
    | false => rw [hb] at hr; cases hr
    | true => rw [hb] at hr; exact ih _ _ K K' h r hr
  | setB id b k ih =>
    intro st f K K' h r hr
    simp only [Acc.runL] at hr ⊢
    cases hb : (!st.q || id.fresh st.r) with
    | false => rw [hb] at hr; cases hr
    | true => rw [hb] at hr; exact ih _ _ K K' h r hr
  | test b k ih =>
    intro st f K K' h r hr
    simp only [Acc.runL] at hr ⊢
    cases b with
    | false => cases hr
    | true => exact ih st f K K' h r hr
  | fork b x y ihx ihy =>
    intro st f K K' h r hr
    simp only [Acc.runL] at hr ⊢
    cases b with
    | false => exact ihy st f K K' h r hr
    | true => exact ihx st f K K' h r hr
  | br d want x y ihx ihy =>
    intro st f K K' h r hr
    simp only [Acc.runL] at hr ⊢
    split at hr
    · cases want <;> (rename_i b _; cases b)
      · exact ihx _ _ K K' h r hr
      · exact ihy _ _ K K' h r hr
      · exact ihy _ _ K K' h r hr
      · exact ihx _ _ K K' h r hr
    · exact ihy st _ K K' h r hr
    · cases hr
  | call g ps bs k ih =>
    intro st f K K' h r hr
    simp only [Acc.runL] at hr ⊢
    cases hb : (!st.q || bs.isEmpty) with
    | false => rw [hb] at hr; cases hr
    | true =>
      rw [hb, cond_true, Option.bind_eq_some_iff] at hr
      obtain ⟨x, h1, h2⟩ := hr
      rw [cond_true, hc _ _ _ _ h1]
      exact ih x st f K K' h r h2

variable (P : Program) (A : Ann) (F : FuncId)
theorem aops_mono (all : Array Oper) (K K' : St → Option α) (h : ∀ st r, K st = some r → K' st = some r) : ∀ (os : List Oper) (j : Nat) (st : St) (r : α), aops P A F call all os j st K = some r → aops P A F call' all os j st K' = some r
  | [], j, st, r, hr => h st r hr
  | o :: os, j, st, r, hr => run_mono hc _ _ _ _ (fun st r hr => aops_mono all K K' h os (j + 1) st r hr) r hr
theorem aopsL_mono (all : Array Oper) (K K' : St → List Foot → Option α) (h : ∀ st fs r, K st fs = some r → K' st fs = some r) : ∀ (os : List Oper) (j : Nat) (st : St) (fs : List Foot) (r : α), aopsL P A F call all os j st fs K = some r → aopsL P A F call' all os j st fs K' = some r
  | [], j, st, fs, r, hr => h st fs r hr
  | o :: os, j, st, fs, r, hr => runL_mono hc _ _ _ _ _ (fun st f r hr => aopsL_mono all K K' h os (j + 1) st _ r hr) r hr
theorem aseq_mono (ops : Array Oper) (draw : Bool) (st : St) (K K' : St → Option α) (h : ∀ st r, K st = some r → K' st = some r) (r : α) (hr : aseq P A F call ops draw st K = some r) : aseq P A F call' ops draw st K' = some r := by
  cases draw with
  | false => exact aops_mono hc P A F ops K K' h _ _ _ _ hr
  | true =>
    simp only [aseq] at hr ⊢
    generalize (P.follows .mixedOrders && ops.toList.zipIdx.all fun x => x.1.after.all fun e => !Region.binds .any e || Nat.blt e.on x.2) = c at hr ⊢
    cases c with
    | false => cases hr
    | true =>
      rw [cond_true] at hr ⊢
      refine aopsL_mono hc P A F ops _ _ (fun st fs r hr => ?_) _ _ _ _ _ hr
      generalize apartAll [] fs (Region.before ops).toList.reverse = c at hr ⊢
      cases c with
      | false => cases hr
      | true => exact h st r hr
theorem aregion_mono (ops : Array Oper) (draw : Bool) (st : St) (K K' : St → Option α) (h : ∀ st r, K st = some r → K' st = some r) (r : α) (hr : aregion P A F call ops draw st K = some r) : aregion P A F call' ops draw st K' = some r := by
  unfold aregion at hr ⊢
  split at hr
  · rw [Option.bind_eq_some_iff] at hr
    obtain ⟨ps, h1, h2⟩ := hr
    rw [aseq_mono hc P A F ops draw _ _ _ (fun _ _ h => h) _ h1, Option.bind_some]
    split at h2
    · exact h _ _ h2
    · cases h2
  · exact aseq_mono hc P A F ops draw _ _ _ (fun st r hr => h _ r hr) _ hr
theorem adv_mono (fn : Func) (pts : List TypeId) (R R' : List Item → St → Option Res) (hR : ∀ t st r, R t st = some r → R' t st = some r) : ∀ (n : Nat) (fst : Bool) (todo : List Item) (st : St) (r : Res), adv P A F fn pts call R n fst todo st = some r → adv P A F fn pts call' R' n fst todo st = some r := by
  intro n
  induction n with
  | zero => intro fst todo st r h; cases h
  | succ n ih =>
    intro fst todo st r h
    unfold adv at h ⊢
    split at h
    · exact h
    · exact h
    · exact ih _ _ _ _ h
    · exact ih _ _ _ _ h
    · exact ih _ _ _ _ h
    · exact ih _ _ _ _ h
    · exact ih _ _ _ _ h
    · split at h
      · split at h
        · rename_i t _
          cases t <;> exact ih _ _ _ _ h
        · cases h
      · rename_i t
        cases t <;> exact ih _ _ _ _ h
      · cases h
    · exact ih _ _ _ _ h
    · exact ih _ _ _ _ h
    · exact ih _ _ _ _ h
    · cases fst with
      | true => exact ih _ _ _ _ h
      | false =>
        simp only [cond_false] at h ⊢
        split at h
        · split at h
          · exact hR _ _ _ h
          · cases h
        · exact ih _ _ _ _ h
    · split at h
      · exact ih _ _ _ _ h
      · cases h
    · split at h
      · split at h
        · exact hR _ _ _ h
        · cases h
      · exact aregion_mono hc P A F _ _ _ _ _ (fun st r h => ih _ _ _ _ h) _ h
    · cases h
end

theorem lvl_mono (P : Program) (A : Ann) : ∀ n, (∀ f ps bs r, (lvl P A n).1 f ps bs = some r → (lvl P A (n + 1)).1 f ps bs = some r) ∧
    ∀ f pts t st r, (lvl P A n).2 f pts t st = some r → (lvl P A (n + 1)).2 f pts t st = some r
  | 0 => ⟨fun f ps bs r h => (by cases h), fun f pts t st r h => (by cases h)⟩
  | n + 1 => by
    obtain ⟨h1, h2⟩ := lvl_mono P A n
    refine ⟨fun f ps bs r h => ?_, fun f pts t st r h => ?_⟩
    · rw [lvl] at h ⊢
      simp only at h ⊢
      cases hp : A.prim f ps bs with
      | some r' => rw [hp] at h; exact h
      | none =>
        rw [hp] at h
        simp only at h ⊢
        split at h
        · split at h
          · exact adv_mono h1 P A f _ _ _ _ (fun t st r => h2 f _ t st r) _ _ _ _ _ h
          · exact h
          · cases h
        · cases h
    · rw [lvl] at h ⊢
      simp only at h ⊢
      split at h
      · exact adv_mono h1 P A f _ _ _ _ (fun t st r => h2 f _ t st r) _ _ _ _ _ h
      · cases h
theorem callAt_mono {P : Program} {A : Ann} {n m : Nat} (h : n ≤ m) {f : FuncId} {ps : List PV} {bs : List BX} {r : Res} (hr : callAt P A n f ps bs = some r) : callAt P A m f ps bs = some r := by
  induction h with
  | refl => exact hr
  | step _ ih => exact (lvl_mono P A _).1 f ps bs r ih

/-! ### answers from some depth on -/
def Ans {α : Type} (e : Nat → Option α) (r : α) : Prop := ∃ n, ∀ k, n ≤ k → e k = some r
section
variable {α γ : Type} {e e' : Nat → Option α} {r : α}
theorem Ans.pure (r : α) : Ans (fun _ => some r) r := ⟨0, fun _ _ => rfl⟩
theorem Ans.pure' {s : α} (h : s = r) : Ans (fun _ => some s) r := ⟨0, fun _ _ => by rw [h]⟩
theorem Ans.at_ {P : Program} {A : Ann} (n : Nat) {f : FuncId} {ps : List PV} {bs : List BX} {r : Res} (h : callAt P A n f ps bs = some r) : Ans (fun k => callAt P A k f ps bs) r :=
  ⟨n, fun k hk => callAt_mono hk h⟩
theorem Ans.succ (h : ∀ k, e (k + 1) = e' k) (h2 : Ans e' r) : Ans e r := by
  obtain ⟨n, hn⟩ := h2
  refine ⟨n + 1, fun k hk => ?_⟩
  obtain ⟨j, rfl⟩ : ∃ j, k = j + 1 := ⟨k - 1, by omega⟩
  rw [h]; exact hn j (by omega)
theorem Ans.bind {x : γ} {m : Nat → Option γ} {g : Nat → γ → Option α} (h : Ans m x) (h2 : Ans (fun k => g k x) r) : Ans (fun k => (m k).bind (g k)) r := by
  obtain ⟨n, hn⟩ := h
  obtain ⟨n', hn'⟩ := h2
  refine ⟨max n n', fun k hk => ?_⟩
  show (m k).bind (g k) = some r
  rw [hn k (by omega), Option.bind_some]
  exact hn' k (by omega)
theorem Ans.ite {c : Bool} {x y : Nat → Option α} (h1 : c = true → Ans x r) (h2 : c = false → Ans y r) : Ans (fun k => bif c then x k else y k) r := by
  cases c with
  | true => exact h1 rfl
  | false => exact h2 rfl
theorem Ans.yes {c : Bool} {x y : Nat → Option α} (hc : c = true) (h1 : Ans x r) : Ans (fun k => bif c then x k else y k) r := by subst hc; exact h1
theorem Ans.no {c : Bool} {x y : Nat → Option α} (hc : c = false) (h1 : Ans y r) : Ans (fun k => bif c then x k else y k) r := by subst hc; exact h1
theorem Ans.one (h : Ans e r) : ∃ n, e n = some r := by obtain ⟨n, hn⟩ := h; exact ⟨n, hn n (Nat.le_refl _)⟩
theorem Ans.eq {s : α} (h : Ans e r) (hs : r = s) : Ans e s := hs ▸ h
end
end Go.AI
set_option linter.unusedVariables false
set_option linter.unusedSimpArgs false
namespace Go.AI
open Go

theorem wrap64 {n : Int} (h1 : -9223372036854775808 ≤ n) (h2 : n ≤ 9223372036854775807) : IntKind.wrap .i64 n = n := by
  have e : (2 : Int) ^ (64 - 1) = 9223372036854775808 := rfl
  have e' : (2 : Int) ^ 64 = 18446744073709551616 := rfl
  simp only [IntKind.wrap, IntKind.bits, IntKind.signed, Bool.true_and, decide_eq_true_eq, e, e']
  split <;> omega
theorem wrapU64 {n : Int} (h1 : 0 ≤ n) (h2 : n < 18446744073709551616) : IntKind.wrap .u64 n = n := by
  have e' : (2 : Int) ^ 64 = 18446744073709551616 := rfl
  simp only [IntKind.wrap, IntKind.bits, IntKind.signed, Bool.false_and, Bool.false_eq_true, if_false, e']
  omega
theorem wrapU32 {n : Int} (h1 : 0 ≤ n) (h2 : n < 4294967296) : IntKind.wrap .u32 n = n := by
  have e' : (2 : Int) ^ 32 = 4294967296 := rfl
  simp only [IntKind.wrap, IntKind.bits, IntKind.signed, Bool.false_and, Bool.false_eq_true, if_false, e']
  omega
theorem wrapU8 (n : Int) : IntKind.wrap .u8 n = n % 256 := by
  have e' : (2 : Int) ^ 8 = 256 := rfl
  simp only [IntKind.wrap, IntKind.bits, IntKind.signed, Bool.false_and, Bool.false_eq_true, if_false, e']
theorem wrapU8' {n : Int} (h1 : 0 ≤ n) (h2 : n < 256) : IntKind.wrap .u8 n = n := by rw [wrapU8]; omega

theorem shr_eq {k : IntKind} {x y : Int} (h0 : 0 ≤ y) (h1 : y ≤ k.bits) : shr k x y = x / 2 ^ y.toNat := by
  unfold shr
  rw [Nat.min_eq_left (by omega), Int.fdiv_eq_ediv_of_nonneg]
  exact Int.le_of_lt (Int.pow_pos (by omega))
theorem shrN {k : IntKind} {x y : Nat} (h1 : y ≤ k.bits) : shr k (x : Int) (y : Int) = ((x / 2 ^ y : Nat) : Int) := by
  rw [shr_eq (by omega) (by omega)]
  simp
theorem shl_eq {k : IntKind} {x y : Int} (h1 : y ≤ k.bits) : shl k x y = k.wrap (x * 2 ^ y.toNat) := by
  unfold shl
  rw [Nat.min_eq_left (by omega)]
theorem shl64 {x y : Nat} (h : x * 2 ^ y < 9223372036854775808) (hy : y ≤ 64) : shl .i64 (x : Int) (y : Int) = ((x * 2 ^ y : Nat) : Int) := by
  rw [shl_eq (by show (y : Int) ≤ (64 : Nat); omega)]
  have : (x : Int) * 2 ^ (y : Int).toNat = ((x * 2 ^ y : Nat) : Int) := by simp
  rw [this, wrap64 (by omega) (by omega)]

theorem ofInt_nat (w n : Nat) : (BitVec.ofInt w (n : Int)).toNat = n % 2 ^ w := by
  rw [BitVec.toNat_ofInt, ← Int.natCast_emod, Int.toNat_natCast]
theorem andN {k : IntKind} {x y : Nat} (hx : x < 2 ^ k.bits) (hy : y < 2 ^ k.bits) : bitsOp .and k (x : Int) (y : Int) = k.wrap ((x &&& y : Nat) : Int) := by
  unfold bitsOp
  simp only [BitVec.toNat_and, ofInt_nat, Nat.mod_eq_of_lt hx, Nat.mod_eq_of_lt hy]
theorem orN {k : IntKind} {x y : Nat} (hx : x < 2 ^ k.bits) (hy : y < 2 ^ k.bits) : bitsOp .or k (x : Int) (y : Int) = k.wrap ((x ||| y : Nat) : Int) := by
  unfold bitsOp
  simp only [BitVec.toNat_or, ofInt_nat, Nat.mod_eq_of_lt hx, Nat.mod_eq_of_lt hy]
/-- the lowest bit -/
theorem and1_u8 {x : Nat} (hx : x < 256) : bitsOp .and .u8 (x : Int) 1 = ((x % 2 : Nat) : Int) := by
  have := andN (k := .u8) (x := x) (y := 1) (by simpa [IntKind.bits] using hx) (by decide)
  rw [show (1 : Int) = ((1 : Nat) : Int) from rfl, this, Nat.and_one_is_mod, wrapU8' (by omega) (by omega)]
theorem and1_64 {x : Nat} (hx : x < 18446744073709551616) : bitsOp .and .i64 (x : Int) 1 = ((x % 2 : Nat) : Int) := by
  have := andN (k := .i64) (x := x) (y := 1) (by simpa [IntKind.bits] using hx) (by decide)
  rw [show (1 : Int) = ((1 : Nat) : Int) from rfl, this, Nat.and_one_is_mod, wrap64 (by omega) (by omega)]
/-- a number put beside bits that are free -/
theorem or_add {n a b : Nat} (hb : b < 2 ^ n) (h : a * 2 ^ n + b < 9223372036854775808) : bitsOp .or .i64 ((a * 2 ^ n : Nat) : Int) (b : Int) = ((a * 2 ^ n + b : Nat) : Int) := by
  have h2 : (2 : Nat) ^ IntKind.i64.bits = 18446744073709551616 := rfl
  rw [orN (by rw [h2]; omega) (by rw [h2]; omega), Nat.mul_comm, ← Nat.two_pow_add_eq_or_of_lt hb, wrap64 (by omega) (by rw [Nat.mul_comm] at h; omega)]

theorem tdivN (a b : Nat) : Int.tdiv (a : Int) (b : Int) = ((a / b : Nat) : Int) := rfl
theorem tmodN (a b : Nat) : Int.tmod (a : Int) (b : Int) = ((a % b : Nat) : Int) := rfl

/-! ### bits of bytes -/
def bitN (s : List UInt8) (i : Nat) : Nat := (s.getD (i / 8) 0).toNat / 2 ^ (7 - i % 8) % 2
def fieldN (s : List UInt8) (at_ : Nat) : Nat → Nat
  | 0 => 0
  | n + 1 => 2 * fieldN s at_ n + bitN s (at_ + n)
theorem bitN_lt (s : List UInt8) (i : Nat) : bitN s i < 2 := Nat.mod_lt _ (by decide)
theorem fieldN_lt (s : List UInt8) (at_ : Nat) : ∀ n, fieldN s at_ n < 2 ^ n
  | 0 => by simp [fieldN]
  | n + 1 => by
    have := fieldN_lt s at_ n
    have := bitN_lt s (at_ + n)
    simp only [fieldN, Nat.pow_succ]; omega
theorem fieldN_add (s : List UInt8) (at_ n : Nat) : ∀ m, fieldN s at_ (n + m) = fieldN s at_ n * 2 ^ m + fieldN s (at_ + n) m
  | 0 => by simp [fieldN]
  | m + 1 => by
    rw [← Nat.add_assoc]
    simp only [fieldN, fieldN_add s at_ n m, Nat.pow_succ, Nat.add_assoc]
    rw [Nat.mul_add, ← Nat.mul_assoc, Nat.mul_comm 2, Nat.mul_assoc, Nat.mul_comm 2]
    omega
end Go.AI
set_option linter.unusedVariables false
set_option linter.unusedSimpArgs false
namespace Go.AI
open Go

/-- from some depth on -/
def Evn {α : Type} (e : Nat → Option α) (r : α) : Prop := ∃ n, ∀ k, n ≤ k → e k = some r

section
variable {α : Type} {call' : CallF} {call : Nat → CallF} (hc : ∀ f ps bs r, call' f ps bs = some r → Evn (fun k => call k f ps bs) r)
include hc

theorem run_ev : ∀ (x : Acc) (st : St) (K : Nat → St → Option α) (K' : St → Option α), (∀ st r, K' st = some r → Evn (fun k => K k st) r) → ∀ r, x.run call' st K' = some r → Evn (fun k => x.run (call k) st (K k)) r := by
  intro x
  induction x with
  | done => intro st K K' h r hr; exact h st r hr
  | fail => intro st K K' h r hr; cases hr
  | getT t k ih => intro st K K' h r hr; exact ih _ st K K' h r hr
  | getB id k ih => intro st K K' h r hr; exact ih _ st K K' h r hr
  | setT d v k ih =>
    intro st K K' h r hr
    simp only [Acc.run] at hr ⊢
    cases hb : Nat.blt d st.nt with
    | false => rw [hb] at hr; cases hr
    | true => rw [hb] at hr; exact ih _ K K' h r hr
  | setB id b k ih =>
    intro st K K' h r hr
    simp only [Acc.run] at hr ⊢
    cases hb : (!st.q || id.fresh st.r) with
    | false => rw [hb] at hr; cases hr
    | true => rw [hb] at hr; exact ih _ K K' h r hr
  | test b k ih =>
    intro st K K' h r hr
    simp only [Acc.run] at hr ⊢
    cases b with
    | false => cases hr
    | true => exact ih st K K' h r hr
  | fork b x y ihx ihy =>
    intro st K K' h r hr
    simp only [Acc.run] at hr ⊢
    cases b with
    | false => exact ihy st K K' h r hr
    | true => exact ihx st K K' h r hr
  | br d want x y ihx ihy =>
    intro st K K' h r hr
    simp only [Acc.run] at hr ⊢
    split at hr
    · cases want <;> (rename_i b _; cases b)
      · exact ihx _ K K' h r hr
      · exact ihy _ K K' h r hr
      · exact ihy _ K K' h r hr
      · exact ihx _ K K' h r hr
    · exact ihy st K K' h r hr
    · cases hr
  | call f ps bs k ih =>
    intro st K K' h r hr
    simp only [Acc.run] at hr ⊢
    cases hb : (!st.q || bs.isEmpty) with
    | false => rw [hb] at hr; cases hr
    | true =>
      rw [hb, cond_true, Option.bind_eq_some_iff] at hr
      obtain ⟨x, h1, h2⟩ := hr
      obtain ⟨n, hn⟩ := hc _ _ _ _ h1
      obtain ⟨m, hm⟩ := ih x st K K' h r h2
      refine ⟨max n m, fun j hj => ?_⟩
      simp only [cond_true]
      rw [show call j f ps bs = some x from hn j (by omega)]
      exact hm j (by omega)

theorem runL_ev : ∀ (x : Acc) (st : St) (f : Foot) (K : Nat → St → Foot → Option α) (K' : St → Foot → Option α), (∀ st f r, K' st f = some r → Evn (fun k => K k st f) r) → ∀ r, x.runL call' st f K' = some r → Evn (fun k => x.runL (call k) st f (K k)) r := by
  intro x
  induction x with
  | done => intro st f K K' h r hr; exact h st f r hr
  | fail => intro st f K K' h r hr; cases hr
  | getT t k ih => intro st f K K' h r hr; exact ih _ st _ K K' h r hr
  | getB id k ih => intro st f K K' h r hr; exact ih _ st _ K K' h r hr
  | setT d v k ih =>
    intro st f K K' h r hr
    simp only [Acc.runL] at hr ⊢
    cases hb : Nat.blt d st.nt with
    | false => rw [hb] at hr; cases hr
    | true => rw [hb] at hr; exact ih _ _ K K' h r hr
  | setB id b k ih =>
    intro st f K K' h r hr
    simp only [Acc.runL] at hr ⊢
    cases hb : (!st.q || id.fresh st.r) with
    | false => rw [hb] at hr; cases hr
    | true => rw [hb] at hr; exact ih _ _ K K' h r hr
  | test b k ih =>
    intro st f K K' h r hr
    simp only [Acc.runL] at hr ⊢
    cases b with
    | false => cases hr
    | true => exact ih st f K K' h r hr
  | fork b x y ihx ihy =>
    intro st f K K' h r hr
    simp only [Acc.runL] at hr ⊢
    cases b with
    | false => exact ihy st f K K' h r hr
    | true => exact ihx st f K K' h r hr
  | br d want x y ihx ihy =>
    intro st f K K' h r hr
    simp only [Acc.runL] at hr ⊢
    split at hr
    · cases want <;> (rename_i b _; cases b)
      · exact ihx _ _ K K' h r hr
      · exact ihy _ _ K K' h r hr
      · exact ihy _ _ K K' h r hr
      · exact ihx _ _ K K' h r hr
    · exact ihy st _ K K' h r hr
    · cases hr
  | call g ps bs k ih =>
    intro st f K K' h r hr
    simp only [Acc.runL] at hr ⊢
    cases hb : (!st.q || bs.isEmpty) with
    | false => rw [hb] at hr; cases hr
    | true =>
      rw [hb, cond_true, Option.bind_eq_some_iff] at hr
      obtain ⟨x, h1, h2⟩ := hr
      obtain ⟨n, hn⟩ := hc _ _ _ _ h1
      obtain ⟨m, hm⟩ := ih x st f K K' h r h2
      refine ⟨max n m, fun j hj => ?_⟩
      simp only [cond_true]
      rw [show call j g ps bs = some x from hn j (by omega)]
      exact hm j (by omega)

variable (P : Program) (A : Ann) (F : FuncId)
theorem aops_ev (all : Array Oper) (K : Nat → St → Option α) (K' : St → Option α) (h : ∀ st r, K' st = some r → Evn (fun k => K k st) r) : ∀ (os : List Oper) (j : Nat) (st : St) (r : α), aops P A F call' all os j st K' = some r → Evn (fun k => aops P A F (call k) all os j st (K k)) r
  | [], j, st, r, hr => h st r hr
  | o :: os, j, st, r, hr => run_ev hc _ _ (fun k st => aops P A F (call k) all os (j + 1) st (K k)) _ (fun st r hr => aops_ev all K K' h os (j + 1) st r hr) r hr
theorem aopsL_ev (all : Array Oper) (K : Nat → St → List Foot → Option α) (K' : St → List Foot → Option α) (h : ∀ st fs r, K' st fs = some r → Evn (fun k => K k st fs) r) : ∀ (os : List Oper) (j : Nat) (st : St) (fs : List Foot) (r : α), aopsL P A F call' all os j st fs K' = some r → Evn (fun k => aopsL P A F (call k) all os j st fs (K k)) r
  | [], j, st, fs, r, hr => h st fs r hr
  | o :: os, j, st, fs, r, hr => runL_ev hc _ _ _ (fun k st f => aopsL P A F (call k) all os (j + 1) st (f :: fs) (K k)) _ (fun st f r hr => aopsL_ev all K K' h os (j + 1) st _ r hr) r hr
theorem aseq_ev (ops : Array Oper) (draw : Bool) (st : St) (K : Nat → St → Option α) (K' : St → Option α) (h : ∀ st r, K' st = some r → Evn (fun k => K k st) r) (r : α) (hr : aseq P A F call' ops draw st K' = some r) : Evn (fun k => aseq P A F (call k) ops draw st (K k)) r := by
  cases draw with
  | false => exact aops_ev hc P A F ops K K' h _ _ _ _ hr
  | true =>
    simp only [aseq] at hr ⊢
    generalize (P.follows .mixedOrders && ops.toList.zipIdx.all fun x => x.1.after.all fun e => !Region.binds .any e || Nat.blt e.on x.2) = c at hr ⊢
    cases c with
    | false => cases hr
    | true =>
      rw [cond_true] at hr
      simp only [cond_true]
      refine aopsL_ev hc P A F ops (fun k st fs => bif apartAll [] fs (Region.before ops).toList.reverse then K k st else none) _ (fun st fs r hr => ?_) _ _ _ _ _ hr
      generalize apartAll [] fs (Region.before ops).toList.reverse = c at hr ⊢
      cases c with
      | false => cases hr
      | true => exact h st r hr
theorem aregion_ev (ops : Array Oper) (draw : Bool) (st : St) (K : Nat → St → Option α) (K' : St → Option α) (h : ∀ st r, K' st = some r → Evn (fun k => K k st) r) (r : α) (hr : aregion P A F call' ops draw st K' = some r) : Evn (fun k => aregion P A F (call k) ops draw st (K k)) r := by
  unfold aregion at hr ⊢
  split at hr
  · rename_i ds _
    rw [Option.bind_eq_some_iff] at hr
    obtain ⟨ps, h1, h2⟩ := hr
    obtain ⟨n, hn⟩ := aseq_ev hc P A F ops draw _ (fun _ => tellK ds) _ (fun st r h => ⟨0, fun _ _ => h⟩) _ h1
    split at h2
    · rename_i st' e
      obtain ⟨m, hm⟩ := h _ _ h2
      refine ⟨max n m, fun j hj => ?_⟩
      have e1 := hn j (by omega)
      simp only at e1 ⊢
      rw [e1, Option.bind_some, e]
      exact hm j (by omega)
    · cases h2
  · exact aseq_ev hc P A F ops draw _ (fun k st => K k { st with r := st.r + 1 }) _ (fun st r hr => h _ r hr) _ hr
theorem adv_ev (fn : Func) (pts : List TypeId) (R : Nat → List Item → St → Option Res) (R' : List Item → St → Option Res) (hR : ∀ t st r, R' t st = some r → Evn (fun k => R k t st) r) : ∀ (n : Nat) (fst : Bool) (todo : List Item) (st : St) (r : Res), adv P A F fn pts call' R' n fst todo st = some r → Evn (fun k => adv P A F fn pts (call k) (R k) n fst todo st) r := by
  intro n
  induction n with
  | zero => intro fst todo st r h; cases h
  | succ n ih =>
    intro fst todo st r h
    unfold adv at h ⊢
    split at h
    · exact ⟨0, fun _ _ => h⟩
    · exact ⟨0, fun _ _ => h⟩
    · exact ih _ _ _ _ h
    · exact ih _ _ _ _ h
    · exact ih _ _ _ _ h
    · exact ih _ _ _ _ h
    · exact ih _ _ _ _ h
    · split at h
      · split at h
        · rename_i t e
          try simp only [e]
          cases t <;> exact ih _ _ _ _ h
        · cases h
      · rename_i t
        cases t <;> exact ih _ _ _ _ h
      · cases h
    · exact ih _ _ _ _ h
    · exact ih _ _ _ _ h
    · exact ih _ _ _ _ h
    · cases fst with
      | true => exact ih _ _ _ _ h
      | false =>
        simp only [cond_false] at h ⊢
        split at h
        · rename_i e
          try simp only [e]
          split at h
          · rename_i e
            try simp only [e]
            exact hR _ _ _ h
          · cases h
        · rename_i e
          try simp only [e]
          exact ih _ _ _ _ h
    · split at h
      · rename_i e
        try simp only [e]
        exact ih _ _ _ _ h
      · cases h
    · split at h
      · rename_i e
        try simp only [e]
        split at h
        · rename_i e
          try simp only [e]
          exact hR _ _ _ h
        · cases h
      · rename_i e
        try simp only [e]
        exact aregion_ev hc P A F _ _ _ (fun k st => adv P A F fn pts (call k) (R k) n false _ st) _ (fun st r h => ih _ _ _ _ h) _ h
    · cases h
end

/-- one step: of calls, of runs -/
def stepC (P : Program) (A : Ann) (C : CallF) (R : FuncId → List TypeId → List Item → St → Option Res) : CallF := fun f args bs => match A.prim f args bs with
 | some r => some r
 | none => match P.funcs[f]? with
  | some fn => match fn.body, enter P A f fn args bs with
    | some c, some st => adv P A f fn (bs.map (·.1)) C (R f (bs.map (·.1))) 5000 true [.code c] st
    | none, _ => extR P A f fn args bs
    | _, _ => none
  | none => none
def stepR (P : Program) (A : Ann) (C : CallF) (R : FuncId → List TypeId → List Item → St → Option Res) : FuncId → List TypeId → List Item → St → Option Res := fun f pts todo st => match P.funcs[f]? with
  | some fn => adv P A f fn pts C (R f pts) 5000 true todo st
  | none => none

section
variable (P : Program) (A : Ann)
open Classical in
/-- the answer of a call, without depth -/
noncomputable def callW : CallF := fun f ps bs => if h : ∃ r n, callAt P A n f ps bs = some r then some h.choose else none
open Classical in
noncomputable def runW : FuncId → List TypeId → List Item → St → Option Res := fun f pts t st => if h : ∃ r n, runAt P A n f pts t st = some r then some h.choose else none
theorem runAt_mono {n m : Nat} (h : n ≤ m) {f : FuncId} {pts : List TypeId} {t : List Item} {st : St} {r : Res} (hr : runAt P A n f pts t st = some r) : runAt P A m f pts t st = some r := by
  induction h with
  | refl => exact hr
  | step _ ih => exact (lvl_mono P A _).2 f pts t st r ih
theorem callW_iff {f : FuncId} {ps : List PV} {bs : List BX} {r : Res} : callW P A f ps bs = some r ↔ ∃ n, callAt P A n f ps bs = some r := by
  unfold callW
  split
  · rename_i h
    obtain ⟨n, hn⟩ := h.choose_spec
    constructor
    · rintro e; cases e; exact ⟨n, hn⟩
    · rintro ⟨m, hm⟩
      have a := callAt_mono (Nat.le_max_left n m) hn
      have b := callAt_mono (Nat.le_max_right n m) hm
      rw [a] at b; exact b
  · rename_i h
    exact ⟨fun e => (by cases e), fun ⟨n, hn⟩ => absurd ⟨r, n, hn⟩ h⟩
theorem runW_iff {f : FuncId} {pts : List TypeId} {t : List Item} {st : St} {r : Res} : runW P A f pts t st = some r ↔ ∃ n, runAt P A n f pts t st = some r := by
  unfold runW
  split
  · rename_i h
    obtain ⟨n, hn⟩ := h.choose_spec
    constructor
    · rintro e; cases e; exact ⟨n, hn⟩
    · rintro ⟨m, hm⟩
      have a := runAt_mono P A (Nat.le_max_left n m) hn
      have b := runAt_mono P A (Nat.le_max_right n m) hm
      rw [a] at b; exact b
  · rename_i h
    exact ⟨fun e => (by cases e), fun ⟨n, hn⟩ => absurd ⟨r, n, hn⟩ h⟩
theorem callW_ev {f : FuncId} {ps : List PV} {bs : List BX} {r : Res} (h : callW P A f ps bs = some r) : Evn (fun k => callAt P A k f ps bs) r := by
  obtain ⟨n, hn⟩ := (callW_iff P A).1 h
  exact ⟨n, fun k hk => callAt_mono hk hn⟩
theorem runW_ev {f : FuncId} {pts : List TypeId} {t : List Item} {st : St} {r : Res} (h : runW P A f pts t st = some r) : Evn (fun k => runAt P A k f pts t st) r := by
  obtain ⟨n, hn⟩ := (runW_iff P A).1 h
  exact ⟨n, fun k hk => runAt_mono P A hk hn⟩

theorem callW_fix (f : FuncId) (args : List PV) (bs : List BX) : callW P A f args bs = stepC P A (callW P A) (runW P A) f args bs := by
  apply Option.ext
  intro r
  rw [callW_iff]
  constructor
  · rintro ⟨n, hn⟩
    cases n with
    | zero => cases hn
    | succ n =>
      simp only [callAt, lvl] at hn
      unfold stepC
      cases hp : A.prim f args bs with
      | some r' => rw [hp] at hn; simp only at hn ⊢; exact hn
      | none =>
      rw [hp] at hn
      simp only at hn ⊢
      split at hn
      · rename_i fn e
        simp only [e]
        split at hn
        · rename_i e1 e2
          simp only [e1, e2]
          exact adv_mono (call := (lvl P A n).1) (fun f ps bs r h => (callW_iff P A).2 ⟨n, h⟩) P A f fn _ _ _ (fun t st r h => (runW_iff P A).2 ⟨n, h⟩) _ _ _ _ _ hn
        · rename_i e1
          simp only [e1]
          exact hn
        · cases hn
      · cases hn
  · intro h
    unfold stepC at h
    cases hp : A.prim f args bs with
    | some r' =>
      rw [hp] at h
      refine ⟨1, ?_⟩
      simp only [callAt, lvl, hp]
      exact h
    | none =>
    rw [hp] at h
    simp only at h
    split at h
    · rename_i fn e
      split at h
      · rename_i c st e1 e2
        obtain ⟨n, hn⟩ := adv_ev (call := fun k => (lvl P A k).1) (fun f ps bs r h => callW_ev P A h) P A f fn (bs.map (·.1)) (fun k => (lvl P A k).2 f (bs.map (·.1))) (runW P A f (bs.map (·.1))) (fun t st r h => by exact runW_ev P A h) _ _ _ _ _ h
        refine ⟨n + 1, ?_⟩
        have := hn n (Nat.le_refl _)
        simp only [callAt, lvl, hp, e, e1, e2]
        exact this
      · rename_i e1
        refine ⟨1, ?_⟩
        simp only [callAt, lvl, hp, e, e1]
        exact h
      · cases h
    · cases h
theorem runW_fix (f : FuncId) (pts : List TypeId) (t : List Item) (st : St) : runW P A f pts t st = stepR P A (callW P A) (runW P A) f pts t st := by
  apply Option.ext
  intro r
  rw [runW_iff]
  constructor
  · rintro ⟨n, hn⟩
    cases n with
    | zero => cases hn
    | succ n =>
      simp only [runAt, lvl] at hn
      unfold stepR
      split at hn
      · rename_i fn e
        simp only [e]
        exact adv_mono (call := (lvl P A n).1) (fun f ps bs r h => (callW_iff P A).2 ⟨n, h⟩) P A f fn _ _ _ (fun t st r h => (runW_iff P A).2 ⟨n, h⟩) _ _ _ _ _ hn
      · cases hn
  · intro h
    unfold stepR at h
    split at h
    · rename_i fn e
      obtain ⟨n, hn⟩ := adv_ev (call := fun k => (lvl P A k).1) (fun f ps bs r h => callW_ev P A h) P A f fn _ (fun k => (lvl P A k).2 f pts) _ (fun t st r h => runW_ev P A h) _ _ _ _ _ h
      refine ⟨n + 1, ?_⟩
      have := hn n (Nat.le_refl _)
      simp only [runAt, lvl, e]
      exact this
    · cases h

theorem Ans.w {f : FuncId} {ps : List PV} {bs : List BX} {r : Res} (h : Ans (fun k => callAt P A k f ps bs) r) : callW P A f ps bs = some r := (callW_iff P A).2 h.one
theorem Ans.wr {f : FuncId} {pts : List TypeId} {t : List Item} {st : St} {r : Res} (h : Ans (fun k => runAt P A k f pts t st) r) : runW P A f pts t st = some r := (runW_iff P A).2 h.one
theorem ans_of {f : FuncId} {ps : List PV} {bs : List BX} {r : Res} (h : callW P A f ps bs = some r) : Ans (fun k => callAt P A k f ps bs) r := callW_ev P A h
end
end Go.AI
