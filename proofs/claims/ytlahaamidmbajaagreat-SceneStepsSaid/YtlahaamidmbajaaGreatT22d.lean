/- What stands at the depths while tags are done: a map of items. -/
import Derived.Test.YtlahaamidmbajaaGreatT22e
set_option linter.unusedVariables false
set_option linter.unusedSimpArgs false
namespace Go.AI
open Go Go.RowKit Go.Proofs Go.Maps
/-- an item -/
def itV (x : Nat → Int) : Value := .agg #[.int .i64 (x 0), .int .i64 (x 1), .int .i64 (x 2), .int .i64 (x 3), .int .i64 (x 4), .int .i64 (x 5), .int .i64 (x 6), .int .i64 (x 7), .int .i64 (x 8), .int .i64 (x 9), .int .i64 (x 10), .int .i64 (x 11), .int .i64 (x 12), .int .i64 (x 13), .int .i64 (x 14), .int .i64 (x 15), .int .i64 (x 16), .int .i64 (x 17), .int .i64 (x 18)]
def itD : DataW Value → Nat → Int
  | .held (.agg cs) => fun j => match cs[j]? with | some (.int _ n) => n | _ => 0
  | _ => fun _ => 0
theorem itV_it (x : Nat → Int) : itV (itD (.held (itV x))) = itV x := by simp [itV, itD]
open Classical in
/-- how an item reads: as it is -/
noncomputable def itR (v : Value) : Option (DataW Value × List MemPlace) := if v = itV (itD (.held v)) then some (.held v, []) else none
theorem itR_it (x : Nat → Int) : itR (itV x) = some (.held (itV x), []) := by
  unfold itR
  rw [itV_it, if_pos rfl]
theorem itR_inv {v : Value} {y : DataW Value × List MemPlace} (h : itR v = some y) : v = itV (itD y.1) ∧ y = (.held v, []) := by
  unfold itR at h
  split at h
  · rename_i hv
    cases h
    exact ⟨hv, rfl⟩
  · cases h
theorem keyed3 : Keyed Tryz.prog 3 := int_keyed Tryz.underlying3
def lookI (D : DataW Value) (n : Int) : Nat → Int := itD (D.atKey (.int .i64 n) (.held (itV fun _ => 0)))
section
variable (w : World) {ops : Array Oper} {rest : List Oper} {o : Oper} {a : Act} {Q : Exit → Act → World → Prop}
theorem lookup_it (hg : o.guard = none) (m x : Operand) (hop : o.op = Op.lookup 101 m x true) (b n : Nat) (D : DataW Value)
    (hm : a.eval m = .map (some b)) (hown : w.ownsMap Tryz.prog 3 itR b n D) (q : Int) (hx : a.eval x = .int .i64 q) (hw : (Lit.int .i64 q).wf = true)
    (hK : wpList Tryz.prog ops Q rest (a.put o.dst (.tuple #[.agg (itL (lookI D q)).toArray, .bool (Maps.has D (.int .i64 q))])) w) :
    wpList Tryz.prog ops Q (o :: rest) a w :=
  wpList_lookup_own_ok w hg m x 101 hop 3 82 keyed3 Tryz.underlying101 itR (Tryz.zeroValue82 w) (.held (itV fun _ => 0)) [] (itR_it fun _ => 0) b n D hm hown _ _ hx (keyOf_int_mk Tryz.underlying3 hw) (fun v ps hv => by
    have := (itR_inv hv).1
    rw [this]
    exact hK)
theorem lookI_of {D : DataW Value} {x : Int} {y : DataW Value × List MemPlace} (h : ∀ zd, D.atKey (.int .i64 x) zd = y.1) : lookI D x = itD y.1 := by unfold lookI; rw [h]
theorem has_of {D : DataW Value} {kl : Lit} {y : DataW Value} (h : ∀ zd, D.atKey kl zd = y) : Maps.has D kl = true := by
  cases hb : Maps.has D kl with
  | true => rfl
  | false =>
    have key : ∀ zd, D.atKey kl zd = zd := fun zd => by
      unfold DataW.atKey
      split
      · rename_i es
        rw [Maps.has_eq, List.any_eq_false] at hb
        rw [List.find?_eq_none.2 hb]
      · rfl
    have h1 := (key (.lit (.bool true))).symm.trans (h _)
    have h2 := (key .nil).symm.trans (h _)
    rw [← h2] at h1
    cases h1
theorem next_it (hg : o.guard = none) (it : Operand) (hop : o.op = Op.next it false) (b r n : Nat) (D : DataW Value) (left : Lit → Bool) (cnt : Nat)
    (hit : a.eval it = .pointer (some ⟨r, 0, none⟩)) (h : w.ranges Tryz.prog 3 itR b r n D left cnt)
    (hDone : cnt = 0 → (∀ kl, left kl = false) → wpList Tryz.prog ops Q rest (a.put o.dst (.tuple #[.bool false])) w)
    (hMore : ∀ (x : Int) (w' : World) (cnt' : Nat), left (.int .i64 x) = true → Maps.has D (.int .i64 x) = true → w'.ranges Tryz.prog 3 itR b r n D (fun z => left z && !z.sameKey (.int .i64 x)) cnt' → cnt' < cnt →
      w.grownBy w' (some r) → w'.heap.size = w.heap.size → (Instr.entry (.pointer (some ⟨r, 0, none⟩))).run Tryz.prog w' = .ok (.tuple #[.int .i64 x, .agg (itL (lookI D x)).toArray]) w' → wpList Tryz.prog ops Q rest (a.put o.dst (.tuple #[.bool true, .int .i64 x, .agg (itL (lookI D x)).toArray])) w') :
    wpList Tryz.prog ops Q (o :: rest) a w :=
  wpList_next_ranges w hg it hop 3 keyed3 itR (Value.int .i64) itV (fun key kl hkey => by obtain ⟨x, rfl, _⟩ := Maps.keyOf_int_inv Tryz.underlying3 hkey; exact ⟨x, rfl⟩) (fun v y hv => ⟨_, (itR_inv hv).1⟩) b r n D left cnt hit h hDone
    (fun x c kl y w' cnt' hkey hlk hv hat hrg hlt hgr hsz hen => by
      obtain ⟨x', ex, rfl, hwx⟩ := Maps.keyOf_int_inv Tryz.underlying3 hkey
      cases ex
      have e : itV c = itV (lookI D x) := by rw [lookI_of hat]; exact (itR_inv hv).1
      rw [e] at hen ⊢
      exact hMore x w' cnt' hlk (has_of hat) hrg hlt hgr hsz hen)
end
theorem leaves80 : leaves Tryz.prog 80 = some ((leaves Tryz.prog 80).getD []) := by kernel_rfl
theorem leaves82 : leaves Tryz.prog 82 = some (List.replicate 19 (.int .i64)) := by kernel_rfl
theorem leaves66 : leaves Tryz.prog 66 = some (List.replicate 19 (.int .i64)) := by kernel_rfl
theorem leaves80_length : ((leaves Tryz.prog 80).getD []).length = 55 := by kernel_rfl
/-- a tag is done: what stands at the depths, and how many shows there were -/
def stepF (placeF : (Nat → Int) → Bool → (Nat → Int) → Int → (Nat → Int) × Bool) (kd dp : Int) (pl : Nat → Int) (s : DataW Value × Int) : DataW Value × Int :=
  if kd = 1 then (s.1, Go.RowKit.wrap64 (s.2 + 1)) else if kd = 28 then (s.1.del (.int .i64 dp), s.2) else
  if kd = 26 then
    (if (placeF (lookI s.1 (pl 1)) (Maps.has s.1 (.int .i64 (pl 1))) pl s.2).2 = true then
      (s.1.put (.int .i64 (pl 1)) (.held (itV (placeF (lookI s.1 (pl 1)) (Maps.has s.1 (.int .i64 (pl 1))) pl s.2).1)), s.2) else s) else s
def stF (placeF : (Nat → Int) → Bool → (Nat → Int) → Int → (Nat → Int) × Bool) (kd dp : Nat → Int) (pl : Nat → Nat → Int) : Nat → DataW Value × Int
  | 0 => (.map [], 0)
  | k + 1 => stepF placeF (kd k) (dp k) (pl k) (stF placeF kd dp pl k)
theorem wrapN {k n : Nat} (h : k < n) (hn : n < maxLen) : Go.RowKit.wrap64 ((k : Int) + 1) = ((k + 1 : Nat) : Int) := by
  unfold maxLen at hn
  unfold Go.RowKit.wrap64
  omega
theorem intOfN (n k : Nat) : n - (intOf (.int .i64 (k : Int))).toNat = n - k := by simp [intOf]
end Go.AI
