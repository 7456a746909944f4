/- What the functions of bits answer. -/
import Derived.Test.YtebldidbdhjgjaaU
import Derived.Test.YtebldidbdhjgjaaAiM
set_option linter.unusedVariables false
set_option linter.unusedSimpArgs false
set_option maxRecDepth 100000
namespace Go.AI
open Go Go.Proofs


def rightB (s : List UInt8) (a : Int) : Bool := decide (0 ≤ a) && decide (a ≤ 8 * (s.length : Int))
theorem right_ans {s : List UInt8} (hs : s.length ≤ 2 ^ 40) (a : Int) : Ans (fun k => call k f_bits_right [.s s, .i a] []) ([.b (rightB s a)], []) := by
  refine Ans.succ (fun k => u_bits_right k s a) ?_
  have hs : s.length ≤ 1099511627776 := hs
  rw [wrap64 (n := 8 * (s.length : Int)) (by omega) (by omega)]
  unfold rightB
  by_cases h : 0 ≤ a
  · have h1 : decide (a ≥ 0) = true := by simpa using h
    have h2 : decide (0 ≤ a) = true := by simpa using h
    simp only [h1, h2, cond_true, Option.bind_some, List.getD_cons_zero, PV.toB, Bool.true_and]
    exact .pure _
  · have h1 : decide (a ≥ 0) = false := by simpa using h
    have h2 : decide (0 ≤ a) = false := by simpa using h
    simp only [h1, h2, cond_false, Option.bind_some, List.getD_cons_zero, PV.toB, Bool.false_and]
    exact .pure _

def encF (r : Int × List UInt8 × Int × Int) : Res := ([.i r.1, .s r.2.1, .i r.2.2.1, .i r.2.2.2], [])
end Go.AI
set_option linter.unusedVariables false
set_option linter.unusedSimpArgs false
set_option maxRecDepth 100000
namespace Go.AI
open Go Go.Proofs

theorem rightB_iff {s : List UInt8} {a : Int} : rightB s a = true ↔ 0 ≤ a ∧ a ≤ 8 * (s.length : Int) := by unfold rightB; simp
/-! ### the document's -/
/-- to the next whole byte -/
def alignF (s : List UInt8) (a : Int) : Int := if rightB s a = true then (a + 7) / 8 * 8 else a
theorem align_ans {s : List UInt8} (hs : s.length ≤ 2 ^ 40) (a : Int) : Ans (fun k => call k f_bits_Align [.s s, .i a] []) ([.s s, .i (alignF s a)], []) := by
  refine Ans.succ (fun k => u_bits_Align k s a) ?_
  refine .bind (right_ans hs a) ?_
  simp only [List.getD_cons_zero, PV.toB]
  have hs : s.length ≤ 1099511627776 := hs
  unfold alignF
  refine .ite (fun h => ?_) (fun h => ?_)
  · have hr := rightB_iff.1 h
    rw [if_pos h]
    obtain ⟨a, rfl⟩ := Int.eq_ofNat_of_zero_le hr.1
    refine .pure' ?_
    have e : IntKind.wrap .i64 ((a : Int) + 7) = ((a + 7 : Nat) : Int) := by rw [wrap64 (by omega) (by omega)]; rfl
    rw [e, show (8 : Int) = ((8 : Nat) : Int) from rfl, tdivN, wrap64 (n := (((a + 7) / 8 : Nat) : Int)) (by omega) (by omega), wrap64 (by omega) (by omega)]
    congr 4
  · rw [if_neg (by rw [h]; simp)]; exact .pure _
end Go.AI
set_option linter.unusedVariables false
set_option linter.unusedSimpArgs false
set_option maxRecDepth 100000
namespace Go.AI
open Go Go.Proofs

/-- the next bytes -/
def bytesF (s : List UInt8) (a n : Int) : List UInt8 × List UInt8 × Int × Int :=
  if rightB s a = false ∨ n < 0 then ([], [], 0, 1) else if n > (s.length : Int) - (a + 7) / 8 then ([], [], 0, 2) else ((s.drop ((a + 7) / 8).toNat).take n.toNat, s, 8 * ((a + 7) / 8 + n), 0)
def encB (r : List UInt8 × List UInt8 × Int × Int) : Res := ([.s r.1, .s r.2.1, .i r.2.2.1, .i r.2.2.2], [])
theorem ng2 {b : Bool} {p : Prop} (h1 : b = true) (h2 : ¬ p) : ¬ (b = false ∨ p) := by
  rintro (h | h)
  · rw [h1] at h; cases h
  · exact h2 h
theorem cutL_eq {α : Type} (a n : Nat) (s : List α) : cutL (a : Int) ((a + n : Nat) : Int) s = (s.drop a).take n := by
  unfold cutL
  rw [Int.toNat_natCast, Int.toNat_natCast, List.drop_take]
  congr 1; omega
theorem bytesF_cases (s : List UInt8) (a n : Int) : bytesF s a n = ([], [], 0, 1) ∨ bytesF s a n = ([], [], 0, 2) ∨
    ∃ a' n' : Nat, a = a' ∧ n = n' ∧ a' ≤ 8 * s.length ∧ (a' + 7) / 8 + n' ≤ s.length ∧ bytesF s a n = ((s.drop ((a' + 7) / 8)).take n', s, ((8 * ((a' + 7) / 8 + n') : Nat) : Int), 0) := by
  by_cases h : rightB s a = false ∨ n < 0
  · left; unfold bytesF; rw [if_pos h]
  · have hr : rightB s a = true := by
      cases hb : rightB s a
      · exact absurd (.inl hb) h
      · rfl
    have hr' := rightB_iff.1 hr
    have h3 : ¬ n < 0 := fun e => h (.inr e)
    obtain ⟨a', rfl⟩ := Int.eq_ofNat_of_zero_le hr'.1
    obtain ⟨n', rfl⟩ := Int.eq_ofNat_of_zero_le (by omega : 0 ≤ n)
    by_cases h2 : (n' : Int) > (s.length : Int) - ((a' : Int) + 7) / 8
    · right; left; unfold bytesF; rw [if_neg h, if_pos h2]
    · right; right
      refine ⟨a', n', rfl, rfl, by omega, by omega, ?_⟩
      unfold bytesF; rw [if_neg h, if_neg h2]
      have : (((a' : Int) + 7) / 8).toNat = (a' + 7) / 8 := by omega
      rw [this, Int.toNat_natCast]
      congr 3

theorem bytes_body {s : List UInt8} (hs : s.length ≤ 2 ^ 40) {a n : Int} (h1 : rightB s a = true) (h2 : ¬ n < 0) (hn : n ≤ 9223372036854775807) :
    ∃ p : Nat, p = (a.toNat + 7) / 8 ∧ p ≤ s.length ∧ IntKind.wrap .i64 (Int.tdiv (alignF s a) 8) = (p : Int) ∧ IntKind.wrap .i64 ((s.length : Int) - (p : Int)) = (s.length : Int) - p ∧ (a + 7) / 8 = (p : Int) := by
  have hs : s.length ≤ 1099511627776 := hs
  have hr := rightB_iff.1 h1
  obtain ⟨a, rfl⟩ := Int.eq_ofNat_of_zero_le hr.1
  refine ⟨(a + 7) / 8, rfl, by omega, ?_, wrap64 (by omega) (by omega), by omega⟩
  unfold alignF
  rw [if_pos h1, show ((a : Int) + 7) / 8 * 8 = (((a + 7) / 8 * 8 : Nat) : Int) by omega, show (8 : Int) = ((8 : Nat) : Int) from rfl, tdivN, wrap64 (by omega) (by omega)]
  congr 1; omega

theorem bytes_ans {s : List UInt8} (hs : s.length ≤ 2 ^ 40) (a n : Int) (hn : n ≤ 9223372036854775807) : Ans (fun k => call k f_bits_Bytes [.s s, .i a, .i n] []) (encB (bytesF s a n)) := by
  refine Ans.succ (fun k => u_bits_Bytes k s a n) ?_
  refine Ans.bind (x := [.b (!rightB s a || decide (n < 0))]) (Ans.bind (right_ans hs a) ?_) ?_
  · simp only [List.getD_cons_zero, PV.toB]
    exact .ite (fun h => .pure' (by rw [h]; rfl)) (fun h => .pure' (by rw [h]; rfl))
  · simp only [List.getD_cons_zero, PV.toB]
    refine .ite (fun h => .pure' ?_) (fun h => ?_)
    · have : rightB s a = false ∨ n < 0 := by simpa using h
      unfold bytesF; rw [if_pos this]; rfl
    · simp only [Bool.or_eq_false_iff, Bool.not_eq_false', decide_eq_false_iff_not] at h
      obtain ⟨h1, h2⟩ := h
      refine .bind (align_ans hs a) ?_
      obtain ⟨p, hp, hpl, e1, e2, e3⟩ := bytes_body hs h1 h2 hn
      have hs : s.length ≤ 1099511627776 := hs
      simp only [List.getD_cons_zero, List.getD_cons_succ, PV.toI, e1, e2]
      unfold bytesF
      rw [if_neg (ng2 h1 h2), e3]
      refine .ite (fun h => ?_) (fun h => ?_)
      · rw [if_pos (by simpa using h)]; exact .pure _
      · have h : ¬ (n > (s.length : Int) - p) := by simpa using h
        obtain ⟨n, rfl⟩ := Int.eq_ofNat_of_zero_le (by omega : 0 ≤ n)
        have e4 : IntKind.wrap .i64 ((p : Int) + (n : Int)) = ((p + n : Nat) : Int) := by rw [wrap64 (by omega) (by omega)]; rfl
        rw [if_neg h, e4, cutL_eq, wrap64 (by omega) (by omega)]
        refine .yes (by unfold okB; simp; omega) (.pure' ?_)
        rfl
end Go.AI
set_option linter.unusedVariables false
set_option linter.unusedSimpArgs false
set_option maxRecDepth 100000
namespace Go.AI
open Go Go.Proofs

theorem elemAt_nat (es : List (List PV)) (i : Nat) : elemAt es (i : Int) = es.getD i [] := by unfold elemAt; rw [Int.toNat_natCast]
end Go.AI
set_option linter.unusedVariables false
set_option linter.unusedSimpArgs false
set_option maxRecDepth 100000
namespace Go.AI
open Go Go.Proofs

/-! ### bytes as elements -/
theorem ofBytes_length (s : List UInt8) : (ofBytes s).length = s.length := by simp [ofBytes]
theorem ofBytes_get {s : List UInt8} {i : Nat} (h : i < s.length) : (ofBytes s).getD i [] = [.i (((s.getD i 0).toNat : Nat) : Int)] := by
  simp [ofBytes, List.getD, h]
theorem toBytes_of (s : List UInt8) : toBytes (ofBytes s) = s := by
  unfold toBytes ofBytes
  rw [List.map_map]
  have : ∀ b : UInt8, ((fun e : List PV => UInt8.ofNat (e.getD 0 .u).toI.toNat) ∘ fun b : UInt8 => [PV.i b.toNat]) b = b := fun b => by
    simp [PV.toI]
  rw [List.map_congr_left (g := id) (fun b _ => this b), List.map_id]
theorem ofBytes_set (s : List UInt8) (i : Nat) (b : UInt8) : (ofBytes s).set i [.i ((b.toNat : Nat) : Int)] = ofBytes (s.set i b) := by
  unfold ofBytes; rw [List.map_set]
theorem byte_nat (n : Nat) (h : n < 256) : ((UInt8.ofNat n).toNat : Nat) = n := by simp; omega

end Go.AI
set_option linter.unusedVariables false
set_option linter.unusedSimpArgs false
set_option maxRecDepth 100000
namespace Go.AI
open Go Go.Proofs

def encW (r : List UInt8 × Int × Int) : Res := ([.s r.1, .i r.2.1, .i r.2.2], [])

end Go.AI
set_option linter.unusedVariables false
set_option linter.unusedSimpArgs false
set_option maxRecDepth 100000
namespace Go.AI
open Go Go.Proofs

end Go.AI
set_option linter.unusedVariables false
set_option linter.unusedSimpArgs false
set_option maxRecDepth 100000
namespace Go.AI
open Go Go.Proofs

theorem putBytes_ans {s t : List UInt8} (h : s.length + t.length ≤ 1099511627776) (f : Int) : Ans (fun k => call k f_bits_PutBytes [.s s, .i f, .s t] []) ([.s (s ++ t), .i 0], []) :=
  Ans.succ (fun k => u_bits_PutBytes k s f t) (.yes (by simpa using h) (.pure _))
end Go.AI
set_option linter.unusedVariables false
set_option linter.unusedSimpArgs false
set_option maxRecDepth 100000
namespace Go.AI
open Go Go.Proofs

/-- the number of bytes, the lowest first -/
def littleN : List UInt8 → Nat
  | [] => 0
  | b :: l => b.toNat + 256 * littleN l
theorem littleN_lt : ∀ l : List UInt8, littleN l < 256 ^ l.length
  | [] => by simp [littleN]
  | b :: l => by
    have := littleN_lt l
    have hb : b.toNat < 256 := UInt8.toNat_lt _
    simp only [littleN, List.length_cons, Nat.pow_succ]; omega
def littleF (s : List UInt8) (a n : Int) : Int × List UInt8 × Int × Int :=
  if n < 1 ∨ n > 4 then (0, [], 0, 1) else (((littleN (bytesF s a n).1 : Nat) : Int), (bytesF s a n).2)

theorem little_loop (l : List UInt8) (hl : l.length ≤ 4) (e : Int) (o1 : List UInt8) (o2 : Int) (r1 : List UInt8) (r2 : Int) : ∀ i : Nat, i ≤ l.length →
    Ans (fun k => run k f_bits_Little [] at_bits_Little_L0 (S_bits_Little_L0 l e ((littleN (l.drop i) : Nat) : Int) ((i : Int) - 1) o1 o2 r1 r2)) ([.i ((littleN l : Nat) : Int), .s r1, .i r2, .i e], [])
  | 0, _ => by
    refine Ans.succ (fun k => u_bits_Little_L0 k ..) ?_
    exact .no (by decide) (.pure _)
  | i + 1, h => by
    refine Ans.succ (fun k => u_bits_Little_L0 k ..) ?_
    have e0 : (((i + 1 : Nat) : Int) - 1) = (i : Int) := by omega
    rw [e0]
    have h1 : inB (i : Int) l.length = true := by unfold inB; simp; omega
    have hb : (l.getD i 0).toNat < 256 := UInt8.toNat_lt _
    have e1 : IntKind.wrap .i64 (bt l (i : Int)) = (((l.getD i 0).toNat : Nat) : Int) := by unfold bt; rw [Int.toNat_natCast, wrap64 (by omega) (by omega)]
    have e2 : IntKind.wrap .i64 ((i : Int) - 1) = (i : Int) - 1 := wrap64 (by omega) (by omega)
    have hlt := littleN_lt (l.drop (i + 1))
    have hp : 256 ^ (l.drop (i + 1)).length ≤ 256 ^ 4 := Nat.pow_le_pow_right (by decide) (by rw [List.length_drop]; omega)
    have hp : 256 ^ (l.drop (i + 1)).length ≤ 4294967296 := hp
    have e3 : bitsOp .or .i64 (shl .i64 ((littleN (l.drop (i + 1)) : Nat) : Int) 8) (((l.getD i 0).toNat : Nat) : Int) = ((littleN (l.drop i) : Nat) : Int) := by
      have hd : l.drop i = l.getD i 0 :: l.drop (i + 1) := by
        rw [List.drop_eq_getElem_cons (by omega)]
        simp [List.getD, show i < l.length by omega]
      rw [show (8 : Int) = ((8 : Nat) : Int) from rfl, shl64 (by omega) (by decide), or_add (by omega) (by omega), hd]
      simp only [littleN]
      omega
    rw [e1, e2, e3]
    exact .yes (by simp) (.yes h1 (little_loop l hl e o1 o2 r1 r2 i (by omega)))
theorem bytesF_len {s : List UInt8} {a n : Int} (hn : n ≤ 4) : (bytesF s a n).1.length ≤ 4 := by
  rcases bytesF_cases s a n with h | h | ⟨a', n', rfl, rfl, _, _, h⟩
  · rw [h]; simp
  · rw [h]; simp
  · rw [h]; simp; omega
theorem little_ans {s : List UInt8} (hs : s.length ≤ 2 ^ 40) (a n : Int) : Ans (fun k => call k f_bits_Little [.s s, .i a, .i n] []) (encF (littleF s a n)) := by
  refine Ans.succ (fun k => u_bits_Little k s a n) ?_
  refine Ans.bind (x := [.b (decide (n < 1) || decide (n > 4))]) (.ite (fun h => .pure' (by rw [h]; rfl)) (fun h => .pure' (by rw [h]; rfl))) ?_
  simp only [List.getD_cons_zero, PV.toB]
  unfold littleF
  refine .ite (fun h => ?_) (fun h => ?_)
  · rw [if_pos (by simpa using h)]; exact .pure _
  · have h : ¬ (n < 1 ∨ n > 4) := by simpa using h
    rw [if_neg h]
    refine .bind (bytes_ans hs a n (by omega)) ?_
    simp only [encB, List.getD_cons_zero, List.getD_cons_succ, PV.toI, PV.toS]
    have hl := bytesF_len (s := s) (a := a) (n := n) (by omega)
    have := little_loop (bytesF s a n).1 hl (bytesF s a n).2.2.2 [] 0 (bytesF s a n).2.1 (bytesF s a n).2.2.1 _ (Nat.le_refl _)
    rw [List.drop_length] at this
    rw [wrap64 (by omega) (by omega)]
    exact this
end Go.AI
set_option linter.unusedVariables false
set_option linter.unusedSimpArgs false
set_option maxRecDepth 100000
namespace Go.AI
open Go Go.Proofs

def littleB (v : Nat) : Nat → List UInt8
  | 0 => []
  | n + 1 => littleB v n ++ [UInt8.ofNat (v / 256 ^ n % 256)]
theorem littleB_length (v : Nat) : ∀ n, (littleB v n).length = n
  | 0 => rfl
  | n + 1 => by simp [littleB, littleB_length v n]
theorem byte_shr {v i : Nat} (hv : v < 9223372036854775808) (hi : i ≤ 7) : IntKind.wrap .u8 (shr .i64 (v : Int) ((8 * i : Nat) : Int)) = (((UInt8.ofNat (v / 256 ^ i % 256)).toNat : Nat) : Int) := by
  rw [shrN (by show 8 * i ≤ 64; omega), wrapU8, byte_nat _ (Nat.mod_lt _ (by decide)), show 2 ^ (8 * i) = 256 ^ i by rw [Nat.pow_mul]]
  omega
theorem putLittle_loop {v n : Nat} (hv : v < 9223372036854775808) (hn : n ≤ 4) {s : List UInt8} (hs : s.length ≤ 500000000) (f : Int) (o1 : List UInt8) (o2 : Int) : ∀ j i, i + j = n →
    Ans (fun k => run k f_bits_PutLittle [] at_bits_PutLittle_L0 (S_bits_PutLittle_L0 v n i (ofBytes (littleB v i ++ List.replicate j 0)) s f o1 o2)) ([.s (s ++ littleB v n), .i 0, .i 0], [])
  | 0, i, h => by
    obtain rfl : i = n := h
    refine Ans.succ (fun k => u_bits_PutLittle_L0 k ..) ?_
    rw [toBytes_of]
    simp only [List.replicate_zero, List.append_nil]
    exact .no (by simp) (.bind (putBytes_ans (by rw [littleB_length]; omega) f) (.pure _))
  | j + 1, i, h => by
    refine Ans.succ (fun k => u_bits_PutLittle_L0 k ..) ?_
    have e1 : IntKind.wrap .i64 (8 * (i : Int)) = ((8 * i : Nat) : Int) := by rw [wrap64 (by omega) (by omega)]; rfl
    have e2 : IntKind.wrap .i64 ((i : Int) + 1) = ((i + 1 : Nat) : Int) := by rw [wrap64 (by omega) (by omega)]; rfl
    have hl : (littleB v i ++ List.replicate (j + 1) (0 : UInt8)).length = n := by simp [littleB_length]; omega
    have hg : elemAt (ofBytes (littleB v i ++ List.replicate (j + 1) 0)) (i : Int) = [.i ((0 : Nat) : Int)] := by
      rw [elemAt_nat, ofBytes_get (by omega)]
      simp [List.getD, littleB_length]
    have hi : inB (i : Int) (ofBytes (littleB v i ++ List.replicate (j + 1) 0)).length = true := by rw [ofBytes_length, hl]; unfold inB; simp; omega
    have hset : (ofBytes (littleB v i ++ List.replicate (j + 1) 0)).set i [.i (((UInt8.ofNat (v / 256 ^ i % 256)).toNat : Nat) : Int)] = ofBytes (littleB v (i + 1) ++ List.replicate j 0) := by
      rw [ofBytes_set]
      congr 1
      rw [List.set_append_right _ _ (by rw [littleB_length]; omega), littleB_length, Nat.sub_self]
      simp [littleB, List.replicate_succ]
    rw [e1, e2, byte_shr hv (by omega), hg, Int.toNat_natCast]
    refine .yes (by simp; omega) (.yes (by simp; omega) (.yes hi (.yes hi ?_)))
    rw [show putAt [PV.i ((0 : Nat) : Int)] 0 [PV.i (((UInt8.ofNat (v / 256 ^ i % 256)).toNat : Nat) : Int)] = [PV.i (((UInt8.ofNat (v / 256 ^ i % 256)).toNat : Nat) : Int)] from rfl, hset]
    exact putLittle_loop hv hn hs f o1 o2 j (i + 1) (by omega)

def putLittleF (s : List UInt8) (v n : Int) : List UInt8 × Int × Int :=
  if n < 1 ∨ n > 4 ∨ v < 0 ∨ v ≥ 2 ^ (8 * n.toNat) then ([], 0, 1) else (s ++ littleB v.toNat n.toNat, 0, 0)
theorem shr_zero' {v n : Nat} (hn : n ≤ 62) : (shr .i64 (v : Int) (n : Int) != 0) = decide (v ≥ 2 ^ n) := by
  rw [shrN (by show n ≤ 64; omega)]
  have hpos : 0 < 2 ^ n := Nat.pow_pos (by decide)
  by_cases h : v ≥ 2 ^ n
  · have : 0 < v / 2 ^ n := Nat.div_pos h hpos
    rw [decide_eq_true h]
    simp only [bne_iff_ne, ne_eq]
    omega
  · have : v / 2 ^ n = 0 := Nat.div_eq_of_lt (by omega)
    rw [decide_eq_false h, this]; rfl
theorem putLittle_ans {s : List UInt8} (hs : s.length ≤ 500000000) (f : Int) (v n : Int) (hv : v ≤ 9223372036854775807) : Ans (fun k => call k f_bits_PutLittle [.s s, .i f, .i v, .i n] []) (encW (putLittleF s v n)) := by
  refine Ans.succ (fun k => u_bits_PutLittle k s f v n) ?_
  by_cases hg : n < 1 ∨ n > 4 ∨ v < 0
  · refine .bind (x := [.b true]) ?_ (.yes rfl (.pure' ?_))
    · refine .ite (fun h => .pure _) (fun h => .ite (fun h2 => .pure _) (fun h2 => .ite (fun h3 => .pure _) (fun h3 => ?_)))
      simp only [decide_eq_false_iff_not] at h h2 h3
      omega
    · unfold putLittleF
      rw [if_pos (by rcases hg with h | h | h <;> simp [h])]; rfl
  · simp only [not_or] at hg
    obtain ⟨g1, g2, g3⟩ := hg
    obtain ⟨n, rfl⟩ := Int.eq_ofNat_of_zero_le (by omega : 0 ≤ n)
    obtain ⟨v, rfl⟩ := Int.eq_ofNat_of_zero_le (by omega : 0 ≤ v)
    have e1 : IntKind.wrap .i64 (8 * (n : Int)) = ((8 * n : Nat) : Int) := by rw [wrap64 (by omega) (by omega)]; rfl
    rw [e1]
    refine .bind (x := [.b (decide (v ≥ 2 ^ (8 * n)))]) (.no (by simp; omega) (.no (by simp; omega) (.no (by simp) (.yes (by simp; omega) (.pure' (by rw [shr_zero' (by omega)])))))) ?_
    simp only [List.getD_cons_zero, PV.toB]
    unfold putLittleF
    refine .ite (fun h => .pure' ?_) (fun h => ?_)
    · have h : v ≥ 2 ^ (8 * n) := by simpa using h
      rw [if_pos (.inr (.inr (.inr (by rw [Int.toNat_natCast]; exact_mod_cast h))))]; rfl
    · have h : ¬ v ≥ 2 ^ (8 * n) := by simpa using h
      rw [if_neg (by
        rintro (h | h | h | h)
        · omega
        · omega
        · omega
        · rw [Int.toNat_natCast] at h
          have h' : (2 : Int) ^ (8 * n) ≤ (v : Int) := h
          exact absurd (by exact_mod_cast h') ‹¬ v ≥ 2 ^ (8 * n)›)]
      rw [Int.toNat_natCast, Int.toNat_natCast]
      have er : List.replicate n [PV.i 0] = ofBytes (littleB v 0 ++ List.replicate n 0) := by simp [littleB, ofBytes]
      rw [List.length_replicate, er]
      refine .yes (by simp; omega) ?_
      exact putLittle_loop (by omega) (by omega) hs f [] 0 n 0 (by omega)

end Go.AI
