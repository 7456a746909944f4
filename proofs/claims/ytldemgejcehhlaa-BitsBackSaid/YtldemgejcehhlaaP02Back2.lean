/- Fields that are written, one behind the other, are read back: the law's two loops. -/
import Derived.Test.YtldemgejcehhlaaP02Back
set_option linter.unusedVariables false
set_option linter.unusedSimpArgs false
set_option maxRecDepth 100000
namespace Go.AI
open Go Go.Proofs

theorem step_plain {w : Wt} (hw : WOk w) {x : Fd} (hk : kd x = 0) :
    (∃ w', stepW w x = some w' ∧ putPlainF w.1 w.2 x.2.1 x.2.2 = (w'.1, ((w'.2 : Nat) : Int), 0)) ∨ (putPlainF w.1 w.2 x.2.1 x.2.2).2.2 = 1 := by
  rcases putPlainF_step hw x.2.1 x.2.2 with ⟨w', h1, h2, h3⟩ | ⟨h1, h2⟩
  · left; refine ⟨w', ?_, h3⟩
    unfold stepW; rw [if_pos hk, if_pos h1, h2]
  · exact .inr h2
theorem step_signed {w : Wt} (hw : WOk w) {x : Fd} (hk : kd x = 1) :
    (∃ w', stepW w x = some w' ∧ putSignedF w.1 w.2 x.2.1 x.2.2 = (w'.1, ((w'.2 : Nat) : Int), 0)) ∨ (putSignedF w.1 w.2 x.2.1 x.2.2).2.2 = 1 := by
  unfold putSignedF
  split
  · exact .inr rfl
  · rename_i h
    simp only [not_or] at h
    obtain ⟨h1, h2, h3⟩ := h
    left
    obtain ⟨n, hn⟩ := Int.eq_ofNat_of_zero_le (by omega : 0 ≤ x.2.2)
    have hs := signU_of (v := x.2.1) (n := n) (by omega) (by omega)
    rw [← hn] at hs
    have hst : stepW w x = some (putN (signU x.2.1 x.2.2).toNat x.2.2.toNat w) := by
      unfold stepW; rw [if_neg (by rw [hk]; decide), if_pos hk, if_pos ⟨by omega, by omega, by omega⟩]
    refine ⟨_, hst, ?_⟩
    have e : (if x.2.1 < 0 then x.2.1 + 2 ^ x.2.2.toNat else x.2.1) = signU x.2.1 x.2.2 := rfl
    rw [e]
    have ht : x.2.2.toNat = n := by rw [hn]; exact Int.toNat_natCast n
    rcases putPlainF_step hw (signU x.2.1 x.2.2) x.2.2 with ⟨w', _, g2, g3⟩ | ⟨g1, _⟩
    · rw [g3, g2]
    · exact absurd ⟨by omega, by omega, hs.1, by rw [ht]; exact hs.2.1⟩ g1
theorem step_little {w : Wt} {x : Fd} (hk : kd x = 2) :
    (∃ w', stepW w x = some w' ∧ putLittleF w.1 x.2.1 x.2.2 = (w'.1, ((w'.2 : Nat) : Int), 0)) ∨ (putLittleF w.1 x.2.1 x.2.2).2.2 = 1 := by
  unfold putLittleF
  split
  · exact .inr rfl
  · rename_i h
    simp only [not_or] at h
    obtain ⟨h1, h2, h3, h4⟩ := h
    left
    refine ⟨(w.1 ++ littleB x.2.1.toNat x.2.2.toNat, 0), ?_, rfl⟩
    unfold stepW; rw [if_neg (by rw [hk]; decide), if_neg (by rw [hk]; decide), if_pos hk, if_pos ⟨by omega, by omega, by omega, by omega⟩]
theorem step_align {w : Wt} {x : Fd} (h0 : kd x ≠ 0) (h1 : kd x ≠ 1) (h2 : kd x ≠ 2) : stepW w x = some (w.1, 0) := by
  unfold stepW; rw [if_neg h0, if_neg h1, if_neg h2]

theorem map_get {l : List Fd} {i : Nat} (h : i < l.length) : elemAt (l.map encFd) (i : Int) = encFd (l.getD i (0, 0, 0)) := by
  rw [elemAt_nat]; simp [List.getD, h]

/-- reading -/
theorem read_loop {put : List Fd} {W : Wt} (hW : WOk W) (hl : W.1.length ≤ 50000) (hpl : put.length ≤ 40) : ∀ (rest pre : List Fd) (w : Wt), put = pre ++ rest → WOk w → runW w rest = some W → (∀ x, x ∈ put → I64 x.2.1) →
    Ans (fun k => run k f_celluloidlaw02_BitsBack [] at_celluloidlaw02_BitsBack_L3 (S_celluloidlaw02_BitsBack_L3 put.length pre.length (put.map encFd) W.1 W.2 W.1 (wl w))) ([.b true], [])
  | [], pre, w, hp, hw, hr, _ => by
    cases hr
    refine Ans.succ (fun k => u_celluloidlaw02_BitsBack_L3 k ..) ?_
    obtain ⟨l1, l2⟩ := hw.len
    refine .no (by rw [hp]; simp) (.bind (x := [.b true]) (.bind (align_ans (by omega) _) ?_) (.pure _))
    simp only [List.getD_cons_zero, List.getD_cons_succ, PV.toI]
    rw [align_wl hw (Nat.le_refl _), wrap64 (by omega) (by omega)]
    exact .yes (by simp) (.bind awake02 (.pure _))
  | x :: rest, pre, w, hp, hw, hr, hI => by
    refine Ans.succ (fun k => u_celluloidlaw02_BitsBack_L3 k ..) ?_
    simp only [runW, Option.bind_eq_some_iff] at hr
    obtain ⟨w', h1, h2⟩ := hr
    obtain ⟨hw', hx, _⟩ := stepW_ok hw h1
    obtain ⟨_, he⟩ := runW_ok rest w' W hw' h2
    have hlen : put.length = pre.length + rest.length + 1 := by rw [hp]; simp; omega
    have hget : put.getD pre.length (0, 0, 0) = x := by rw [hp]; simp [List.getD]
    have hs : W.1.length ≤ 2 ^ 40 := Nat.le_trans hl (by decide)
    have e2 : IntKind.wrap .i64 ((pre.length : Int) + 1) = (((pre ++ [x]).length : Nat) : Int) := by rw [wrap64 (by omega) (by omega)]; simp
    have hi : inB (pre.length : Int) (put.map encFd).length = true := by unfold inB; simp; omega
    have hxI : I64 x.2.1 := hI x (by rw [hp]; simp)
    have ih := read_loop hW hl hpl rest (pre ++ [x]) w' (by rw [hp]; simp) hw' h2 hI
    rw [map_get (by omega), hget, e2]
    obtain ⟨k, v, n⟩ := x
    have ek : Int.tmod (IntKind.wrap .u64 ((encFd (k, v, n)).getD 0 .u).toI) 4 = kd (k, v, n) := rfl
    have ev : ((encFd (k, v, n)).getD 1 .u).toI = v := rfl
    have en : ((encFd (k, v, n)).getD 2 .u).toI = n := rfl
    rw [ek, ev, en]
    refine .yes (by simp; omega) (.yes hi (.yes hi (.ite (fun c0 => ?_) (fun c0 => .ite (fun c1 => ?_) (fun c1 => .ite (fun c2 => ?_) (fun c2 => ?_))))))
    · have c0 : kd (k, v, n) = 0 := by simpa using c0
      refine .bind (plain_ans hs _ n) ?_
      rw [read_plain hw h1 he c0]
      simp only [encF, List.getD_cons_zero, List.getD_cons_succ, PV.toI, PV.toS]
      exact .bind (x := [.b false]) (.no (by decide) (.pure' (by simp))) (.no rfl ih)
    · have c1 : kd (k, v, n) = 1 := by simpa using c1
      refine .bind (signed_ans hs _ n) ?_
      rw [read_signed hw h1 he c1]
      simp only [encF, List.getD_cons_zero, List.getD_cons_succ, PV.toI, PV.toS]
      exact .bind (x := [.b false]) (.no (by decide) (.pure' (by simp))) (.no rfl ih)
    · have c2 : kd (k, v, n) = 2 := by simpa using c2
      refine .bind (little_ans hs _ n) ?_
      rw [read_little hw h1 he c2]
      simp only [encF, List.getD_cons_zero, List.getD_cons_succ, PV.toI, PV.toS]
      exact .bind (x := [.b false]) (.no (by decide) (.pure' (by simp))) (.no rfl ih)
    · have c0 : kd (k, v, n) ≠ 0 := by simpa using c0
      have c1 : kd (k, v, n) ≠ 1 := by simpa using c1
      have c2 : kd (k, v, n) ≠ 2 := by simpa using c2
      refine .bind (align_ans hs _) ?_
      rw [read_align hw h1 he c0 c1 c2]
      simp only [List.getD_cons_zero, List.getD_cons_succ, PV.toI, PV.toS]
      exact .no (by simp) ih

/-- writing -/
theorem write_loop {l : List Fd} (hI : ∀ x, x ∈ l → I64 x.2.1) (hll : l.length ≤ 9223372036854775807) : ∀ (j i : Nat) (put : List Fd) (w : Wt), i + j = min l.length 40 → runW ([], 0) put = some w → WOk w → w.1.length ≤ 31 * i → put.length ≤ i → (∀ x, x ∈ put → I64 x.2.1) →
    Ans (fun k => run k f_celluloidlaw02_BitsBack [] at_celluloidlaw02_BitsBack_L0 (S_celluloidlaw02_BitsBack_L0 (l.map encFd) i (put.map encFd) w.1 w.2)) ([.b true], [])
  | 0, i, put, w, hj, hr, hw, hwl, hpl, hp => by
    refine Ans.succ (fun k => u_celluloidlaw02_BitsBack_L0 k ..) ?_
    refine .bind (x := [.b false]) ?_ (.no rfl ?_)
    · refine .ite (fun h => .pure' ?_) (fun h => .pure _)
      simp only [List.length_map, decide_eq_true_eq] at h
      have : ¬ ((i : Int) < 40) := by omega
      simp [this]
    · have := read_loop hw (by omega) (by omega) put [] ([], 0) (by simp) (ok_zero _) hr hp
      rw [List.length_map]
      exact this
  | j + 1, i, put, w, hj, hr, hw, hwl, hpl, hp => by
    refine Ans.succ (fun k => u_celluloidlaw02_BitsBack_L0 k ..) ?_
    refine .bind (x := [.b true]) (.yes (by simp; omega) (.pure' (by simp; omega))) (.yes rfl ?_)
    have hi : inB (i : Int) (l.map encFd).length = true := by unfold inB; simp; omega
    have e2 : IntKind.wrap .i64 ((i : Int) + 1) = ((i + 1 : Nat) : Int) := by rw [wrap64 (by omega) (by omega)]; rfl
    rw [map_get (by omega), e2]
    obtain ⟨x, hx⟩ : ∃ x, x = l.getD i (0, 0, 0) := ⟨_, rfl⟩
    have hxl : x ∈ l := by
      have : l.getD i (0, 0, 0) = l[i]'(by omega) := by simp [List.getD, show i < l.length by omega]
      rw [hx, this]; exact List.getElem_mem _
    rw [← hx]
    have hxI := hI x hxl
    have ek : Int.tmod (IntKind.wrap .u64 ((encFd x).getD 0 .u).toI) 4 = kd x := rfl
    have ev : ((encFd x).getD 1 .u).toI = x.2.1 := rfl
    have en : ((encFd x).getD 2 .u).toI = x.2.2 := rfl
    have e0 : ((encFd x).getD 0 .u).toI = x.1 := rfl
    rw [ek, ev, en, e0]
    have hap : put.map encFd ++ List.set [[PV.i 0, PV.i 0, PV.i 0]] 0 [PV.i x.1, PV.i x.2.1, PV.i x.2.2] = (put ++ [x]).map encFd := by simp [encFd]
    have hsz : decide ((((put.map encFd).length + (List.set [[PV.i 0, PV.i 0, PV.i 0]] 0 [PV.i x.1, PV.i x.2.1, PV.i x.2.2]).length + 1000) * 25) ≤ 1099511627776) = true := by simp; omega
    have yes : ∀ w', stepW w x = some w' → Ans (fun k => run k f_celluloidlaw02_BitsBack [] at_celluloidlaw02_BitsBack_L0 (S_celluloidlaw02_BitsBack_L0 (l.map encFd) ((i + 1 : Nat) : Int) ((put ++ [x]).map encFd) w'.1 w'.2)) ([.b true], []) := fun w' h => by
      obtain ⟨a, b, c⟩ := stepW_ok hw h
      exact write_loop hI hll j (i + 1) (put ++ [x]) w' (by omega) (by rw [runW_snoc, hr]; exact h) a (by omega) (by simp; omega) (fun y hy => by
        rcases List.mem_append.1 hy with hy | hy
        · exact hp y hy
        · rw [List.mem_singleton.1 hy]; exact hxI)
    have no : Ans (fun k => run k f_celluloidlaw02_BitsBack [] at_celluloidlaw02_BitsBack_L0 (S_celluloidlaw02_BitsBack_L0 (l.map encFd) ((i + 1 : Nat) : Int) (put.map encFd) w.1 w.2)) ([.b true], []) :=
      write_loop hI hll j (i + 1) put w (by omega) hr hw (by omega) (by omega) hp
    rw [hap]
    refine .yes hi (.ite (fun c0 => .yes hi (.yes hi ?_)) (fun c0 => .ite (fun c1 => .yes hi (.yes hi ?_)) (fun c1 => .ite (fun c2 => .yes hi (.yes hi ?_)) (fun c2 => ?_))))
    · have c0 : kd x = 0 := by simpa using c0
      refine .bind (putPlain_ans (by omega) w.2 x.2.1 x.2.2 hxI.2) ?_
      rcases step_plain hw c0 with ⟨w', s1, s2⟩ | s2
      · rw [s2]
        simp only [encW, List.getD_cons_zero, List.getD_cons_succ, PV.toI, PV.toS]
        exact .yes (by decide) (.yes hi (.yes hsz (yes w' s1)))
      · simp only [encW, List.getD_cons_zero, List.getD_cons_succ, PV.toI, PV.toS]
        rw [s2]
        exact .no (by decide) no
    · have c1 : kd x = 1 := by simpa using c1
      refine .bind (putSigned_ans (by omega) w.2 x.2.1 x.2.2 hxI) ?_
      rcases step_signed hw c1 with ⟨w', s1, s2⟩ | s2
      · rw [s2]
        simp only [encW, List.getD_cons_zero, List.getD_cons_succ, PV.toI, PV.toS]
        exact .yes (by decide) (.yes hi (.yes hsz (yes w' s1)))
      · simp only [encW, List.getD_cons_zero, List.getD_cons_succ, PV.toI, PV.toS]
        rw [s2]
        exact .no (by decide) no
    · have c2 : kd x = 2 := by simpa using c2
      refine .bind (putLittle_ans (by omega) w.2 x.2.1 x.2.2 hxI.2) ?_
      rcases step_little (w := w) c2 with ⟨w', s1, s2⟩ | s2
      · rw [s2]
        simp only [encW, List.getD_cons_zero, List.getD_cons_succ, PV.toI, PV.toS]
        exact .yes (by decide) (.yes hi (.yes hsz (yes w' s1)))
      · simp only [encW, List.getD_cons_zero, List.getD_cons_succ, PV.toI, PV.toS]
        rw [s2]
        exact .no (by decide) no
    · have c0 : kd x ≠ 0 := by simpa using c0
      have c1 : kd x ≠ 1 := by simpa using c1
      have c2 : kd x ≠ 2 := by simpa using c2
      refine .bind (putAlign_ans w.1 w.2) ?_
      simp only [List.getD_cons_zero, List.getD_cons_succ, PV.toI, PV.toS]
      exact .yes hi (.yes hsz (yes _ (step_align c0 c1 c2)))
theorem BitsBack_ans (l : List Fd) (hI : ∀ x, x ∈ l → I64 x.2.1) (hll : l.length ≤ 9223372036854775807) : Ans (fun k => call k f_celluloidlaw02_BitsBack [.l (l.map encFd)] []) ([.b true], []) :=
  Ans.succ (fun k => u_celluloidlaw02_BitsBack k _) (write_loop hI hll (min l.length 40) 0 [] ([], 0) (by omega) rfl (ok_zero _) (by simp) (by simp) (fun x hx => by cases hx))
end Go.AI
