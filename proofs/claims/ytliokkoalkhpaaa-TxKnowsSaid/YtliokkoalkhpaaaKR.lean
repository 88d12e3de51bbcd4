/-
  Layer 3 (row): which rows may stand in which columns.
-/
import Derived.Test.YtliokkoalkhpaaaK
namespace Go.Proofs.Ytliokkoalkhpaaa
open Go.RowKit Go.Sort Go.BigFrame

def colsCs (l : List Col) : List Value := l.flatMap Col.cs

theorem colsCs_length (l : List Col) : (colsCs l).length = l.length * 4 := by
  induction l with
  | nil => rfl
  | cons a l ih =>
    have : colsCs (a :: l) = a.cs ++ colsCs l := rfl
    rw [this, List.length_append, ih, List.length_cons]
    simp [Col.cs]; omega

theorem colsCs_at (l : List Col) (k : Nat) (hk : k < l.length) : (colsCs l)[k * 4]? = some (.string l[k].nm) ∧ (colsCs l)[k * 4 + 1]? = some (.int .i64 l[k].kd) ∧ (colsCs l)[k * 4 + 2]? = some (.int .i64 l[k].ty) ∧ (colsCs l)[k * 4 + 3]? = some (.bool l[k].nl) := by
  induction l generalizing k with
  | nil => cases hk
  | cons a l ih =>
    have he : colsCs (a :: l) = a.cs ++ colsCs l := rfl
    have hc : a.cs.length = 4 := rfl
    cases k with
    | zero => exact ⟨rfl, rfl, rfl, rfl⟩
    | succ k =>
      have := ih k (by simpa using hk)
      rw [he]
      refine ⟨?_, ?_, ?_, ?_⟩
      · rw [List.getElem?_append_right (by omega)]; rw [show (k + 1) * 4 - a.cs.length = k * 4 by omega]; exact this.1
      · rw [List.getElem?_append_right (by omega)]; rw [show (k + 1) * 4 + 1 - a.cs.length = k * 4 + 1 by omega]; exact this.2.1
      · rw [List.getElem?_append_right (by omega)]; rw [show (k + 1) * 4 + 2 - a.cs.length = k * 4 + 2 by omega]; exact this.2.2.1
      · rw [List.getElem?_append_right (by omega)]; rw [show (k + 1) * 4 + 3 - a.cs.length = k * 4 + 3 by omega]; exact this.2.2.2

theorem elC : El Try.prog 57 56 4 40 (.agg #[.string ⟨#[]⟩, .int .i64 0, .int .i64 0, .bool false]) := El.mk' (by kernel_rfl) (by kernel_rfl) rfl (by decide)

/-- The place of a column. -/
theorem rd_col {w : World} {ao : Option Addr} {n c : Nat} {l : List Col} (h : Rd w (.slice ao n c) n (colsCs l)) (hl : n = l.length) (k : Nat) (hk : k < l.length) :
    ∃ b o : Nat, (∀ W, (Instr.indexAt 57 (.slice ao n c) (.int .i64 (k : Int))).run Try.prog W = .ok (.pointer (some ⟨b, o, none⟩)) W) ∧ w.cell? ⟨b, o, none⟩ = some (.string l[k].nm) ∧ w.cell? ⟨b, o + 1, none⟩ = some (.int .i64 l[k].kd) ∧ w.cell? ⟨b, o + 2, none⟩ = some (.int .i64 l[k].ty) ∧ w.cell? ⟨b, o + 3, none⟩ = some (.bool l[k].nl) ∧ b < w.heap.size := by
  subst hl
  obtain ⟨A, hA, _, hlt, hc⟩ := h.elem 4 k hk (colsCs_length l) (by decide)
  obtain ⟨r0, r1, r2, r3⟩ := colsCs_at l k hk
  obtain ⟨u0, hu0, hc0⟩ := hc 0 (by decide)
  obtain ⟨u1, hu1, hc1⟩ := hc 1 (by decide)
  obtain ⟨u2, hu2, hc2⟩ := hc 2 (by decide)
  obtain ⟨u3, hu3, hc3⟩ := hc 3 (by decide)
  rw [Nat.add_zero, r0] at hu0
  rw [r1] at hu1
  rw [r2] at hu2
  rw [r3] at hu3
  cases hu0
  cases hu1
  cases hu2
  cases hu3
  obtain ⟨b, o, s⟩ := A
  have hs : s = none := World.cell?_spot hc0
  subst hs
  exact ⟨b, o, fun W => run_indexAt_at elC hA hk W, hc0, hc1, hc2, hc3, hlt⟩

theorem firstC_step {l : List Col} {m : List Val} {k : Nat} (hk : k < l.length) (hk' : k < m.length) (h : firstC l m = firstC (l.drop k) (m.drop k)) :
    firstC l m = if checkC l[k] m[k] = 0 then firstC (l.drop (k + 1)) (m.drop (k + 1)) else checkC l[k] m[k] := by
  rw [h, List.drop_eq_getElem_cons hk, List.drop_eq_getElem_cons hk']; rfl

theorem firstC_end {l : List Col} {m : List Val} {k : Nat} (hk : k = m.length) (h : firstC l m = firstC (l.drop k) (m.drop k)) : firstC l m = 0 := by
  rw [h, hk, List.drop_length]
  cases l.drop m.length <;> rfl

set_option maxRecDepth 100000 in
set_option maxHeartbeats 800000 in
theorem rightR_any (vc vr : Value) (l : List Col) (m : List Val) (w : World) (ha : Rd w vc l.length (colsCs l)) (hb : Rd w vr m.length (rowCs m)) :
    Calls Try.prog 91 #[vc, vr] w fun e w' => e = .returned (.int .i64 (rightR l m)) ∧ Below w.heap.size w w' := by
  obtain ⟨aa, ca, rfl, hna, hma, _, _⟩ := id ha
  obtain ⟨ab, cb, rfl, hnb, hmb, _, _⟩ := id hb
  unfold maxLen at hma hmb
  have HA := Lib.hid ha
  have HB := Lib.hid hb
  clear ha hb
  by_cases hl : l.length = m.length
  · have hl' : ((l.length : Int) != (m.length : Int)) = false := by simp [hl]
    have HL := Lib.hid hl
    have HQ := Lib.hid (show rightR l m = firstC l m by unfold rightR; rw [if_pos hl])
    have hle : m.length ≤ l.length := by omega
    clear hl
    go_enter Try.func91, Try.ntmps91
    go_wp2
    go_loopw [15] (fun i wr => ∃ k : Nat, k ≤ m.length ∧ i = .int .i64 k ∧ Hid (firstC l m = firstC (l.drop k) (m.drop k)) ∧ Below w.heap.size w wr) (fun i _ => m.length - (intOf i).toNat)
    case atStart => exact ⟨0, Nat.zero_le _, rfl, rfl, Below.refl _ _⟩
    case round =>
      obtain ⟨k, hk, rfl, htk, hbw⟩ := hrel
      rename World => wr
      by_cases hlt : k < m.length
      · have hlt' : k < l.length := by omega
        obtain ⟨b1, o1, hi1, c0, c1, c2, c3, _⟩ := rd_col ((HA.out.later hbw).later (below_alloc wr (.cells #[.int .i64 m[k].k, .int .i64 m[k].n, .string m[k].s] 87))) rfl k hlt'
        obtain ⟨b2, o2, hi2, e0, e1, e2, _⟩ := rd_val (HB.out.later hbw) rfl k hlt
        have hst := Lib.hid (firstC_step hlt' hlt htk.out)
        obtain ⟨q, hq⟩ : ∃ q, checkC l[k] m[k] = q := ⟨_, rfl⟩
        rw [hq] at hst
        have HC := Lib.hid hq
        clear hq
        have d0 : (wr.alloc (.cells #[.int .i64 m[k].k, .int .i64 m[k].n, .string m[k].s] 87)).cell? ⟨wr.heap.size, 0, none⟩ = some (.int .i64 m[k].k) := by simp [go_sem]
        have d1 : (wr.alloc (.cells #[.int .i64 m[k].k, .int .i64 m[k].n, .string m[k].s] 87)).cell? ⟨wr.heap.size, 1, none⟩ = some (.int .i64 m[k].n) := by simp [go_sem]
        have d2 : (wr.alloc (.cells #[.int .i64 m[k].k, .int .i64 m[k].n, .string m[k].s] 87)).cell? ⟨wr.heap.size, 2, none⟩ = some (.string m[k].s) := by simp [go_sem]
        have HB1 := Lib.hid (below_then hbw (below_alloc wr (.cells #[.int .i64 m[k].k, .int .i64 m[k].n, .string m[k].s] 87)))
        go_wp2_with fail
        clear hbw e0 e1 e2 hi2
        generalize wr.alloc (.cells #[.int .i64 m[k].k, .int .i64 m[k].n, .string m[k].s] 87) = w1 at *
        have cS : ∀ d os, Calls Try.prog 98 #[.agg #[.string l[k].nm, .int .i64 l[k].kd, .int .i64 l[k].ty, .bool l[k].nl], .agg #[.int .i64 m[k].k, .int .i64 m[k].n, .string m[k].s]] (grow (redrawn w1 d) os) fun e w'' => e = .returned (.int .i64 (checkC l[k] m[k])) ∧ ∃ p : Regrown, w'' = grow (redrawn w1 p.d) p.os := fun d os => Calls.regrown_of (check_any _ _ _ _ _ _ _ _)
        rw [HC.out] at cS
        have kc0 := cell_regrown c0
        have kc1 := cell_regrown c1
        have kc2 := cell_regrown c2
        have kc3 := cell_regrown c3
        have kd0 := cell_regrown d0
        have kd1 := cell_regrown d1
        have kd2 := cell_regrown d2
        refine wp_region_quiet_below (by kernel_rfl) (by kernel_rfl) ?_
        repeat (go_big_quiet_step (first | exact cS _ _))
        refine wpQuiet_nil ?_
        intro _ hw'
        obtain ⟨⟨dq, osq⟩, hw''⟩ := hw'
        subst hw''
        clear kc0 kc1 kc2 kc3 kd0 kd1 kd2 cS
        have hb2 := below_regrown w1 dq osq
        generalize grow (redrawn w1 dq) osq = w2 at *
        replace c0 := cell_later hb2 c0
        replace c1 := cell_later hb2 c1
        replace c2 := cell_later hb2 c2
        replace c3 := cell_later hb2 c3
        replace d0 := cell_later hb2 d0
        replace d1 := cell_later hb2 d1
        replace d2 := cell_later hb2 d2
        by_cases h0 : q = 0
        · have hq0 : (q != 0) = false := by rw [bne_eq_false_iff_eq]; exact h0
          have HN : Hid (firstC l m = firstC (l.drop (k + 1)) (m.drop (k + 1))) := by have := hst.out; rwa [if_pos h0] at this
          clear h0
          go_wp2_with fail
          go_roundw
          case rel => exact ⟨k + 1, by omega, by go_num, HN.out, below_then HB1.out hb2⟩
          case measure => simp [intOf]; omega
        · have hq0 : (q != 0) = true := by rw [bne_iff_ne]; exact h0
          have HN : Hid (firstC l m = q) := by have := hst.out; rwa [if_neg h0] at this
          clear h0
          go_wp2_with fail
          go_ret
          rw [HQ.out, HN.out]
          exact ⟨rfl, below_then HB1.out hb2⟩
      · have HN := Lib.hid (firstC_end (show k = m.length by omega) htk.out)
        go_wp2_with fail
        go_ret
        rw [HQ.out, HN.out]
        exact ⟨rfl, hbw⟩
  · have hl' : ((l.length : Int) != (m.length : Int)) = true := by simp; omega
    have HQ := Lib.hid (show rightR l m = 1 by unfold rightR; rw [if_neg hl])
    clear hl
    go_enter Try.func91, Try.ntmps91
    go_wp2
    go_ret
    rw [HQ.out]
    exact ⟨rfl, Below.refl _ _⟩

end Go.Proofs.Ytliokkoalkhpaaa
