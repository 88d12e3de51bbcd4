/-
  Layer 3 (row): rows' order, walks.
-/
import Derived.Test.YtnolbabpkhdpmaaGreatR
import Derived.BigQuiet
namespace Go.Proofs.YtnolbabpkhdpmaaGreat
open Go.RowKit Go.Sort Go.BigFrame

abbrev sameR (l m : List Val) : Bool := decide (l = m)

theorem sameR_stop {l m : List Val} {k : Nat} (hk : k < l.length) (hk' : k < m.length) (hs : sameV l[k] m[k] = false) : sameR l m = false := by
  rw [decide_eq_false_iff_not]
  rintro rfl
  rw [sameV_self] at hs; cases hs

set_option maxRecDepth 100000 in
set_option maxHeartbeats 400000 in
theorem refSameR_any (va vb : Value) (l m : List Val) (w : World) (ha : Rd w va l.length (rowCs l)) (hb : Rd w vb m.length (rowCs m)) :
    Calls Tryz.prog 89 #[va, vb] w fun e w' => e = .returned (.bool (sameR l m)) ∧ Below w.heap.size w w' := by
  obtain ⟨aa, ca, rfl, hna, hma, _, _⟩ := id ha
  obtain ⟨ab, cb, rfl, hnb, hmb, _, _⟩ := id hb
  unfold maxLen at hma hmb
  have HA := Lib.hid ha
  have HB := Lib.hid hb
  clear ha hb
  by_cases hl : l.length = m.length
  · have hl' : ((l.length : Int) != (m.length : Int)) = false := by simp [hl]
    have HL := Lib.hid hl
    have hle : l.length ≤ m.length := by omega
    clear hl
    go_enter Tryz.func89, Tryz.ntmps89
    go_wp2
    go_loopw [5] (fun i wr => ∃ k : Nat, k ≤ l.length ∧ i = .int .i64 k ∧ Hid (l.take k = m.take k) ∧ Below w.heap.size w wr) (fun i _ => l.length - (intOf i).toNat)
    case atStart => exact ⟨0, Nat.zero_le _, rfl, rfl, Below.refl _ _⟩
    case round =>
      obtain ⟨k, hk, rfl, htk, hbw⟩ := hrel
      rename World => wr
      by_cases hlt : k < l.length
      · have hlt' : k < m.length := by omega
        obtain ⟨b1, o1, hi1, c0, c1, c2, _⟩ := rd_val (HA.out.later hbw) rfl k hlt
        obtain ⟨b2, o2, hi2, d0, d1, d2, _⟩ := rd_val (HB.out.later hbw) rfl k hlt'
        have HBW := Lib.hid hbw
        clear hbw
        have cS : ∀ d os, Calls Tryz.prog 104 #[.agg #[.int .i64 l[k].k, .int .i64 l[k].n, .string l[k].s], .agg #[.int .i64 m[k].k, .int .i64 m[k].n, .string m[k].s]] (grow (redrawn wr d) os) fun e w'' => e = .returned (.bool (sameV l[k] m[k])) ∧ ∃ p : Regrown, w'' = grow (redrawn wr p.d) p.os := fun d os => Calls.regrown_of (refSameV_any _ _ _ _ _ _ _)
        cases hs : sameV l[k] m[k]
        · have HS := Lib.hid (sameR_stop hlt hlt' hs)
          rw [hs] at cS
          clear hs
          go_wp2_with fail
          have kc0 := cell_regrown c0
          have kc1 := cell_regrown c1
          have kc2 := cell_regrown c2
          have kd0 := cell_regrown d0
          have kd1 := cell_regrown d1
          have kd2 := cell_regrown d2
          refine wp_region_quiet_below (by kernel_rfl) (by kernel_rfl) ?_
          repeat (go_big_quiet_step (first | exact cS _ _))
          refine wpQuiet_nil ?_
          intro _ hw'
          obtain ⟨⟨dq, osq⟩, hw''⟩ := hw'
          subst hw''
          clear kc0 kc1 kc2 kd0 kd1 kd2 cS
          have hb1 := below_regrown wr dq osq
          generalize grow (redrawn wr dq) osq = w1 at *
          replace c0 := cell_later hb1 c0
          replace c1 := cell_later hb1 c1
          replace c2 := cell_later hb1 c2
          replace d0 := cell_later hb1 d0
          replace d1 := cell_later hb1 d1
          replace d2 := cell_later hb1 d2
          go_wp2_with fail
          go_ret
          exact ⟨ret_bool HS.out.symm, below_then HBW.out hb1⟩
        · have HS := Lib.hid (take_succ_eq' hlt hlt' htk.out (sameV_iff.1 hs))
          rw [hs] at cS
          clear hs
          go_wp2_with fail
          have kc0 := cell_regrown c0
          have kc1 := cell_regrown c1
          have kc2 := cell_regrown c2
          have kd0 := cell_regrown d0
          have kd1 := cell_regrown d1
          have kd2 := cell_regrown d2
          refine wp_region_quiet_below (by kernel_rfl) (by kernel_rfl) ?_
          repeat (go_big_quiet_step (first | exact cS _ _))
          refine wpQuiet_nil ?_
          intro _ hw'
          obtain ⟨⟨dq, osq⟩, hw''⟩ := hw'
          subst hw''
          clear kc0 kc1 kc2 kd0 kd1 kd2 cS
          have hb1 := below_regrown wr dq osq
          generalize grow (redrawn wr dq) osq = w1 at *
          replace c0 := cell_later hb1 c0
          replace c1 := cell_later hb1 c1
          replace c2 := cell_later hb1 c2
          replace d0 := cell_later hb1 d0
          replace d1 := cell_later hb1 d1
          replace d2 := cell_later hb1 d2
          go_wp2_with fail
          go_roundw
          case rel => exact ⟨k + 1, by omega, by go_num, HS.out, below_then HBW.out hb1⟩
          case measure => simp [intOf]; omega
      · have hkl : k = l.length := by omega
        have he : sameR l m = true := by
          have := htk.out
          rw [hkl, List.take_length, HL.out, List.take_length] at this
          rw [decide_eq_true_iff]; exact this
        have HE := Lib.hid he
        clear he
        subst hkl
        go_wp2_with fail
        go_ret
        exact ⟨ret_bool HE.out.symm, hbw⟩
  · have hl' : ((l.length : Int) != (m.length : Int)) = true := by simp; omega
    have hs : sameR l m = false := by rw [decide_eq_false_iff_not]; intro h; rw [h] at hl; exact hl rfl
    go_enter Tryz.func89, Tryz.ntmps89
    go_wp2
    go_ret
    exact ⟨ret_bool hs.symm, Below.refl _ _⟩

end Go.Proofs.YtnolbabpkhdpmaaGreat
