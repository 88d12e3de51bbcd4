/-
  Layer 3 (row): rows' order, walks.
-/
import Derived.Test.YtgmemdhbnnhifaaR
import Derived.BigQuiet
namespace Go.Proofs.Ytgmemdhbnnhifaa
open Go.RowKit Go.Sort Go.BigFrame

abbrev sameR (l m : List Val) : Bool := decide (l = m)

theorem sameR_stop {l m : List Val} {k : Nat} (hk : k < l.length) (hk' : k < m.length) (hs : sameV l[k] m[k] = false) : sameR l m = false := by
  rw [decide_eq_false_iff_not]
  rintro rfl
  rw [sameV_self] at hs; cases hs

set_option maxRecDepth 100000 in
set_option maxHeartbeats 400000 in
theorem refSameR_any (va vb : Value) (l m : List Val) (w : World) (ha : Rd w va l.length (rowCs l)) (hb : Rd w vb m.length (rowCs m)) :
    Calls Try.prog 31 #[va, vb] w fun e w' => e = .returned (.bool (sameR l m)) ∧ Below w.heap.size w w' := by
  obtain ⟨aa, ca, rfl, hna, hma, _, _⟩ := id ha
  obtain ⟨ab, cb, rfl, hnb, hmb, _, _⟩ := id hb
  unfold maxLen at hma hmb
  have HA := Lib.hid ha
  have HB := Lib.hid hb
  clear ha hb
  by_cases hl : l.length = m.length
  · have hl' : ((l.length : Int) != (m.length : Int)) = false := by simp [hl]
    have HL := Lib.hid hl
    have hle : l.length ≤ m.length := by omega
    clear hl
    go_enter Try.func31, Try.ntmps31
    go_wp2
    go_loopw [5] (fun i wr => ∃ k : Nat, k ≤ l.length ∧ i = .int .i64 k ∧ Hid (l.take k = m.take k) ∧ Below w.heap.size w wr) (fun i _ => l.length - (intOf i).toNat)
    case atStart => exact ⟨0, Nat.zero_le _, rfl, rfl, Below.refl _ _⟩
    case round =>
      obtain ⟨k, hk, rfl, htk, hbw⟩ := hrel
      rename World => wr
      by_cases hlt : k < l.length
      · have hlt' : k < m.length := by omega
        obtain ⟨b1, o1, hi1, c0, c1, c2, _⟩ := rd_val (HA.out.later hbw) rfl k hlt
        obtain ⟨b2, o2, hi2, d0, d1, d2, _⟩ := rd_val (HB.out.later hbw) rfl k hlt'
        have HBW := Lib.hid hbw
        clear hbw
        have cS : ∀ d os, Calls Try.prog 42 #[.agg #[.int .i64 l[k].k, .int .i64 l[k].n, .string l[k].s], .agg #[.int .i64 m[k].k, .int .i64 m[k].n, .string m[k].s]] (grow (redrawn wr d) os) fun e w'' => e = .returned (.bool (sameV l[k] m[k])) ∧ ∃ p : Regrown, w'' = grow (redrawn wr p.d) p.os := fun d os => Calls.regrown_of (refSameV_any _ _ _ _ _ _ _)
        cases hs : sameV l[k] m[k]
        · have HS := Lib.hid (sameR_stop hlt hlt' hs)
          rw [hs] at cS
          clear hs
          go_wp2_with fail
          have kc0 := cell_regrown c0
          have kc1 := cell_regrown c1
          have kc2 := cell_regrown c2
          have kd0 := cell_regrown d0
          have kd1 := cell_regrown d1
          have kd2 := cell_regrown d2
          refine wp_region_quiet_below (by kernel_rfl) (by kernel_rfl) ?_
          repeat (go_big_quiet_step (first | exact cS _ _))
          refine wpQuiet_nil ?_
          intro _ hw'
          obtain ⟨⟨dq, osq⟩, hw''⟩ := hw'
          subst hw''
          clear kc0 kc1 kc2 kd0 kd1 kd2 cS
          have hb1 := below_regrown wr dq osq
          generalize grow (redrawn wr dq) osq = w1 at *
          replace c0 := cell_later hb1 c0
          replace c1 := cell_later hb1 c1
          replace c2 := cell_later hb1 c2
          replace d0 := cell_later hb1 d0
          replace d1 := cell_later hb1 d1
          replace d2 := cell_later hb1 d2
          go_wp2_with fail
          go_ret
          exact ⟨ret_bool HS.out.symm, below_then HBW.out hb1⟩
        · have HS := Lib.hid (take_succ_eq' hlt hlt' htk.out (sameV_iff.1 hs))
          rw [hs] at cS
          clear hs
          go_wp2_with fail
          have kc0 := cell_regrown c0
          have kc1 := cell_regrown c1
          have kc2 := cell_regrown c2
          have kd0 := cell_regrown d0
          have kd1 := cell_regrown d1
          have kd2 := cell_regrown d2
          refine wp_region_quiet_below (by kernel_rfl) (by kernel_rfl) ?_
          repeat (go_big_quiet_step (first | exact cS _ _))
          refine wpQuiet_nil ?_
          intro _ hw'
          obtain ⟨⟨dq, osq⟩, hw''⟩ := hw'
          subst hw''
          clear kc0 kc1 kc2 kd0 kd1 kd2 cS
          have hb1 := below_regrown wr dq osq
          generalize grow (redrawn wr dq) osq = w1 at *
          replace c0 := cell_later hb1 c0
          replace c1 := cell_later hb1 c1
          replace c2 := cell_later hb1 c2
          replace d0 := cell_later hb1 d0
          replace d1 := cell_later hb1 d1
          replace d2 := cell_later hb1 d2
          go_wp2_with fail
          go_roundw
          case rel => exact ⟨k + 1, by omega, by go_num, HS.out, below_then HBW.out hb1⟩
          case measure => simp [intOf]; omega
      · have hkl : k = l.length := by omega
        have he : sameR l m = true := by
          have := htk.out
          rw [hkl, List.take_length, HL.out, List.take_length] at this
          rw [decide_eq_true_iff]; exact this
        have HE := Lib.hid he
        clear he
        subst hkl
        go_wp2_with fail
        go_ret
        exact ⟨ret_bool HE.out.symm, hbw⟩
  · have hl' : ((l.length : Int) != (m.length : Int)) = true := by simp; omega
    have hs : sameR l m = false := by rw [decide_eq_false_iff_not]; intro h; rw [h] at hl; exact hl rfl
    go_enter Try.func31, Try.ntmps31
    go_wp2
    go_ret
    exact ⟨ret_bool hs.symm, Below.refl _ _⟩

theorem elRR : El Try.prog 63 24 1 24 (.slice none 0 0) := El.mk' (by kernel_rfl) (by kernel_rfl) rfl (by decide)

set_option maxRecDepth 100000 in
set_option maxHeartbeats 800000 in
theorem apart_any (vs va vb : Value) (l m : List Val) (w : World) (ha : Rd w va l.length (rowCs l)) (hb : Rd w vb m.length (rowCs m)) (hv : Rd w vs 2 [va, vb]) :
    Calls Try.prog 40 #[vs] w fun e w' => e = .returned (.int .i64 (apartR l m)) ∧ Below w.heap.size w w' := by
  obtain ⟨aa, ca, rfl, hna, hma, _, _⟩ := id ha
  obtain ⟨ab, cb, rfl, hnb, hmb, _, _⟩ := id hb
  obtain ⟨av, cv, rfl, hnv, hmv, _, _⟩ := id hv
  unfold maxLen at hma hmb hmv
  have HA := Lib.hid ha
  have HB := Lib.hid hb
  have HV := Lib.hid hv
  clear ha hb hv
  go_enter Try.func40, Try.ntmps40
  go_wp2
  go_loopw [3] (fun i wr => ∃ k : Nat, k ≤ l.length ∧ k ≤ m.length ∧ i = .int .i64 k ∧ Hid (l.take k = m.take k) ∧ Below w.heap.size w wr) (fun i _ => l.length - (intOf i).toNat)
  case atStart => exact ⟨0, Nat.zero_le _, Nat.zero_le _, rfl, rfl, Below.refl _ _⟩
  case round =>
    obtain ⟨k, hk, hk', rfl, htk, hbw⟩ := hrel
    rename World => wr
    go_wp2_with fail
    go_loopw [8] (fun i wq => ∃ j : Nat, j ≤ 2 ∧ i = .int .i64 j ∧ (1 ≤ j → k < l.length) ∧ (2 ≤ j → k < m.length ∧ Hid (l.take (k + 1) = m.take (k + 1))) ∧ Below wr.heap.size wr wq) (fun i _ => 2 - (intOf i).toNat)
    case atStart => exact ⟨0, by omega, rfl, by omega, by omega, Below.refl _ _⟩
    case round =>
      obtain ⟨j, hj, rfl, hj1, hj2, hbq⟩ := hrel
      rename World => wq
      by_cases hlt : j < 2
      · obtain ⟨B0, hz0, e0, _⟩ := rd_one elRR (fun v => v) (l := [.slice aa l.length ca, .slice ab m.length cb]) ((HV.out.later hbw).later hbq) rfl 0 (by simp)
        obtain ⟨B1, hz1, e1, _⟩ := rd_one elRR (fun v => v) (l := [.slice aa l.length ca, .slice ab m.length cb]) ((HV.out.later hbw).later hbq) rfl j hlt
        have hz0' : ∀ W, (Instr.indexAt 63 (.slice av 2 cv) (.int .i64 0)).run Try.prog W = .ok (.pointer (some B0)) W := hz0
        clear hz0
        obtain ⟨ax, cx, x, hx, HX, hxc⟩ : ∃ ax cx x, [Value.slice aa l.length ca, .slice ab m.length cb][j] = .slice ax x.length cx ∧ Hid (Rd wq (.slice ax x.length cx) x.length (rowCs x)) ∧ ((j = 0 ∧ x = l) ∨ (j = 1 ∧ x = m)) := by
          rcases j with _ | _ | j
          · exact ⟨aa, ca, l, rfl, (HA.out.later hbw).later hbq, .inl ⟨rfl, rfl⟩⟩
          · exact ⟨ab, cb, m, rfl, (HB.out.later hbw).later hbq, .inr ⟨rfl, rfl⟩⟩
          · omega
        have hkx : k ≤ x.length := by rcases hxc with ⟨_, rfl⟩ | ⟨_, rfl⟩ <;> omega
        have hxm : x.length < 9223372036854775808 := by rcases hxc with ⟨_, rfl⟩ | ⟨_, rfl⟩ <;> omega
        rw [hx] at e1
        simp only [List.getElem_cons_zero] at e0
        clear hx
        by_cases hend : k = x.length
        · have hE : ((k : Int) == (x.length : Int)) = true := by simp [hend]
          have HE : Hid (apartR l m = k) := (lessR_short htk.out (by rcases hxc with ⟨_, rfl⟩ | ⟨_, rfl⟩ <;> omega) hk hk').2
          clear hend
          go_wp2_with fail
          have ke0 := cell_regrown e0
          refine wp_region_quiet_below (by kernel_rfl) (by kernel_rfl) ?_
          repeat (go_big_quiet_step (first | fail))
          refine wpQuiet_nil ?_
          intro _ hw'
          obtain ⟨⟨dq, osq⟩, hw''⟩ := hw'
          subst hw''
          clear ke0
          have hb1 := below_regrown wq dq osq
          generalize grow (redrawn wq dq) osq = w1 at *
          replace e0 := cell_later hb1 e0
          go_wp2_with fail
          go_ret
          rw [HE.out]
          exact ⟨rfl, below_then hbw (below_then hbq hb1)⟩
        · have hE : ((k : Int) == (x.length : Int)) = false := by simp; omega
          have hkx' : k < x.length := by omega
          have hkl : k < l.length := by rcases hxc with ⟨_, rfl⟩ | ⟨_, rfl⟩ <;> omega
          clear hend
          obtain ⟨b1, o1, hi1, c0, c1, c2, _⟩ := rd_val HX.out rfl k hkx'
          obtain ⟨b2, o2, hi2, d0, d1, d2, _⟩ := rd_val ((HA.out.later hbw).later hbq) rfl k hkl
          have cS : ∀ d os, Calls Try.prog 48 #[.agg #[.int .i64 x[k].k, .int .i64 x[k].n, .string x[k].s], .agg #[.int .i64 l[k].k, .int .i64 l[k].n, .string l[k].s]] (grow (redrawn wq d) os) fun e w'' => e = .returned (.bool (sameV x[k] l[k])) ∧ ∃ p : Regrown, w'' = grow (redrawn wq p.d) p.os := fun d os => Calls.regrown_of (sameV_any _ _ _ _ _ _ _)
          cases hs : sameV x[k] l[k]
          · have HE : Hid (apartR l m = k) := by
              rcases hxc with ⟨_, rfl⟩ | ⟨_, rfl⟩
              · rw [sameV_self] at hs; cases hs
              · refine (lessR_stop htk.out hkl hkx' ?_).2
                rw [sameV_eq] at hs ⊢
                rw [decide_eq_false_iff_not] at hs ⊢
                exact fun h => hs h.symm
            rw [hs] at cS
            clear hs
            have HBW := Lib.hid (below_then hbw hbq)
            clear hbw hbq
            go_wp2_with fail
            have ke0 := cell_regrown e0
            have kc0 := cell_regrown c0
            have kc1 := cell_regrown c1
            have kc2 := cell_regrown c2
            have kd0 := cell_regrown d0
            have kd1 := cell_regrown d1
            have kd2 := cell_regrown d2
            refine wp_region_quiet_below (by kernel_rfl) (by kernel_rfl) ?_
            repeat (go_big_quiet_step (first | exact cS _ _))
            refine wpQuiet_nil ?_
            intro _ hw'
            obtain ⟨⟨dq, osq⟩, hw''⟩ := hw'
            subst hw''
            clear ke0 kc0 kc1 kc2 kd0 kd1 kd2 cS
            have hb1 := below_regrown wq dq osq
            generalize grow (redrawn wq dq) osq = w1 at *
            replace e0 := cell_later hb1 e0
            replace c0 := cell_later hb1 c0
            replace c1 := cell_later hb1 c1
            replace c2 := cell_later hb1 c2
            replace d0 := cell_later hb1 d0
            replace d1 := cell_later hb1 d1
            replace d2 := cell_later hb1 d2
            go_wp2_with fail
            go_ret
            rw [HE.out]
            exact ⟨rfl, below_then HBW.out hb1⟩
          · have HE : 2 ≤ j + 1 → k < m.length ∧ Hid (l.take (k + 1) = m.take (k + 1)) := by
              intro hj
              rcases hxc with ⟨rfl, rfl⟩ | ⟨_, rfl⟩
              · omega
              · exact ⟨hkx', take_succ_eq' hkl hkx' htk.out (sameV_iff.1 hs).symm⟩
            rw [hs] at cS
            clear hs
            have HEE := Lib.hid HE
            have HBW := Lib.hid hbw
            have HBQ := Lib.hid hbq
            clear hbw hbq HE
            go_wp2_with fail
            have ke0 := cell_regrown e0
            have kc0 := cell_regrown c0
            have kc1 := cell_regrown c1
            have kc2 := cell_regrown c2
            have kd0 := cell_regrown d0
            have kd1 := cell_regrown d1
            have kd2 := cell_regrown d2
            refine wp_region_quiet_below (by kernel_rfl) (by kernel_rfl) ?_
            repeat (go_big_quiet_step (first | exact cS _ _))
            refine wpQuiet_nil ?_
            intro _ hw'
            obtain ⟨⟨dq, osq⟩, hw''⟩ := hw'
            subst hw''
            clear ke0 kc0 kc1 kc2 kd0 kd1 kd2 cS
            have hb1 := below_regrown wq dq osq
            generalize grow (redrawn wq dq) osq = w1 at *
            replace e0 := cell_later hb1 e0
            replace c0 := cell_later hb1 c0
            replace c1 := cell_later hb1 c1
            replace c2 := cell_later hb1 c2
            replace d0 := cell_later hb1 d0
            replace d1 := cell_later hb1 d1
            replace d2 := cell_later hb1 d2
            go_wp2_with fail
            go_roundw
            case rel => exact ⟨j + 1, by omega, by go_num, fun _ => hkl, HEE.out, below_then HBQ.out hb1⟩
            case measure => simp [intOf]; omega
      · have hj' : j = 2 := by omega
        subst hj'
        have h1 := hj1 (by omega)
        obtain ⟨h2, h3⟩ := hj2 (by omega)
        have HBW := Lib.hid (below_then hbw hbq)
        clear hbw hbq hj1 hj2
        go_wp2_with fail
        go_roundw
        case rel => exact ⟨k + 1, by omega, by omega, by go_num, h3, HBW.out⟩
        case measure => simp [intOf]; omega
end Go.Proofs.Ytgmemdhbnnhifaa
