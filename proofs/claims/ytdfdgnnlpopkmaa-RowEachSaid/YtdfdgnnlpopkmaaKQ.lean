/-
  Layer 3 (row): which rows may stand in which columns: the reference.
-/
import Derived.Test.YtdfdgnnlpopkmaaKR
namespace Go.Proofs.Ytdfdgnnlpopkmaa
open Go.RowKit Go.Sort Go.BigFrame

set_option maxRecDepth 100000 in
set_option maxHeartbeats 4000000 in
theorem refRightR_any (vc vr : Value) (l : List Col) (m : List Val) (w : World) (ha : Rd w vc l.length (colsCs l)) (hb : Rd w vr m.length (rowCs m)) :
    Calls Try.prog 15 #[vc, vr] w fun e w' => e = .returned (.int .i64 (rightR l m)) ∧ Below w.heap.size w w' := by
  obtain ⟨aa, ca, rfl, hna, hma, _, _⟩ := id ha
  obtain ⟨ab, cb, rfl, hnb, hmb, _, _⟩ := id hb
  unfold maxLen at hma hmb
  have HA := Lib.hid ha
  have HB := Lib.hid hb
  clear ha hb
  by_cases hl : l.length = m.length
  · have hl' : ((l.length : Int) != (m.length : Int)) = false := by simp [hl]
    have HL := Lib.hid hl
    have HQ := Lib.hid (show rightR l m = firstC l m by unfold rightR; rw [if_pos hl])
    have hle : m.length ≤ l.length := by omega
    clear hl
    go_enter Try.func15, Try.ntmps15
    go_wp2
    go_loopw [5] (fun i wr => ∃ k : Nat, k ≤ m.length ∧ i = .int .i64 k ∧ Hid (firstC l m = firstC (l.drop k) (m.drop k)) ∧ Below w.heap.size w wr) (fun i _ => m.length - (intOf i).toNat)
    case atStart => exact ⟨0, Nat.zero_le _, rfl, rfl, Below.refl _ _⟩
    case round =>
      obtain ⟨k, hk, rfl, htk, hbw⟩ := hrel
      rename World => wr
      by_cases hlt : k < m.length
      · have hlt' : k < l.length := by omega
        obtain ⟨b1, o1, hi1, c0, c1, c2, c3, _⟩ := rd_col (HA.out.later hbw) rfl k hlt'
        obtain ⟨b2, o2, hi2, d0, d1, d2, _⟩ := rd_val (HB.out.later hbw) rfl k hlt
        have hst := firstC_step hlt' hlt htk.out
        rcases hC : l[k] with ⟨nm, kd, ty, nl⟩
        rcases hV : m[k] with ⟨K, n, s⟩
        rw [hC] at c0 c1 c2 c3
        rw [hV] at d0 d1 d2
        rw [hC, hV] at hst
        dsimp only at c0 c1 c2 c3 d0 d1 d2
        have HST := Lib.hid hst
        have HBW := Lib.hid hbw
        clear hst hC hV hbw
        obtain hk | hk | hk | hk : kd = 0 ∨ kd = 1 ∨ kd < 0 ∨ 1 < kd := by omega
        · subst hk
          cases hr : rightV ⟨K, n, s⟩
          · have HE : Hid (firstC l m = 1) := by show firstC l m = 1; rw [HST.out]; simp [checkC, hr]
            have HR := Lib.hid hr
            clear hr
            go_wp2_with (go_at_call 29; refine (refRightV_any _ _ _ _).mono ?_; rintro e w1 ⟨rfl, hb1⟩; rw [HR.out]; replace c0 := cell_later hb1 c0; replace c1 := cell_later hb1 c1; replace c2 := cell_later hb1 c2; replace c3 := cell_later hb1 c3; replace d0 := cell_later hb1 d0; replace d1 := cell_later hb1 d1; replace d2 := cell_later hb1 d2; have HB1 := Lib.hid (below_then HBW.out hb1); clear hb1)
            go_ret
            rw [HQ.out, HE.out]
            exact ⟨rfl, HB1.out⟩
          · have HR := Lib.hid hr
            have hnr : ¬ rightV ⟨K, n, s⟩ = false := by rw [hr]; decide
            clear hr
            by_cases z : K = 0
            · subst z
              cases nl
              · have HE : Hid (firstC l m = 7) := by show firstC l m = 7; rw [HST.out]; simp [checkC, hnr]
                clear hnr
                go_wp2_with (go_at_call 29; refine (refRightV_any _ _ _ _).mono ?_; rintro e w1 ⟨rfl, hb1⟩; rw [HR.out]; replace c0 := cell_later hb1 c0; replace c1 := cell_later hb1 c1; replace c2 := cell_later hb1 c2; replace c3 := cell_later hb1 c3; replace d0 := cell_later hb1 d0; replace d1 := cell_later hb1 d1; replace d2 := cell_later hb1 d2; have HB1 := Lib.hid (below_then HBW.out hb1); clear hb1)
                go_ret
                rw [HQ.out, HE.out]
                exact ⟨rfl, HB1.out⟩
              · have HE : Hid (firstC l m = firstC (l.drop (k + 1)) (m.drop (k + 1))) := by show firstC l m = _; rw [HST.out]; simp [checkC, hnr]
                clear hnr
                go_wp2_with (go_at_call 29; refine (refRightV_any _ _ _ _).mono ?_; rintro e w1 ⟨rfl, hb1⟩; rw [HR.out]; replace c0 := cell_later hb1 c0; replace c1 := cell_later hb1 c1; replace c2 := cell_later hb1 c2; replace c3 := cell_later hb1 c3; replace d0 := cell_later hb1 d0; replace d1 := cell_later hb1 d1; replace d2 := cell_later hb1 d2; have HB1 := Lib.hid (below_then HBW.out hb1); clear hb1)
                go_roundw
                case rel => exact ⟨k + 1, by omega, by go_num, HE.out, HB1.out⟩
                case measure => simp [intOf]; omega
            · have z0 : (K == 0) = false := by rw [beq_eq_false_iff_ne]; exact z
              obtain ⟨q, hq⟩ : ∃ q, kindC ⟨nm, 0, ty, nl⟩ = q := ⟨_, rfl⟩
              have HKC := Lib.hid hq
              by_cases hkk : K = q
              · have HE : Hid (firstC l m = firstC (l.drop (k + 1)) (m.drop (k + 1))) := by show firstC l m = _; rw [HST.out]; unfold checkC; rw [if_neg hnr, if_neg z, hq, if_pos hkk, if_pos rfl]
                have z2 : (K != q) = false := by rw [bne_eq_false_iff_eq]; exact hkk
                clear hnr hkk hq z
                go_wp2_with (go_at_call 29; refine (refRightV_any _ _ _ _).mono ?_; rintro e w1 ⟨rfl, hb1⟩; rw [HR.out]; replace c0 := cell_later hb1 c0; replace c1 := cell_later hb1 c1; replace c2 := cell_later hb1 c2; replace c3 := cell_later hb1 c3; replace d0 := cell_later hb1 d0; replace d1 := cell_later hb1 d1; replace d2 := cell_later hb1 d2; have HB1 := Lib.hid (below_then HBW.out hb1); clear hb1)
                have cS : ∀ d os, Calls Try.prog 13 #[.agg #[.string nm, .int .i64 0, .int .i64 ty, .bool nl]] (grow (redrawn w1 d) os) fun e w'' => e = .returned (.int .i64 (kindC ⟨nm, 0, ty, nl⟩)) ∧ ∃ p : Regrown, w'' = grow (redrawn w1 p.d) p.os := fun d os => Calls.regrown_of (refKind_any _ _ _ _ _)
                rw [HKC.out] at cS
                have kc0 := cell_regrown c0
                have kc1 := cell_regrown c1
                have kc2 := cell_regrown c2
                have kc3 := cell_regrown c3
                have kd0 := cell_regrown d0
                have kd1 := cell_regrown d1
                have kd2 := cell_regrown d2
                refine wp_region_quiet_below (by kernel_rfl) (by kernel_rfl) ?_
                repeat (go_big_quiet_step (first | exact cS _ _))
                refine wpQuiet_nil ?_
                intro _ hw'
                obtain ⟨⟨dq, osq⟩, hw''⟩ := hw'
                subst hw''
                clear kc0 kc1 kc2 kc3 kd0 kd1 kd2 cS
                have hb2 := below_regrown w1 dq osq
                generalize grow (redrawn w1 dq) osq = w2 at *
                replace c0 := cell_later hb2 c0
                replace c1 := cell_later hb2 c1
                replace c2 := cell_later hb2 c2
                replace c3 := cell_later hb2 c3
                replace d0 := cell_later hb2 d0
                replace d1 := cell_later hb2 d1
                replace d2 := cell_later hb2 d2
                go_wp2_with fail
                go_roundw
                case rel => exact ⟨k + 1, by omega, by go_num, HE.out, below_then HB1.out hb2⟩
                case measure => simp [intOf]; omega
              · have HE : Hid (firstC l m = 6) := by show firstC l m = _; rw [HST.out]; simp [checkC, hnr, z, hq, hkk]
                have z2 : (K != q) = true := by rw [bne_iff_ne]; exact hkk
                clear hnr hkk hq z
                go_wp2_with (go_at_call 29; refine (refRightV_any _ _ _ _).mono ?_; rintro e w1 ⟨rfl, hb1⟩; rw [HR.out]; replace c0 := cell_later hb1 c0; replace c1 := cell_later hb1 c1; replace c2 := cell_later hb1 c2; replace c3 := cell_later hb1 c3; replace d0 := cell_later hb1 d0; replace d1 := cell_later hb1 d1; replace d2 := cell_later hb1 d2; have HB1 := Lib.hid (below_then HBW.out hb1); clear hb1)
                have cS : ∀ d os, Calls Try.prog 13 #[.agg #[.string nm, .int .i64 0, .int .i64 ty, .bool nl]] (grow (redrawn w1 d) os) fun e w'' => e = .returned (.int .i64 (kindC ⟨nm, 0, ty, nl⟩)) ∧ ∃ p : Regrown, w'' = grow (redrawn w1 p.d) p.os := fun d os => Calls.regrown_of (refKind_any _ _ _ _ _)
                rw [HKC.out] at cS
                have kc0 := cell_regrown c0
                have kc1 := cell_regrown c1
                have kc2 := cell_regrown c2
                have kc3 := cell_regrown c3
                have kd0 := cell_regrown d0
                have kd1 := cell_regrown d1
                have kd2 := cell_regrown d2
                refine wp_region_quiet_below (by kernel_rfl) (by kernel_rfl) ?_
                repeat (go_big_quiet_step (first | exact cS _ _))
                refine wpQuiet_nil ?_
                intro _ hw'
                obtain ⟨⟨dq, osq⟩, hw''⟩ := hw'
                subst hw''
                clear kc0 kc1 kc2 kc3 kd0 kd1 kd2 cS
                have hb2 := below_regrown w1 dq osq
                generalize grow (redrawn w1 dq) osq = w2 at *
                replace c0 := cell_later hb2 c0
                replace c1 := cell_later hb2 c1
                replace c2 := cell_later hb2 c2
                replace c3 := cell_later hb2 c3
                replace d0 := cell_later hb2 d0
                replace d1 := cell_later hb2 d1
                replace d2 := cell_later hb2 d2
                go_wp2_with fail
                go_ret
                rw [HQ.out, HE.out]
                exact ⟨rfl, below_then HB1.out hb2⟩
        · subst hk
          cases hr : rightV ⟨K, n, s⟩
          · have HE : Hid (firstC l m = 1) := by show firstC l m = 1; rw [HST.out]; simp [checkC, hr]
            have HR := Lib.hid hr
            clear hr
            go_wp2_with (go_at_call 29; refine (refRightV_any _ _ _ _).mono ?_; rintro e w1 ⟨rfl, hb1⟩; rw [HR.out]; replace c0 := cell_later hb1 c0; replace c1 := cell_later hb1 c1; replace c2 := cell_later hb1 c2; replace c3 := cell_later hb1 c3; replace d0 := cell_later hb1 d0; replace d1 := cell_later hb1 d1; replace d2 := cell_later hb1 d2; have HB1 := Lib.hid (below_then HBW.out hb1); clear hb1)
            go_ret
            rw [HQ.out, HE.out]
            exact ⟨rfl, HB1.out⟩
          · have HR := Lib.hid hr
            have hnr : ¬ rightV ⟨K, n, s⟩ = false := by rw [hr]; decide
            clear hr
            by_cases z : K = 0
            · subst z
              cases nl
              · have HE : Hid (firstC l m = 7) := by show firstC l m = 7; rw [HST.out]; simp [checkC, hnr]
                clear hnr
                go_wp2_with (go_at_call 29; refine (refRightV_any _ _ _ _).mono ?_; rintro e w1 ⟨rfl, hb1⟩; rw [HR.out]; replace c0 := cell_later hb1 c0; replace c1 := cell_later hb1 c1; replace c2 := cell_later hb1 c2; replace c3 := cell_later hb1 c3; replace d0 := cell_later hb1 d0; replace d1 := cell_later hb1 d1; replace d2 := cell_later hb1 d2; have HB1 := Lib.hid (below_then HBW.out hb1); clear hb1)
                go_ret
                rw [HQ.out, HE.out]
                exact ⟨rfl, HB1.out⟩
              · have HE : Hid (firstC l m = firstC (l.drop (k + 1)) (m.drop (k + 1))) := by show firstC l m = _; rw [HST.out]; simp [checkC, hnr]
                clear hnr
                go_wp2_with (go_at_call 29; refine (refRightV_any _ _ _ _).mono ?_; rintro e w1 ⟨rfl, hb1⟩; rw [HR.out]; replace c0 := cell_later hb1 c0; replace c1 := cell_later hb1 c1; replace c2 := cell_later hb1 c2; replace c3 := cell_later hb1 c3; replace d0 := cell_later hb1 d0; replace d1 := cell_later hb1 d1; replace d2 := cell_later hb1 d2; have HB1 := Lib.hid (below_then HBW.out hb1); clear hb1)
                go_roundw
                case rel => exact ⟨k + 1, by omega, by go_num, HE.out, HB1.out⟩
                case measure => simp [intOf]; omega
            · have z0 : (K == 0) = false := by rw [beq_eq_false_iff_ne]; exact z
              obtain ⟨q, hq⟩ : ∃ q, kindC ⟨nm, 1, ty, nl⟩ = q := ⟨_, rfl⟩
              have HKC := Lib.hid hq
              by_cases hkk : K = q
              · have HE : Hid (firstC l m = firstC (l.drop (k + 1)) (m.drop (k + 1))) := by show firstC l m = _; rw [HST.out]; unfold checkC; rw [if_neg hnr, if_neg z, hq, if_pos hkk, if_pos rfl]
                have z2 : (K != q) = false := by rw [bne_eq_false_iff_eq]; exact hkk
                clear hnr hkk hq z
                go_wp2_with (go_at_call 29; refine (refRightV_any _ _ _ _).mono ?_; rintro e w1 ⟨rfl, hb1⟩; rw [HR.out]; replace c0 := cell_later hb1 c0; replace c1 := cell_later hb1 c1; replace c2 := cell_later hb1 c2; replace c3 := cell_later hb1 c3; replace d0 := cell_later hb1 d0; replace d1 := cell_later hb1 d1; replace d2 := cell_later hb1 d2; have HB1 := Lib.hid (below_then HBW.out hb1); clear hb1)
                have cS : ∀ d os, Calls Try.prog 13 #[.agg #[.string nm, .int .i64 1, .int .i64 ty, .bool nl]] (grow (redrawn w1 d) os) fun e w'' => e = .returned (.int .i64 (kindC ⟨nm, 1, ty, nl⟩)) ∧ ∃ p : Regrown, w'' = grow (redrawn w1 p.d) p.os := fun d os => Calls.regrown_of (refKind_any _ _ _ _ _)
                rw [HKC.out] at cS
                have kc0 := cell_regrown c0
                have kc1 := cell_regrown c1
                have kc2 := cell_regrown c2
                have kc3 := cell_regrown c3
                have kd0 := cell_regrown d0
                have kd1 := cell_regrown d1
                have kd2 := cell_regrown d2
                refine wp_region_quiet_below (by kernel_rfl) (by kernel_rfl) ?_
                repeat (go_big_quiet_step (first | exact cS _ _))
                refine wpQuiet_nil ?_
                intro _ hw'
                obtain ⟨⟨dq, osq⟩, hw''⟩ := hw'
                subst hw''
                clear kc0 kc1 kc2 kc3 kd0 kd1 kd2 cS
                have hb2 := below_regrown w1 dq osq
                generalize grow (redrawn w1 dq) osq = w2 at *
                replace c0 := cell_later hb2 c0
                replace c1 := cell_later hb2 c1
                replace c2 := cell_later hb2 c2
                replace c3 := cell_later hb2 c3
                replace d0 := cell_later hb2 d0
                replace d1 := cell_later hb2 d1
                replace d2 := cell_later hb2 d2
                go_wp2_with fail
                go_roundw
                case rel => exact ⟨k + 1, by omega, by go_num, HE.out, below_then HB1.out hb2⟩
                case measure => simp [intOf]; omega
              · have HE : Hid (firstC l m = 6) := by show firstC l m = _; rw [HST.out]; simp [checkC, hnr, z, hq, hkk]
                have z2 : (K != q) = true := by rw [bne_iff_ne]; exact hkk
                clear hnr hkk hq z
                go_wp2_with (go_at_call 29; refine (refRightV_any _ _ _ _).mono ?_; rintro e w1 ⟨rfl, hb1⟩; rw [HR.out]; replace c0 := cell_later hb1 c0; replace c1 := cell_later hb1 c1; replace c2 := cell_later hb1 c2; replace c3 := cell_later hb1 c3; replace d0 := cell_later hb1 d0; replace d1 := cell_later hb1 d1; replace d2 := cell_later hb1 d2; have HB1 := Lib.hid (below_then HBW.out hb1); clear hb1)
                have cS : ∀ d os, Calls Try.prog 13 #[.agg #[.string nm, .int .i64 1, .int .i64 ty, .bool nl]] (grow (redrawn w1 d) os) fun e w'' => e = .returned (.int .i64 (kindC ⟨nm, 1, ty, nl⟩)) ∧ ∃ p : Regrown, w'' = grow (redrawn w1 p.d) p.os := fun d os => Calls.regrown_of (refKind_any _ _ _ _ _)
                rw [HKC.out] at cS
                have kc0 := cell_regrown c0
                have kc1 := cell_regrown c1
                have kc2 := cell_regrown c2
                have kc3 := cell_regrown c3
                have kd0 := cell_regrown d0
                have kd1 := cell_regrown d1
                have kd2 := cell_regrown d2
                refine wp_region_quiet_below (by kernel_rfl) (by kernel_rfl) ?_
                repeat (go_big_quiet_step (first | exact cS _ _))
                refine wpQuiet_nil ?_
                intro _ hw'
                obtain ⟨⟨dq, osq⟩, hw''⟩ := hw'
                subst hw''
                clear kc0 kc1 kc2 kc3 kd0 kd1 kd2 cS
                have hb2 := below_regrown w1 dq osq
                generalize grow (redrawn w1 dq) osq = w2 at *
                replace c0 := cell_later hb2 c0
                replace c1 := cell_later hb2 c1
                replace c2 := cell_later hb2 c2
                replace c3 := cell_later hb2 c3
                replace d0 := cell_later hb2 d0
                replace d1 := cell_later hb2 d1
                replace d2 := cell_later hb2 d2
                go_wp2_with fail
                go_ret
                rw [HQ.out, HE.out]
                exact ⟨rfl, below_then HB1.out hb2⟩
        · have a0 : (kd == 0) = false := by rw [beq_eq_false_iff_ne]; omega
          have ha0 : kd ≠ 0 := by omega
          have ha1 : kd ≠ 1 := by omega
          have HK0 := Lib.hid ha0
          have HK1 := Lib.hid ha1
          clear ha0 ha1
          cases hr : rightV ⟨K, n, s⟩
          · have HE : Hid (firstC l m = 1) := by show firstC l m = 1; rw [HST.out]; simp [checkC, hr]
            have HR := Lib.hid hr
            clear hr
            go_wp2_with (go_at_call 29; refine (refRightV_any _ _ _ _).mono ?_; rintro e w1 ⟨rfl, hb1⟩; rw [HR.out]; replace c0 := cell_later hb1 c0; replace c1 := cell_later hb1 c1; replace c2 := cell_later hb1 c2; replace c3 := cell_later hb1 c3; replace d0 := cell_later hb1 d0; replace d1 := cell_later hb1 d1; replace d2 := cell_later hb1 d2; have HB1 := Lib.hid (below_then HBW.out hb1); clear hb1)
            go_ret
            rw [HQ.out, HE.out]
            exact ⟨rfl, HB1.out⟩
          · have HR := Lib.hid hr
            have hnr : ¬ rightV ⟨K, n, s⟩ = false := by rw [hr]; decide
            clear hr
            by_cases z : K = 0
            · subst z
              cases nl
              · have HE : Hid (firstC l m = firstC (l.drop (k + 1)) (m.drop (k + 1))) := by show firstC l m = _; rw [HST.out]; simp [checkC, hnr, HK0.out, HK1.out]
                clear hnr
                go_wp2_with (go_at_call 29; refine (refRightV_any _ _ _ _).mono ?_; rintro e w1 ⟨rfl, hb1⟩; rw [HR.out]; replace c0 := cell_later hb1 c0; replace c1 := cell_later hb1 c1; replace c2 := cell_later hb1 c2; replace c3 := cell_later hb1 c3; replace d0 := cell_later hb1 d0; replace d1 := cell_later hb1 d1; replace d2 := cell_later hb1 d2; have HB1 := Lib.hid (below_then HBW.out hb1); clear hb1)
                go_roundw
                case rel => exact ⟨k + 1, by omega, by go_num, HE.out, HB1.out⟩
                case measure => simp [intOf]; omega
              · have HE : Hid (firstC l m = firstC (l.drop (k + 1)) (m.drop (k + 1))) := by show firstC l m = _; rw [HST.out]; simp [checkC, hnr, HK0.out, HK1.out]
                clear hnr
                go_wp2_with (go_at_call 29; refine (refRightV_any _ _ _ _).mono ?_; rintro e w1 ⟨rfl, hb1⟩; rw [HR.out]; replace c0 := cell_later hb1 c0; replace c1 := cell_later hb1 c1; replace c2 := cell_later hb1 c2; replace c3 := cell_later hb1 c3; replace d0 := cell_later hb1 d0; replace d1 := cell_later hb1 d1; replace d2 := cell_later hb1 d2; have HB1 := Lib.hid (below_then HBW.out hb1); clear hb1)
                go_roundw
                case rel => exact ⟨k + 1, by omega, by go_num, HE.out, HB1.out⟩
                case measure => simp [intOf]; omega
            · have z0 : (K == 0) = false := by rw [beq_eq_false_iff_ne]; exact z
              obtain ⟨q, hq⟩ : ∃ q, kindC ⟨nm, kd, ty, nl⟩ = q := ⟨_, rfl⟩
              have HKC := Lib.hid hq
              by_cases hkk : K = q
              · have HE : Hid (firstC l m = firstC (l.drop (k + 1)) (m.drop (k + 1))) := by show firstC l m = _; rw [HST.out]; unfold checkC; rw [if_neg hnr, if_neg z, hq, if_pos hkk, if_pos rfl]
                have z2 : (K != q) = false := by rw [bne_eq_false_iff_eq]; exact hkk
                clear hnr hkk hq z
                go_wp2_with (go_at_call 29; refine (refRightV_any _ _ _ _).mono ?_; rintro e w1 ⟨rfl, hb1⟩; rw [HR.out]; replace c0 := cell_later hb1 c0; replace c1 := cell_later hb1 c1; replace c2 := cell_later hb1 c2; replace c3 := cell_later hb1 c3; replace d0 := cell_later hb1 d0; replace d1 := cell_later hb1 d1; replace d2 := cell_later hb1 d2; have HB1 := Lib.hid (below_then HBW.out hb1); clear hb1)
                have cS : ∀ d os, Calls Try.prog 13 #[.agg #[.string nm, .int .i64 kd, .int .i64 ty, .bool nl]] (grow (redrawn w1 d) os) fun e w'' => e = .returned (.int .i64 (kindC ⟨nm, kd, ty, nl⟩)) ∧ ∃ p : Regrown, w'' = grow (redrawn w1 p.d) p.os := fun d os => Calls.regrown_of (refKind_any _ _ _ _ _)
                rw [HKC.out] at cS
                have kc0 := cell_regrown c0
                have kc1 := cell_regrown c1
                have kc2 := cell_regrown c2
                have kc3 := cell_regrown c3
                have kd0 := cell_regrown d0
                have kd1 := cell_regrown d1
                have kd2 := cell_regrown d2
                refine wp_region_quiet_below (by kernel_rfl) (by kernel_rfl) ?_
                repeat (go_big_quiet_step (first | exact cS _ _))
                refine wpQuiet_nil ?_
                intro _ hw'
                obtain ⟨⟨dq, osq⟩, hw''⟩ := hw'
                subst hw''
                clear kc0 kc1 kc2 kc3 kd0 kd1 kd2 cS
                have hb2 := below_regrown w1 dq osq
                generalize grow (redrawn w1 dq) osq = w2 at *
                replace c0 := cell_later hb2 c0
                replace c1 := cell_later hb2 c1
                replace c2 := cell_later hb2 c2
                replace c3 := cell_later hb2 c3
                replace d0 := cell_later hb2 d0
                replace d1 := cell_later hb2 d1
                replace d2 := cell_later hb2 d2
                go_wp2_with fail
                go_roundw
                case rel => exact ⟨k + 1, by omega, by go_num, HE.out, below_then HB1.out hb2⟩
                case measure => simp [intOf]; omega
              · have HE : Hid (firstC l m = 6) := by show firstC l m = _; rw [HST.out]; simp [checkC, hnr, z, hq, hkk]
                have z2 : (K != q) = true := by rw [bne_iff_ne]; exact hkk
                clear hnr hkk hq z
                go_wp2_with (go_at_call 29; refine (refRightV_any _ _ _ _).mono ?_; rintro e w1 ⟨rfl, hb1⟩; rw [HR.out]; replace c0 := cell_later hb1 c0; replace c1 := cell_later hb1 c1; replace c2 := cell_later hb1 c2; replace c3 := cell_later hb1 c3; replace d0 := cell_later hb1 d0; replace d1 := cell_later hb1 d1; replace d2 := cell_later hb1 d2; have HB1 := Lib.hid (below_then HBW.out hb1); clear hb1)
                have cS : ∀ d os, Calls Try.prog 13 #[.agg #[.string nm, .int .i64 kd, .int .i64 ty, .bool nl]] (grow (redrawn w1 d) os) fun e w'' => e = .returned (.int .i64 (kindC ⟨nm, kd, ty, nl⟩)) ∧ ∃ p : Regrown, w'' = grow (redrawn w1 p.d) p.os := fun d os => Calls.regrown_of (refKind_any _ _ _ _ _)
                rw [HKC.out] at cS
                have kc0 := cell_regrown c0
                have kc1 := cell_regrown c1
                have kc2 := cell_regrown c2
                have kc3 := cell_regrown c3
                have kd0 := cell_regrown d0
                have kd1 := cell_regrown d1
                have kd2 := cell_regrown d2
                refine wp_region_quiet_below (by kernel_rfl) (by kernel_rfl) ?_
                repeat (go_big_quiet_step (first | exact cS _ _))
                refine wpQuiet_nil ?_
                intro _ hw'
                obtain ⟨⟨dq, osq⟩, hw''⟩ := hw'
                subst hw''
                clear kc0 kc1 kc2 kc3 kd0 kd1 kd2 cS
                have hb2 := below_regrown w1 dq osq
                generalize grow (redrawn w1 dq) osq = w2 at *
                replace c0 := cell_later hb2 c0
                replace c1 := cell_later hb2 c1
                replace c2 := cell_later hb2 c2
                replace c3 := cell_later hb2 c3
                replace d0 := cell_later hb2 d0
                replace d1 := cell_later hb2 d1
                replace d2 := cell_later hb2 d2
                go_wp2_with fail
                go_ret
                rw [HQ.out, HE.out]
                exact ⟨rfl, below_then HB1.out hb2⟩
        · have a0 : (kd == 0) = false := by rw [beq_eq_false_iff_ne]; omega
          have ha0 : kd ≠ 0 := by omega
          have ha1 : kd ≠ 1 := by omega
          have HK0 := Lib.hid ha0
          have HK1 := Lib.hid ha1
          clear ha0 ha1
          cases hr : rightV ⟨K, n, s⟩
          · have HE : Hid (firstC l m = 1) := by show firstC l m = 1; rw [HST.out]; simp [checkC, hr]
            have HR := Lib.hid hr
            clear hr
            go_wp2_with (go_at_call 29; refine (refRightV_any _ _ _ _).mono ?_; rintro e w1 ⟨rfl, hb1⟩; rw [HR.out]; replace c0 := cell_later hb1 c0; replace c1 := cell_later hb1 c1; replace c2 := cell_later hb1 c2; replace c3 := cell_later hb1 c3; replace d0 := cell_later hb1 d0; replace d1 := cell_later hb1 d1; replace d2 := cell_later hb1 d2; have HB1 := Lib.hid (below_then HBW.out hb1); clear hb1)
            go_ret
            rw [HQ.out, HE.out]
            exact ⟨rfl, HB1.out⟩
          · have HR := Lib.hid hr
            have hnr : ¬ rightV ⟨K, n, s⟩ = false := by rw [hr]; decide
            clear hr
            by_cases z : K = 0
            · subst z
              cases nl
              · have HE : Hid (firstC l m = firstC (l.drop (k + 1)) (m.drop (k + 1))) := by show firstC l m = _; rw [HST.out]; simp [checkC, hnr, HK0.out, HK1.out]
                clear hnr
                go_wp2_with (go_at_call 29; refine (refRightV_any _ _ _ _).mono ?_; rintro e w1 ⟨rfl, hb1⟩; rw [HR.out]; replace c0 := cell_later hb1 c0; replace c1 := cell_later hb1 c1; replace c2 := cell_later hb1 c2; replace c3 := cell_later hb1 c3; replace d0 := cell_later hb1 d0; replace d1 := cell_later hb1 d1; replace d2 := cell_later hb1 d2; have HB1 := Lib.hid (below_then HBW.out hb1); clear hb1)
                go_roundw
                case rel => exact ⟨k + 1, by omega, by go_num, HE.out, HB1.out⟩
                case measure => simp [intOf]; omega
              · have HE : Hid (firstC l m = firstC (l.drop (k + 1)) (m.drop (k + 1))) := by show firstC l m = _; rw [HST.out]; simp [checkC, hnr, HK0.out, HK1.out]
                clear hnr
                go_wp2_with (go_at_call 29; refine (refRightV_any _ _ _ _).mono ?_; rintro e w1 ⟨rfl, hb1⟩; rw [HR.out]; replace c0 := cell_later hb1 c0; replace c1 := cell_later hb1 c1; replace c2 := cell_later hb1 c2; replace c3 := cell_later hb1 c3; replace d0 := cell_later hb1 d0; replace d1 := cell_later hb1 d1; replace d2 := cell_later hb1 d2; have HB1 := Lib.hid (below_then HBW.out hb1); clear hb1)
                go_roundw
                case rel => exact ⟨k + 1, by omega, by go_num, HE.out, HB1.out⟩
                case measure => simp [intOf]; omega
            · have z0 : (K == 0) = false := by rw [beq_eq_false_iff_ne]; exact z
              obtain ⟨q, hq⟩ : ∃ q, kindC ⟨nm, kd, ty, nl⟩ = q := ⟨_, rfl⟩
              have HKC := Lib.hid hq
              by_cases hkk : K = q
              · have HE : Hid (firstC l m = firstC (l.drop (k + 1)) (m.drop (k + 1))) := by show firstC l m = _; rw [HST.out]; unfold checkC; rw [if_neg hnr, if_neg z, hq, if_pos hkk, if_pos rfl]
                have z2 : (K != q) = false := by rw [bne_eq_false_iff_eq]; exact hkk
                clear hnr hkk hq z
                go_wp2_with (go_at_call 29; refine (refRightV_any _ _ _ _).mono ?_; rintro e w1 ⟨rfl, hb1⟩; rw [HR.out]; replace c0 := cell_later hb1 c0; replace c1 := cell_later hb1 c1; replace c2 := cell_later hb1 c2; replace c3 := cell_later hb1 c3; replace d0 := cell_later hb1 d0; replace d1 := cell_later hb1 d1; replace d2 := cell_later hb1 d2; have HB1 := Lib.hid (below_then HBW.out hb1); clear hb1)
                have cS : ∀ d os, Calls Try.prog 13 #[.agg #[.string nm, .int .i64 kd, .int .i64 ty, .bool nl]] (grow (redrawn w1 d) os) fun e w'' => e = .returned (.int .i64 (kindC ⟨nm, kd, ty, nl⟩)) ∧ ∃ p : Regrown, w'' = grow (redrawn w1 p.d) p.os := fun d os => Calls.regrown_of (refKind_any _ _ _ _ _)
                rw [HKC.out] at cS
                have kc0 := cell_regrown c0
                have kc1 := cell_regrown c1
                have kc2 := cell_regrown c2
                have kc3 := cell_regrown c3
                have kd0 := cell_regrown d0
                have kd1 := cell_regrown d1
                have kd2 := cell_regrown d2
                refine wp_region_quiet_below (by kernel_rfl) (by kernel_rfl) ?_
                repeat (go_big_quiet_step (first | exact cS _ _))
                refine wpQuiet_nil ?_
                intro _ hw'
                obtain ⟨⟨dq, osq⟩, hw''⟩ := hw'
                subst hw''
                clear kc0 kc1 kc2 kc3 kd0 kd1 kd2 cS
                have hb2 := below_regrown w1 dq osq
                generalize grow (redrawn w1 dq) osq = w2 at *
                replace c0 := cell_later hb2 c0
                replace c1 := cell_later hb2 c1
                replace c2 := cell_later hb2 c2
                replace c3 := cell_later hb2 c3
                replace d0 := cell_later hb2 d0
                replace d1 := cell_later hb2 d1
                replace d2 := cell_later hb2 d2
                go_wp2_with fail
                go_roundw
                case rel => exact ⟨k + 1, by omega, by go_num, HE.out, below_then HB1.out hb2⟩
                case measure => simp [intOf]; omega
              · have HE : Hid (firstC l m = 6) := by show firstC l m = _; rw [HST.out]; simp [checkC, hnr, z, hq, hkk]
                have z2 : (K != q) = true := by rw [bne_iff_ne]; exact hkk
                clear hnr hkk hq z
                go_wp2_with (go_at_call 29; refine (refRightV_any _ _ _ _).mono ?_; rintro e w1 ⟨rfl, hb1⟩; rw [HR.out]; replace c0 := cell_later hb1 c0; replace c1 := cell_later hb1 c1; replace c2 := cell_later hb1 c2; replace c3 := cell_later hb1 c3; replace d0 := cell_later hb1 d0; replace d1 := cell_later hb1 d1; replace d2 := cell_later hb1 d2; have HB1 := Lib.hid (below_then HBW.out hb1); clear hb1)
                have cS : ∀ d os, Calls Try.prog 13 #[.agg #[.string nm, .int .i64 kd, .int .i64 ty, .bool nl]] (grow (redrawn w1 d) os) fun e w'' => e = .returned (.int .i64 (kindC ⟨nm, kd, ty, nl⟩)) ∧ ∃ p : Regrown, w'' = grow (redrawn w1 p.d) p.os := fun d os => Calls.regrown_of (refKind_any _ _ _ _ _)
                rw [HKC.out] at cS
                have kc0 := cell_regrown c0
                have kc1 := cell_regrown c1
                have kc2 := cell_regrown c2
                have kc3 := cell_regrown c3
                have kd0 := cell_regrown d0
                have kd1 := cell_regrown d1
                have kd2 := cell_regrown d2
                refine wp_region_quiet_below (by kernel_rfl) (by kernel_rfl) ?_
                repeat (go_big_quiet_step (first | exact cS _ _))
                refine wpQuiet_nil ?_
                intro _ hw'
                obtain ⟨⟨dq, osq⟩, hw''⟩ := hw'
                subst hw''
                clear kc0 kc1 kc2 kc3 kd0 kd1 kd2 cS
                have hb2 := below_regrown w1 dq osq
                generalize grow (redrawn w1 dq) osq = w2 at *
                replace c0 := cell_later hb2 c0
                replace c1 := cell_later hb2 c1
                replace c2 := cell_later hb2 c2
                replace c3 := cell_later hb2 c3
                replace d0 := cell_later hb2 d0
                replace d1 := cell_later hb2 d1
                replace d2 := cell_later hb2 d2
                go_wp2_with fail
                go_ret
                rw [HQ.out, HE.out]
                exact ⟨rfl, below_then HB1.out hb2⟩
      · have HN := Lib.hid (firstC_end (show k = m.length by omega) htk.out)
        go_wp2_with fail
        go_ret
        rw [HQ.out, HN.out]
        exact ⟨rfl, hbw⟩
  · have hl' : ((l.length : Int) != (m.length : Int)) = true := by simp; omega
    have HQ := Lib.hid (show rightR l m = 1 by unfold rightR; rw [if_neg hl])
    clear hl
    go_enter Try.func15, Try.ntmps15
    go_wp2
    go_ret
    rw [HQ.out]
    exact ⟨rfl, Below.refl _ _⟩
  
end Go.Proofs.Ytdfdgnnlpopkmaa
