/-
  Layer 24 (zset): may items be: the two walks. (printed by tools/gen_zx.py)
-/
import Derived.Test.YtgmemdhbnnhifaaZV
namespace Go.Proofs.Ytgmemdhbnnhifaa
open Go.RowKit Go.Sort Go.BigFrame

theorem right_zero2 {l : List It} {k : Nat} {x : It} (hx : l[k]? = some x) (h : x.many = 0) : ¬ RightAt l k := fun ⟨y, hy, h1, _⟩ => by
  rw [hx] at hy; cases hy; exact h1 h
theorem right_by2 {l : List It} {k : Nat} {x : It} (hx : l[k]? = some x) (h : ¬ x.bn = 0) : ¬ RightAt l k := fun ⟨y, hy, _, h1, _⟩ => by
  rw [hx] at hy; cases hy; exact h h1
theorem right_less2 {l : List It} {k j : Nat} {x y : It} (hj : k = j + 1) (hx : l[k]? = some x) (hy : l[j]? = some y) (h : lessR y.row x.row = false) : ¬ RightAt l k := fun ⟨u, hu, _, _, h1⟩ => by
  rw [hx] at hu; cases hu
  have := h1 y (by omega) (by rw [hj]; exact hy)
  rw [h] at this; cases this
theorem right_yes2 {l : List It} {k j : Nat} {x : It} (hx : l[k]? = some x) (h : x.many ≠ 0) (h' : x.bn = 0) (hj : 0 < k → k = j + 1) (hl : 0 < k → ∃ y, l[j]? = some y ∧ lessR y.row x.row = true) : RightAt l k :=
  ⟨x, hx, h, h', fun y hk hy => by
    obtain ⟨u, hu, hl⟩ := hl hk
    rw [hj hk, Nat.add_sub_cancel, hu] at hy; cases hy; exact hl⟩

set_option maxRecDepth 100000 in
set_option maxHeartbeats 4000000 in
theorem rightI_any (va : Value) (l : List It) (w : World) (ha : IRd w va l) (hn : l.length ≤ 1000000) :
    Calls Try.prog 11 #[va] w (RightPost w l) := by
  obtain ⟨ao, c, rfl, hnc, hcm, _, _⟩ := id ha.1
  obtain ⟨n, hln⟩ : ∃ n, l.length = n := ⟨_, rfl⟩
  have HA := Lib.hid ha
  have HLN := Lib.hid hln
  rw [hln] at hnc hn
  rw [hln]
  unfold maxLen at hcm
  clear ha hln
  go_enter Try.func11, Try.ntmps11
  go_wp2_with fail
  go_loopw [7] (fun vi wr => ∃ k : Nat, k ≤ n ∧ vi = .int .i64 k ∧ Hid (∀ j, j < k → RightAt l j) ∧ Hid (Below w.heap.size w wr)) (fun vi _ => n - (intOf vi).toNat)
  case atStart => exact ⟨0, Nat.zero_le _, rfl, (fun j hj => absurd hj (by omega)), Below.refl _ _⟩
  case round =>
    obtain ⟨k, hk, rfl, hall, hbw⟩ := hrel
    rename World => wr
    by_cases hlt : k < n
    · have hkl : k < l.length := by have := HLN.out; omega
      obtain ⟨b1, o1, x1, c0, c1, c2, _⟩ := rd_it (HA.out.1.later hbw.out) rfl k hkl
      rw [HLN.out] at x1
      have hvx := (HA.out.2 _ (List.getElem_mem hkl)).later hbw.out
      have hgx := List.getElem?_eq_getElem hkl
      obtain ⟨x, hx⟩ : ∃ x, l[k] = x := ⟨_, rfl⟩
      rw [hx] at c0 c1 c2 hvx hgx
      have HX := Lib.hid hgx
      clear hx hgx
      have hbx := below_alloc wr (.cells #[.slice x.ra x.rn x.rc, .int .i64 x.many, .slice x.ba x.bn x.bc] 39)
      have hcx := cell_later hbx c0
      obtain ⟨w1, hw1⟩ : ∃ w1, wr.alloc (.cells #[.slice x.ra x.rn x.rc, .int .i64 x.many, .slice x.ba x.bn x.bc] 39) = w1 := ⟨_, rfl⟩
      have e0 : w1.cell? ⟨wr.heap.size, 0, none⟩ = some (.slice x.ra x.rn x.rc) := by rw [← hw1]; simp [go_sem]
      have e1 : w1.cell? ⟨wr.heap.size, 1, none⟩ = some (.int .i64 x.many) := by rw [← hw1]; simp [go_sem]
      have e2 : w1.cell? ⟨wr.heap.size, 2, none⟩ = some (.slice x.ba x.bn x.bc) := by rw [← hw1]; simp [go_sem]
      rw [hw1] at hbx
      have HW := Lib.hid hw1
      have HBX := Lib.hid hbx
      clear hw1 hbx hcx
      have HVX : Hid (Vit w1 x) := hvx.later HBX.out
      unfold Vit at HVX
      clear hvx
      cases hm : (x.many == 0)
      · have HM := Lib.hid hm
        by_cases hbn : x.bn = 0
        · have hbf : decide (0 < x.bn) = false := decide_eq_false (by omega)
          have hbi : ¬ (0 : Int) < (x.bn : Int) := by omega
          have hbi2 : decide ((0 : Int) < (x.bn : Int)) = false := decide_eq_false (by omega)
          have HBN := Lib.hid hbn
          clear hbn
          by_cases hk0 : k = 0
          · have hkf : decide (0 < k) = false := decide_eq_false (by omega)
            have hki : ¬ (0 : Int) < (k : Int) := by omega
            have hki2 : decide ((0 : Int) < (k : Int)) = false := decide_eq_false (by omega)
            have HK0 := Lib.hid hk0
            clear hk0
            go_wp2_with fail
            rw [HW.out]
            have ke0 := cell_regrown e0
            have ke1 := cell_regrown e1
            have ke2 := cell_regrown e2
            refine wp_region_quiet_below (by kernel_rfl) (by kernel_rfl) ?_
            repeat (go_big_quiet_step (first | fail))
            refine wpQuiet_nil ?_
            intro _ hw'
            obtain ⟨⟨dq, osq⟩, hw''⟩ := hw'
            subst hw''
            clear ke0 ke1 ke2
            have hb2 := below_regrown w1 dq osq
            generalize grow (redrawn w1 dq) osq = w2 at *
            replace e0 := cell_later hb2 e0
            replace e1 := cell_later hb2 e1
            replace e2 := cell_later hb2 e2
            have HB2 := Lib.hid (below_then (below_then hbw.out HBX.out) hb2)
            clear hb2
            go_wp2_with fail
            go_roundw
            case rel => exact ⟨k + 1, by omega, by go_num, right_next hall.out (right_yes2 (j := 0) HX.out (by simpa using HM.out) HBN.out (fun h => absurd h (by have := HK0.out; omega)) (fun h => absurd h (by have := HK0.out; omega))), HB2.out⟩
            case measure => simp [intOf]; omega
          · obtain ⟨j, hj⟩ : ∃ j, k = j + 1 := ⟨k - 1, by omega⟩
            have hkf : decide (0 < k) = true := decide_eq_true (by omega)
            have hki : (0 : Int) < (k : Int) := by omega
            have hki2 : decide ((0 : Int) < (k : Int)) = true := decide_eq_true (by omega)
            have hjl : j < l.length := by omega
            obtain ⟨b2, o2, x2, d0, _, _, _⟩ := rd_it (HA.out.1.later (below_then hbw.out HBX.out)) rfl j hjl
            rw [HLN.out] at x2
            have hvy := (HA.out.2 _ (List.getElem_mem hjl)).later (below_then hbw.out HBX.out)
            have hgy := List.getElem?_eq_getElem hjl
            obtain ⟨y, hy⟩ : ∃ y, l[j] = y := ⟨_, rfl⟩
            rw [hy] at d0 hvy hgy
            have HVY := Lib.hid hvy
            unfold Vit at HVY
            have HY := Lib.hid hgy
            have hq1 : (k : Int) - 1 = (j : Int) := by omega
            have hq2 : (0 : Int) ≤ (j : Int) := by omega
            have hq3 : (j : Int) < (n : Int) := by omega
            have hwr : IntKind.i64.wrap (j : Int) = (j : Int) := by rw [IntKind.wrap_i64]; omega
            have HJ := Lib.hid hj
            clear hj hy hgy hvy hk0
            have cS : ∀ d os, Calls Try.prog 26 #[.slice y.ra y.rn y.rc, .slice x.ra x.rn x.rc] (grow (redrawn w1 d) os) fun e w'' => e = .returned (.bool (lessR y.row x.row)) ∧ ∃ p : Regrown, w'' = grow (redrawn w1 p.d) p.os := fun d os => Calls.regrown_of ((lessR_any _ _ y.row x.row _ (HVY.out.later (below_regrown w1 d os)) (HVX.out.later (below_regrown w1 d os))))
            cases hl : lessR y.row x.row
            all_goals
              rw [hl] at cS
              have HL := Lib.hid hl
              clear hl
            · go_wp2_with fail
              rw [HW.out]
              have ke0 := cell_regrown e0
              have ke1 := cell_regrown e1
              have ke2 := cell_regrown e2
              have kd0 := cell_regrown d0
              refine wp_region_quiet_below (by kernel_rfl) (by kernel_rfl) ?_
              repeat (go_big_quiet_step (first | exact cS _ _))
              refine wpQuiet_nil ?_
              intro _ hw'
              obtain ⟨⟨dq, osq⟩, hw''⟩ := hw'
              subst hw''
              clear ke0 ke1 ke2 kd0 cS
              have hb2 := below_regrown w1 dq osq
              generalize grow (redrawn w1 dq) osq = w2 at *
              replace e0 := cell_later hb2 e0
              replace e1 := cell_later hb2 e1
              replace e2 := cell_later hb2 e2
              replace d0 := cell_later hb2 d0
              have HB2 := Lib.hid (below_then (below_then hbw.out HBX.out) hb2)
              clear hb2
              go_wp2_with fail
              go_ret
              exact ⟨false, rfl, right_not (by have := HLN.out; omega) (right_less2 HJ.out HX.out HY.out HL.out), HB2.out⟩
            · go_wp2_with fail
              rw [HW.out]
              have ke0 := cell_regrown e0
              have ke1 := cell_regrown e1
              have ke2 := cell_regrown e2
              have kd0 := cell_regrown d0
              refine wp_region_quiet_below (by kernel_rfl) (by kernel_rfl) ?_
              repeat (go_big_quiet_step (first | exact cS _ _))
              refine wpQuiet_nil ?_
              intro _ hw'
              obtain ⟨⟨dq, osq⟩, hw''⟩ := hw'
              subst hw''
              clear ke0 ke1 ke2 kd0 cS
              have hb2 := below_regrown w1 dq osq
              generalize grow (redrawn w1 dq) osq = w2 at *
              replace e0 := cell_later hb2 e0
              replace e1 := cell_later hb2 e1
              replace e2 := cell_later hb2 e2
              replace d0 := cell_later hb2 d0
              have HB2 := Lib.hid (below_then (below_then hbw.out HBX.out) hb2)
              clear hb2
              go_wp2_with fail
              go_roundw
              case rel => exact ⟨k + 1, by omega, by go_num, right_next hall.out (right_yes2 HX.out (by simpa using HM.out) HBN.out (fun _ => HJ.out) (fun _ => ⟨_, HY.out, HL.out⟩)), HB2.out⟩
              case measure => simp [intOf]; omega
        · have hbf : decide (0 < x.bn) = true := decide_eq_true (by omega)
          have hbi : (0 : Int) < (x.bn : Int) := by omega
          have hbi2 : decide ((0 : Int) < (x.bn : Int)) = true := decide_eq_true (by omega)
          have HBN := Lib.hid hbn
          clear hbn
          go_wp2_with fail
          rw [HW.out]
          have ke0 := cell_regrown e0
          have ke1 := cell_regrown e1
          have ke2 := cell_regrown e2
          refine wp_region_quiet_below (by kernel_rfl) (by kernel_rfl) ?_
          repeat (go_big_quiet_step (first | fail))
          refine wpQuiet_nil ?_
          intro _ hw'
          obtain ⟨⟨dq, osq⟩, hw''⟩ := hw'
          subst hw''
          clear ke0 ke1 ke2
          have hb2 := below_regrown w1 dq osq
          generalize grow (redrawn w1 dq) osq = w2 at *
          replace e0 := cell_later hb2 e0
          replace e1 := cell_later hb2 e1
          replace e2 := cell_later hb2 e2
          have HB2 := Lib.hid (below_then (below_then hbw.out HBX.out) hb2)
          clear hb2
          go_wp2_with fail
          go_ret
          exact ⟨false, rfl, right_not (by have := HLN.out; omega) (right_by2 HX.out HBN.out), HB2.out⟩
      · have HM := Lib.hid hm
        go_wp2_with fail
        rw [HW.out]
        have ke0 := cell_regrown e0
        have ke1 := cell_regrown e1
        have ke2 := cell_regrown e2
        refine wp_region_quiet_below (by kernel_rfl) (by kernel_rfl) ?_
        repeat (go_big_quiet_step (first | fail))
        refine wpQuiet_nil ?_
        intro _ hw'
        obtain ⟨⟨dq, osq⟩, hw''⟩ := hw'
        subst hw''
        clear ke0 ke1 ke2
        have hb2 := below_regrown w1 dq osq
        generalize grow (redrawn w1 dq) osq = w2 at *
        replace e0 := cell_later hb2 e0
        replace e1 := cell_later hb2 e1
        replace e2 := cell_later hb2 e2
        have HB2 := Lib.hid (below_then (below_then hbw.out HBX.out) hb2)
        clear hb2
        go_wp2_with fail
        go_ret
        exact ⟨false, rfl, right_not (by have := HLN.out; omega) (right_zero2 HX.out (by simpa using HM.out)), HB2.out⟩
    · have hkn : k = n := by omega
      subst hkn
      have hr : RightP l := fun j hj => hall.out j (by have := HLN.out; omega)
      have HR := Lib.hid hr
      clear hr
      go_wp2_with fail
      go_ret
      exact ⟨true, rfl, ⟨fun _ => HR.out, fun _ => rfl⟩, hbw.out⟩

set_option maxRecDepth 100000 in
set_option maxHeartbeats 4000000 in
theorem refRightI_any (va : Value) (l : List It) (w : World) (ha : IRd w va l) (hn : l.length ≤ 1000000) :
    Calls Try.prog 12 #[va] w (RightPost w l) := by
  obtain ⟨ao, c, rfl, hnc, hcm, _, _⟩ := id ha.1
  obtain ⟨n, hln⟩ : ∃ n, l.length = n := ⟨_, rfl⟩
  have HA := Lib.hid ha
  have HLN := Lib.hid hln
  rw [hln] at hnc hn
  rw [hln]
  unfold maxLen at hcm
  clear ha hln
  go_enter Try.func12, Try.ntmps12
  go_wp2_with fail
  go_loopw [3] (fun vi wr => ∃ k : Nat, k ≤ n ∧ vi = .int .i64 k ∧ Hid (∀ j, j < k → RightAt l j) ∧ Hid (Below w.heap.size w wr)) (fun vi _ => n - (intOf vi).toNat)
  case atStart => exact ⟨0, Nat.zero_le _, rfl, (fun j hj => absurd hj (by omega)), Below.refl _ _⟩
  case round =>
    obtain ⟨k, hk, rfl, hall, hbw⟩ := hrel
    rename World => wr
    by_cases hlt : k < n
    · have hkl : k < l.length := by have := HLN.out; omega
      obtain ⟨b1, o1, x1, c0, c1, c2, _⟩ := rd_it (HA.out.1.later hbw.out) rfl k hkl
      rw [HLN.out] at x1
      have hvx := (HA.out.2 _ (List.getElem_mem hkl)).later hbw.out
      have hgx := List.getElem?_eq_getElem hkl
      obtain ⟨x, hx⟩ : ∃ x, l[k] = x := ⟨_, rfl⟩
      rw [hx] at c0 c1 c2 hvx hgx
      have HX := Lib.hid hgx
      clear hx hgx
      have HBX : Hid (Below wr.heap.size wr wr) := Below.refl _ _
      have HVX : Hid (Vit wr x) := hvx.later HBX.out
      unfold Vit at HVX
      clear hvx
      cases hm : (x.many == 0)
      · have HM := Lib.hid hm
        by_cases hbn : x.bn = 0
        · have hbf : decide (0 < x.bn) = false := decide_eq_false (by omega)
          have hbi : ¬ (0 : Int) < (x.bn : Int) := by omega
          have hbi2 : decide ((0 : Int) < (x.bn : Int)) = false := decide_eq_false (by omega)
          have HBN := Lib.hid hbn
          clear hbn
          by_cases hk0 : k = 0
          · have hkf : decide (0 < k) = false := decide_eq_false (by omega)
            have hki : ¬ (0 : Int) < (k : Int) := by omega
            have hki2 : decide ((0 : Int) < (k : Int)) = false := decide_eq_false (by omega)
            have HK0 := Lib.hid hk0
            clear hk0
            go_wp2_with fail
            go_roundw
            case rel => exact ⟨k + 1, by omega, by go_num, right_next hall.out (right_yes2 (j := 0) HX.out (by simpa using HM.out) HBN.out (fun h => absurd h (by have := HK0.out; omega)) (fun h => absurd h (by have := HK0.out; omega))), hbw.out⟩
            case measure => simp [intOf]; omega
          · obtain ⟨j, hj⟩ : ∃ j, k = j + 1 := ⟨k - 1, by omega⟩
            have hkf : decide (0 < k) = true := decide_eq_true (by omega)
            have hki : (0 : Int) < (k : Int) := by omega
            have hki2 : decide ((0 : Int) < (k : Int)) = true := decide_eq_true (by omega)
            have hjl : j < l.length := by omega
            obtain ⟨b2, o2, x2, d0, _, _, _⟩ := rd_it (HA.out.1.later (below_then hbw.out HBX.out)) rfl j hjl
            rw [HLN.out] at x2
            have hvy := (HA.out.2 _ (List.getElem_mem hjl)).later (below_then hbw.out HBX.out)
            have hgy := List.getElem?_eq_getElem hjl
            obtain ⟨y, hy⟩ : ∃ y, l[j] = y := ⟨_, rfl⟩
            rw [hy] at d0 hvy hgy
            have HVY := Lib.hid hvy
            unfold Vit at HVY
            have HY := Lib.hid hgy
            have hq1 : (k : Int) - 1 = (j : Int) := by omega
            have hq2 : (0 : Int) ≤ (j : Int) := by omega
            have hq3 : (j : Int) < (n : Int) := by omega
            have hwr : IntKind.i64.wrap (j : Int) = (j : Int) := by rw [IntKind.wrap_i64]; omega
            have HJ := Lib.hid hj
            clear hj hy hgy hvy hk0
            have cS : ∀ d os, Calls Try.prog 30 #[.slice y.ra y.rn y.rc, .slice x.ra x.rn x.rc] (grow (redrawn wr d) os) fun e w'' => e = .returned (.bool (lessR y.row x.row)) ∧ ∃ p : Regrown, w'' = grow (redrawn wr p.d) p.os := fun d os => Calls.regrown_of ((refLessR_any _ _ y.row x.row _ (HVY.out.later (below_regrown wr d os)) (HVX.out.later (below_regrown wr d os))))
            cases hl : lessR y.row x.row
            all_goals
              rw [hl] at cS
              have HL := Lib.hid hl
              clear hl
            · go_wp2_with fail
              have kc0 := cell_regrown c0
              have kc1 := cell_regrown c1
              have kc2 := cell_regrown c2
              have kd0 := cell_regrown d0
              refine wp_region_quiet_below (by kernel_rfl) (by kernel_rfl) ?_
              repeat (go_big_quiet_step (first | exact cS _ _))
              refine wpQuiet_nil ?_
              intro _ hw'
              obtain ⟨⟨dq, osq⟩, hw''⟩ := hw'
              subst hw''
              clear kc0 kc1 kc2 kd0 cS
              have hb2 := below_regrown wr dq osq
              generalize grow (redrawn wr dq) osq = w2 at *
              replace c0 := cell_later hb2 c0
              replace c1 := cell_later hb2 c1
              replace c2 := cell_later hb2 c2
              replace d0 := cell_later hb2 d0
              have HB2 := Lib.hid (below_then (below_then hbw.out HBX.out) hb2)
              clear hb2
              go_wp2_with fail
              go_ret
              exact ⟨false, rfl, right_not (by have := HLN.out; omega) (right_less2 HJ.out HX.out HY.out HL.out), HB2.out⟩
            · go_wp2_with fail
              have kc0 := cell_regrown c0
              have kc1 := cell_regrown c1
              have kc2 := cell_regrown c2
              have kd0 := cell_regrown d0
              refine wp_region_quiet_below (by kernel_rfl) (by kernel_rfl) ?_
              repeat (go_big_quiet_step (first | exact cS _ _))
              refine wpQuiet_nil ?_
              intro _ hw'
              obtain ⟨⟨dq, osq⟩, hw''⟩ := hw'
              subst hw''
              clear kc0 kc1 kc2 kd0 cS
              have hb2 := below_regrown wr dq osq
              generalize grow (redrawn wr dq) osq = w2 at *
              replace c0 := cell_later hb2 c0
              replace c1 := cell_later hb2 c1
              replace c2 := cell_later hb2 c2
              replace d0 := cell_later hb2 d0
              have HB2 := Lib.hid (below_then (below_then hbw.out HBX.out) hb2)
              clear hb2
              go_wp2_with fail
              go_roundw
              case rel => exact ⟨k + 1, by omega, by go_num, right_next hall.out (right_yes2 HX.out (by simpa using HM.out) HBN.out (fun _ => HJ.out) (fun _ => ⟨_, HY.out, HL.out⟩)), HB2.out⟩
              case measure => simp [intOf]; omega
        · have hbf : decide (0 < x.bn) = true := decide_eq_true (by omega)
          have hbi : (0 : Int) < (x.bn : Int) := by omega
          have hbi2 : decide ((0 : Int) < (x.bn : Int)) = true := decide_eq_true (by omega)
          have HBN := Lib.hid hbn
          clear hbn
          go_wp2_with fail
          go_ret
          exact ⟨false, rfl, right_not (by have := HLN.out; omega) (right_by2 HX.out HBN.out), hbw.out⟩
      · have HM := Lib.hid hm
        go_wp2_with fail
        go_ret
        exact ⟨false, rfl, right_not (by have := HLN.out; omega) (right_zero2 HX.out (by simpa using HM.out)), hbw.out⟩
    · have hkn : k = n := by omega
      subst hkn
      have hr : RightP l := fun j hj => hall.out j (by have := HLN.out; omega)
      have HR := Lib.hid hr
      clear hr
      go_wp2_with fail
      go_ret
      exact ⟨true, rfl, ⟨fun _ => HR.out, fun _ => rfl⟩, hbw.out⟩
end Go.Proofs.Ytgmemdhbnnhifaa
