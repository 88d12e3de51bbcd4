/-
  The law BagAdds.
-/
import Derived.Test.YtnpciogpegmejaaGOp
namespace Go.Proofs.Ytnpciogpegmejaa.bagAdds
open Go.ChangeShapes Go.WideShapes Go.ChangeAt Go.RowKit Go.Sort Go.BigFrame Go.Proofs.Ytnpciogpegmejaa
open Go.ChangeMaps (open_string shut_string)
attribute [local irreducible] FlowW

set_option maxRecDepth 100000 in
set_option maxHeartbeats 8000000 in
theorem walk (kd : Int) (cv : Val) (va : Value) (l : List Prt) (z0 z1 : Int) (d : Dt) (w : World) (ha : PRd w va l) :
    Calls Try.prog 4 #[.agg #[.int .i64 kd, .int .i64 cv.k, .int .i64 cv.n, .string cv.s, va], .agg #[.int .i64 z0, .int .i64 z1], d.agg] w fun e w' => e = .returned (.bool true) ∧ Below w.heap.size w w' := by
  obtain ⟨ck, cn, cs⟩ := cv
  obtain ⟨ao, ca, rfl, -, hcm, -, -⟩ := id ha
  unfold maxLen at hcm
  obtain ⟨dd, dq⟩ := d
  obtain ⟨w1, hw1⟩ : ∃ w1, ((w.alloc (.cells #[(.int .i64 kd), (.int .i64 ck), (.int .i64 cn), (.string cs), (.slice ao l.length ca)] 26)).alloc (.cells #[(.int .i64 z0), (.int .i64 z1)] 35)).alloc (.cells #[(.int .i64 dd), (.int .i64 dq)] 37) = w1 := ⟨_, rfl⟩
  have hb1 : Below w.heap.size w w1 := by rw [← hw1]; exact below_alloc_then (below_alloc_then (below_alloc _ _))
  have b_c : Bx w1 (w.heap.size) #[(.int .i64 kd), (.int .i64 ck), (.int .i64 cn), (.string cs), (.slice ao l.length ca)] 26 := by rw [← hw1]; exact bx_later (below_alloc_then (below_alloc _ _)) (bx_new (by simp))
  have b_zz : Bx w1 (w.heap.size + 1) #[(.int .i64 z0), (.int .i64 z1)] 35 := by rw [← hw1]; exact bx_later (below_alloc _ _) (bx_new (by simp))
  have b_d : Bx w1 (w.heap.size + 2) #[(.int .i64 dd), (.int .i64 dq)] 37 := by rw [← hw1]; exact bx_new (by simp)
  have HW := Lib.hid hw1
  have HB1 := Lib.hid hb1
  have HB := Lib.hid (Below.refl w1.heap.size w1)
  have B_c := Lib.hid b_c
  have B_zz := Lib.hid b_zz
  have B_d := Lib.hid b_d
  have c0 := cell_of_box (bx_later HB.out B_c.out) 0 rfl
  have c1 := cell_of_box (bx_later HB.out B_c.out) 1 rfl
  have c2 := cell_of_box (bx_later HB.out B_c.out) 2 rfl
  have c3 := cell_of_box (bx_later HB.out B_c.out) 3 rfl
  have c4 := cell_of_box (bx_later HB.out B_c.out) 4 rfl
  have zz0 := cell_of_box (bx_later HB.out B_zz.out) 0 rfl
  have zz1 := cell_of_box (bx_later HB.out B_zz.out) 1 rfl
  have d0 := cell_of_box (bx_later HB.out B_d.out) 0 rfl
  have d1 := cell_of_box (bx_later HB.out B_d.out) 1 rfl
  clear hw1 hb1 b_c b_zz b_d
  have P := Lib.hid (ha.later HB1.out)
  clear ha
  cases hf0 : decide ((l.length : Int) ≤ 60)
  all_goals
    have F0 := Lib.hid hf0
  · clear hf0
    go_enter Try.func4, Try.ntmps4
    go_wp2_with fail
    rw [HW.out]
    go_wp2_with fail
    refine (few_b false F0.out (P.out.later HB.out)).mono ?_
    rintro e wn ⟨rfl, hb⟩
    replace HB := Lib.hid (below_then HB.out (by first | exact hb | exact below_alloc_then hb | exact below_alloc_then (below_alloc_then hb)))
    clear hb c0 c1 c2 c3 c4 zz0 zz1 d0 d1
    have c0 := cell_of_box (bx_later HB.out B_c.out) 0 rfl
    have c1 := cell_of_box (bx_later HB.out B_c.out) 1 rfl
    have c2 := cell_of_box (bx_later HB.out B_c.out) 2 rfl
    have c3 := cell_of_box (bx_later HB.out B_c.out) 3 rfl
    have c4 := cell_of_box (bx_later HB.out B_c.out) 4 rfl
    have zz0 := cell_of_box (bx_later HB.out B_zz.out) 0 rfl
    have zz1 := cell_of_box (bx_later HB.out B_zz.out) 1 rfl
    have d0 := cell_of_box (bx_later HB.out B_d.out) 0 rfl
    have d1 := cell_of_box (bx_later HB.out B_d.out) 1 rfl
    go_wp2_with fail
    refine (alive_any _).mono ?_
    rintro e wn ⟨rfl, hb⟩
    replace HB := Lib.hid (below_then HB.out (by first | exact hb | exact below_alloc_then hb | exact below_alloc_then (below_alloc_then hb)))
    clear hb c0 c1 c2 c3 c4 zz0 zz1 d0 d1
    have c0 := cell_of_box (bx_later HB.out B_c.out) 0 rfl
    have c1 := cell_of_box (bx_later HB.out B_c.out) 1 rfl
    have c2 := cell_of_box (bx_later HB.out B_c.out) 2 rfl
    have c3 := cell_of_box (bx_later HB.out B_c.out) 3 rfl
    have c4 := cell_of_box (bx_later HB.out B_c.out) 4 rfl
    have zz0 := cell_of_box (bx_later HB.out B_zz.out) 0 rfl
    have zz1 := cell_of_box (bx_later HB.out B_zz.out) 1 rfl
    have d0 := cell_of_box (bx_later HB.out B_d.out) 0 rfl
    have d1 := cell_of_box (bx_later HB.out B_d.out) 1 rfl
    go_wp2_with fail
    go_ret
    exact ⟨by first | rfl | exact ret_bool (by simp), below_then HB1.out HB.out⟩
  · have hl0 : l.length ≤ 60 := by have := of_decide_eq_true hf0; omega
    clear hf0
    cases hr1 : rcQ kd ⟨ck, cn, cs⟩ l
    all_goals
      have F1 := Lib.hid hr1
      clear hr1
    · go_enter Try.func4, Try.ntmps4
      go_wp2_with fail
      rw [HW.out]
      go_wp2_with fail
      refine (few_b true F0.out (P.out.later HB.out)).mono ?_
      rintro e wn ⟨rfl, hb⟩
      replace HB := Lib.hid (below_then HB.out (by first | exact hb | exact below_alloc_then hb | exact below_alloc_then (below_alloc_then hb)))
      clear hb c0 c1 c2 c3 c4 zz0 zz1 d0 d1
      have c0 := cell_of_box (bx_later HB.out B_c.out) 0 rfl
      have c1 := cell_of_box (bx_later HB.out B_c.out) 1 rfl
      have c2 := cell_of_box (bx_later HB.out B_c.out) 2 rfl
      have c3 := cell_of_box (bx_later HB.out B_c.out) 3 rfl
      have c4 := cell_of_box (bx_later HB.out B_c.out) 4 rfl
      have zz0 := cell_of_box (bx_later HB.out B_zz.out) 0 rfl
      have zz1 := cell_of_box (bx_later HB.out B_zz.out) 1 rfl
      have d0 := cell_of_box (bx_later HB.out B_d.out) 0 rfl
      have d1 := cell_of_box (bx_later HB.out B_d.out) 1 rfl
      go_wp2_with fail
      refine (right_b false F1.out (P.out.later HB.out) (by omega)).mono ?_
      rintro e wn ⟨rfl, hb⟩
      replace HB := Lib.hid (below_then HB.out (by first | exact hb | exact below_alloc_then hb | exact below_alloc_then (below_alloc_then hb)))
      clear hb c0 c1 c2 c3 c4 zz0 zz1 d0 d1
      have c0 := cell_of_box (bx_later HB.out B_c.out) 0 rfl
      have c1 := cell_of_box (bx_later HB.out B_c.out) 1 rfl
      have c2 := cell_of_box (bx_later HB.out B_c.out) 2 rfl
      have c3 := cell_of_box (bx_later HB.out B_c.out) 3 rfl
      have c4 := cell_of_box (bx_later HB.out B_c.out) 4 rfl
      have zz0 := cell_of_box (bx_later HB.out B_zz.out) 0 rfl
      have zz1 := cell_of_box (bx_later HB.out B_zz.out) 1 rfl
      have d0 := cell_of_box (bx_later HB.out B_d.out) 0 rfl
      have d1 := cell_of_box (bx_later HB.out B_d.out) 1 rfl
      go_wp2_with fail
      refine (alive_any _).mono ?_
      rintro e wn ⟨rfl, hb⟩
      replace HB := Lib.hid (below_then HB.out (by first | exact hb | exact below_alloc_then hb | exact below_alloc_then (below_alloc_then hb)))
      clear hb c0 c1 c2 c3 c4 zz0 zz1 d0 d1
      have c0 := cell_of_box (bx_later HB.out B_c.out) 0 rfl
      have c1 := cell_of_box (bx_later HB.out B_c.out) 1 rfl
      have c2 := cell_of_box (bx_later HB.out B_c.out) 2 rfl
      have c3 := cell_of_box (bx_later HB.out B_c.out) 3 rfl
      have c4 := cell_of_box (bx_later HB.out B_c.out) 4 rfl
      have zz0 := cell_of_box (bx_later HB.out B_zz.out) 0 rfl
      have zz1 := cell_of_box (bx_later HB.out B_zz.out) 1 rfl
      have d0 := cell_of_box (bx_later HB.out B_d.out) 0 rfl
      have d1 := cell_of_box (bx_later HB.out B_d.out) 1 rfl
      go_wp2_with fail
      go_ret
      exact ⟨by first | rfl | exact ret_bool (by simp), below_then HB1.out HB.out⟩
    · obtain ⟨m, hm⟩ : ∃ m, addQ l z0 ⟨dd, dq⟩ = m := ⟨_, rfl⟩
      have hlen := addQ_length l z0 ⟨dd, dq⟩
      have hself := hasN_add_self l z0 ⟨dd, dq⟩
      have hag := addQ_again l z0 ⟨dd, dq⟩
      rw [hm] at hlen hself hag
      have MA := Lib.hid hag
      have MS := Lib.hid hself
      obtain ⟨q, hlw0, hlmd1, hlmd2⟩ : ∃ q : Int, IntKind.i64.wrap ((m.length : Int) - (l.length : Int)) = q ∧ decide (0 ≤ q) = true ∧ decide (q ≤ 1) = true := ⟨(m.length : Int) - (l.length : Int), by rw [IntKind.wrap_i64]; omega, decide_eq_true (by omega), decide_eq_true (by omega)⟩
      have HLW := Lib.hid hlw0
      clear hlw0
      have hml : m.length ≤ 1000 := by omega
      have hml6 : m.length ≤ 1000000 := by omega
      have hll6 : l.length ≤ 1000000 := by omega
      have hll3 : l.length ≤ 1000 := by omega
      by_cases hz : z0 = z1
      · subst hz
        have hzb : (z0 == z0) = true := by simp
        have M := Lib.hid hm
        clear hm hlen hself hag
        go_enter Try.func4, Try.ntmps4
        go_wp2_with fail
        rw [HW.out]
        go_wp2_with fail
        refine (few_b true F0.out (P.out.later HB.out)).mono ?_
        rintro e wn ⟨rfl, hb⟩
        replace HB := Lib.hid (below_then HB.out (by first | exact hb | exact below_alloc_then hb | exact below_alloc_then (below_alloc_then hb)))
        clear hb c0 c1 c2 c3 c4 zz0 zz1 d0 d1
        have c0 := cell_of_box (bx_later HB.out B_c.out) 0 rfl
        have c1 := cell_of_box (bx_later HB.out B_c.out) 1 rfl
        have c2 := cell_of_box (bx_later HB.out B_c.out) 2 rfl
        have c3 := cell_of_box (bx_later HB.out B_c.out) 3 rfl
        have c4 := cell_of_box (bx_later HB.out B_c.out) 4 rfl
        have zz0 := cell_of_box (bx_later HB.out B_zz.out) 0 rfl
        have zz1 := cell_of_box (bx_later HB.out B_zz.out) 1 rfl
        have d0 := cell_of_box (bx_later HB.out B_d.out) 0 rfl
        have d1 := cell_of_box (bx_later HB.out B_d.out) 1 rfl
        go_wp2_with fail
        refine (right_b true F1.out (P.out.later HB.out) (by omega)).mono ?_
        rintro e wn ⟨rfl, hb⟩
        replace HB := Lib.hid (below_then HB.out (by first | exact hb | exact below_alloc_then hb | exact below_alloc_then (below_alloc_then hb)))
        clear hb c0 c1 c2 c3 c4 zz0 zz1 d0 d1
        have c0 := cell_of_box (bx_later HB.out B_c.out) 0 rfl
        have c1 := cell_of_box (bx_later HB.out B_c.out) 1 rfl
        have c2 := cell_of_box (bx_later HB.out B_c.out) 2 rfl
        have c3 := cell_of_box (bx_later HB.out B_c.out) 3 rfl
        have c4 := cell_of_box (bx_later HB.out B_c.out) 4 rfl
        have zz0 := cell_of_box (bx_later HB.out B_zz.out) 0 rfl
        have zz1 := cell_of_box (bx_later HB.out B_zz.out) 1 rfl
        have d0 := cell_of_box (bx_later HB.out B_d.out) 0 rfl
        have d1 := cell_of_box (bx_later HB.out B_d.out) 1 rfl
        go_wp2_with fail
        refine (put_o (P.out.later HB.out) hll3 M.out).mono ?_
        rintro e wn ⟨a_u, k_u, rfl, ho, hb⟩
        have P_u := Lib.hid (Rd.of_own ho)
        replace HB := Lib.hid (below_then HB.out (by first | exact hb | exact below_alloc_then hb))
        clear hb ho c0 c1 c2 c3 c4 zz0 zz1 d0 d1
        go_upto_region 4 with fail
        obtain ⟨w2, hnew⟩ : ∃ w2, wn.alloc (.cells #[(.int .i64 kd), (.int .i64 ck), (.int .i64 cn), (.string cs), (.slice a_u m.length k_u)] 26) = w2 := ⟨_, rfl⟩
        have hbw : Below wn.heap.size wn w2 := by rw [← hnew]; exact below_alloc _ _
        have bnew : Bx w2 wn.heap.size #[(.int .i64 kd), (.int .i64 ck), (.int .i64 cn), (.string cs), (.slice a_u m.length k_u)] 26 := by rw [← hnew]; exact bx_new rfl
        rw [hnew]
        clear hnew
        obtain ⟨g_u, hg⟩ : ∃ g, wn.heap.size = g := ⟨_, rfl⟩
        rw [hg] at bnew ⊢
        replace P_u := Lib.hid (P_u.out.later hbw)
        have hbn := below_then HB.out hbw
        replace B_c := Lib.hid (bx_later hbn B_c.out)
        replace B_zz := Lib.hid (bx_later hbn B_zz.out)
        replace B_d := Lib.hid (bx_later hbn B_d.out)
        replace P := Lib.hid (P.out.later hbn)
        replace HB1 := Lib.hid (below_then HB1.out hbn)
        clear HB hbn hbw hg
        have HB := Lib.hid (Below.refl w2.heap.size w2)
        have B_u := Lib.hid bnew
        clear bnew
        have c0 := cell_of_box (bx_later HB.out B_c.out) 0 rfl
        have c1 := cell_of_box (bx_later HB.out B_c.out) 1 rfl
        have c2 := cell_of_box (bx_later HB.out B_c.out) 2 rfl
        have c3 := cell_of_box (bx_later HB.out B_c.out) 3 rfl
        have c4 := cell_of_box (bx_later HB.out B_c.out) 4 rfl
        have zz0 := cell_of_box (bx_later HB.out B_zz.out) 0 rfl
        have zz1 := cell_of_box (bx_later HB.out B_zz.out) 1 rfl
        have d0 := cell_of_box (bx_later HB.out B_d.out) 0 rfl
        have d1 := cell_of_box (bx_later HB.out B_d.out) 1 rfl
        have u0 := cell_of_box (bx_later HB.out B_u.out) 0 rfl
        have u1 := cell_of_box (bx_later HB.out B_u.out) 1 rfl
        have u2 := cell_of_box (bx_later HB.out B_u.out) 2 rfl
        have u3 := cell_of_box (bx_later HB.out B_u.out) 3 rfl
        have u4 := cell_of_box (bx_later HB.out B_u.out) 4 rfl
        have hlw := HLW.out
        refine wp_region_flow (by kernel_rfl) 55 [(0, ⟨fun v => v = .bool true, fun _ _ _ _ => True⟩), (5, ⟨fun v => v = .bool true, fun _ _ _ _ => True⟩), (17, ⟨fun v => v = .bool true, fun _ _ _ _ => True⟩), (21, ⟨fun v => v = .bool true, fun _ _ _ _ => True⟩), (30, ⟨fun v => ∃ a k, v = .agg #[.int .i64 kd, .int .i64 ck, .int .i64 cn, .string cs, .slice a m.length k], fun v _ _ w' => ∃ a k, v = .agg #[.int .i64 kd, .int .i64 ck, .int .i64 cn, .string cs, .slice a m.length k] ∧ PRd w' (.slice a m.length k) m⟩), (32, ⟨fun v => v = .bool true, fun _ _ _ _ => True⟩)] (by kernel_rfl) ?_ ?_ ?_
        · intro x hx
          simp only [List.mem_cons, List.not_mem_nil, or_false] at hx
          rcases hx with rfl | rfl | rfl | rfl | rfl | rfl
          · exact ⟨_, rfl⟩
          · exact ⟨_, rfl⟩
          · exact ⟨_, rfl⟩
          · exact ⟨_, rfl⟩
          · exact ⟨_, none, 0, rfl⟩
          · exact ⟨_, rfl⟩
        · intro x hx v lo hi w w' h hb
          simp only [List.mem_cons, List.not_mem_nil, or_false] at hx
          rcases hx with rfl | rfl | rfl | rfl | rfl | rfl
          · exact trivial
          · exact trivial
          · exact trivial
          · exact trivial
          · obtain ⟨a, k, rfl, ho⟩ := h
            exact ⟨a, k, rfl, ho.later hb⟩
          · exact trivial
        · intro lo hi
          have kc0 := cell_regrown c0
          have kc1 := cell_regrown c1
          have kc2 := cell_regrown c2
          have kc3 := cell_regrown c3
          have kc4 := cell_regrown c4
          have kzz0 := cell_regrown zz0
          have kzz1 := cell_regrown zz1
          have kd0 := cell_regrown d0
          have kd1 := cell_regrown d1
          have ku0 := cell_regrown u0
          have ku1 := cell_regrown u1
          have ku2 := cell_regrown u2
          have ku3 := cell_regrown u3
          have ku4 := cell_regrown u4
          refine flowW_call rfl rfl ?_ ?_
          · intro W hW hF K hK
            clear kc0 kc1 kc2 kc3 kc4 kzz0 kzz1 kd0 kd1 ku0 ku1 ku2 ku3 ku4
            go_wp2_with fail
            refine (alive_any _).mono ?_
            rintro e wq ⟨rfl, hbq⟩
            go_wp2_with fail
            exact hK _ _ rfl trivial hbq
          rintro v rfl K hK
          go_simp
          refine hK _ ?_
          clear hK K
          refine flowW_plain rfl ?_
          go_big_quiet_step (fail)
          refine wpQuiet_nil ?_
          refine flowW_plain rfl ?_
          go_big_quiet_step (fail)
          refine wpQuiet_nil ?_
          refine flowW_plain rfl ?_
          go_big_quiet_step (fail)
          refine wpQuiet_nil ?_
          refine flowW_plain rfl ?_
          go_big_quiet_step (fail)
          refine wpQuiet_nil ?_
          refine flowW_call rfl rfl ?_ ?_
          · intro W hW hF K hK
            clear kc0 kc1 kc2 kc3 kc4 kzz0 kzz1 kd0 kd1 ku0 ku1 ku2 ku3 ku4
            go_wp2_with fail
            refine (hasN_b true MS.out (P_u.out.later (below_then HB.out hW)) hml6).mono ?_
            rintro e wq ⟨rfl, hbq⟩
            go_wp2_with fail
            exact hK _ _ rfl trivial hbq
          rintro v rfl K hK
          go_simp
          refine hK _ ?_
          clear hK K
          refine flowW_plain rfl ?_
          go_big_quiet_step (fail)
          refine wpQuiet_nil ?_
          refine flowW_plain rfl ?_
          go_big_quiet_step (fail)
          refine wpQuiet_nil ?_
          refine flowW_plain rfl ?_
          go_big_quiet_step (fail)
          refine wpQuiet_nil ?_
          refine flowW_plain rfl ?_
          go_big_quiet_step (fail)
          refine wpQuiet_nil ?_
          refine flowW_plain rfl ?_
          go_big_quiet_step (fail)
          refine wpQuiet_nil ?_
          refine flowW_plain rfl ?_
          go_big_quiet_step (fail)
          refine wpQuiet_nil ?_
          refine flowW_plain rfl ?_
          go_big_quiet_step (fail)
          refine wpQuiet_nil ?_
          refine flowW_plain rfl ?_
          go_big_quiet_step (fail)
          refine wpQuiet_nil ?_
          refine flowW_skip rfl ?_
          go_big_quiet_step (fail)
          refine wpQuiet_nil ?_
          refine flowW_skip rfl ?_
          go_big_quiet_step (fail)
          refine wpQuiet_nil ?_
          refine flowW_skip rfl ?_
          go_big_quiet_step (fail)
          refine wpQuiet_nil ?_
          refine flowW_skip rfl ?_
          go_big_quiet_step (fail)
          refine wpQuiet_nil ?_
          refine flowW_skip rfl ?_
          go_big_quiet_step (fail)
          refine wpQuiet_nil ?_
          refine flowW_skip rfl ?_
          go_big_quiet_step (fail)
          refine wpQuiet_nil ?_
          refine flowW_skip rfl ?_
          go_big_quiet_step (fail)
          refine wpQuiet_nil ?_
          refine flowW_skip rfl ?_
          go_big_quiet_step (fail)
          refine wpQuiet_nil ?_
          refine flowW_skip rfl ?_
          go_big_quiet_step (fail)
          refine wpQuiet_nil ?_
          refine flowW_plain rfl ?_
          go_big_quiet_step (fail)
          refine wpQuiet_nil ?_
          refine flowW_plain rfl ?_
          go_big_quiet_step (fail)
          refine wpQuiet_nil ?_
          refine flowW_plain rfl ?_
          go_big_quiet_step (fail)
          refine wpQuiet_nil ?_
          refine flowW_plain rfl ?_
          go_big_quiet_step (fail)
          refine wpQuiet_nil ?_
          refine flowW_plain rfl ?_
          go_big_quiet_step (fail)
          refine wpQuiet_nil ?_
          refine flowW_plain rfl ?_
          go_big_quiet_step (fail)
          refine wpQuiet_nil ?_
          refine flowW_plain rfl ?_
          go_big_quiet_step (fail)
          refine wpQuiet_nil ?_
          refine flowW_call rfl rfl ?_ ?_
          · intro W hW hF K hK
            clear kc0 kc1 kc2 kc3 kc4 kzz0 kzz1 kd0 kd1 ku0 ku1 ku2 ku3 ku4
            go_wp2_with fail
            refine (put_o (P_u.out.later (below_then HB.out hW)) hml MA.out).mono ?_
            rintro e wq ⟨a, k, rfl, ho, hbq⟩
            go_wp2_with fail
            exact hK _ _ ⟨a, k, rfl⟩ ⟨a, k, rfl, Rd.of_own ho⟩ hbq
          rintro v ⟨a30, k30, rfl⟩ K hK
          go_simp
          refine hK _ ?_
          clear hK K
          refine flowW_plain rfl ?_
          go_big_quiet_step (fail)
          refine wpQuiet_nil ?_
          refine flowW_call rfl rfl ?_ ?_
          · intro W hW hF K hK
            clear kc0 kc1 kc2 kc3 kc4 kzz0 kzz1 kd0 kd1 ku0 ku1 ku2 ku3 ku4
            obtain ⟨_, _, he30, h30⟩ := hF 30 rfl
            cases he30
            go_wp2_with fail
            refine (same_p m h30 (P_u.out.later (below_then HB.out hW)) hml).mono ?_
            rintro e wq ⟨rfl, hbq⟩
            go_wp2_with fail
            exact hK _ _ rfl trivial hbq
          rintro v rfl K hK
          go_simp
          refine hK _ ?_
          clear hK K
          refine flowW_plain rfl ?_
          go_big_quiet_step (fail)
          refine wpQuiet_nil ?_
          refine flowW_plain rfl ?_
          go_big_quiet_step (fail)
          refine wpQuiet_nil ?_
          refine flowW_plain rfl ?_
          go_big_quiet_step (fail)
          refine wpQuiet_nil ?_
          refine flowW_plain rfl ?_
          go_big_quiet_step (fail)
          refine wpQuiet_nil ?_
          refine flowW_plain rfl ?_
          go_big_quiet_step (fail)
          refine wpQuiet_nil ?_
          refine flowW_plain rfl ?_
          go_big_quiet_step (fail)
          refine wpQuiet_nil ?_
          refine flowW_plain rfl ?_
          go_big_quiet_step (fail)
          refine wpQuiet_nil ?_
          refine flowW_plain rfl ?_
          go_big_quiet_step (fail)
          refine wpQuiet_nil ?_
          refine flowW_plain rfl ?_
          go_big_quiet_step (fail)
          refine wpQuiet_nil ?_
          refine flowW_plain rfl ?_
          go_big_quiet_step (fail)
          refine wpQuiet_nil ?_
          refine flowW_plain rfl ?_
          go_big_quiet_step (fail)
          refine wpQuiet_nil ?_
          refine flowW_plain rfl ?_
          go_big_quiet_step (fail)
          refine wpQuiet_nil ?_
          refine flowW_plain rfl ?_
          go_big_quiet_step (fail)
          refine wpQuiet_nil ?_
          refine flowW_plain rfl ?_
          go_big_quiet_step (fail)
          refine wpQuiet_nil ?_
          refine flowW_plain rfl ?_
          go_big_quiet_step (fail)
          refine wpQuiet_nil ?_
          refine flowW_plain rfl ?_
          go_big_quiet_step (fail)
          refine wpQuiet_nil ?_
          refine flowW_plain rfl ?_
          go_big_quiet_step (fail)
          refine wpQuiet_nil ?_
          refine flowW_plain rfl ?_
          go_big_quiet_step (fail)
          refine wpQuiet_nil ?_
          refine flowW_plain rfl ?_
          go_big_quiet_step (fail)
          refine wpQuiet_nil ?_
          refine flowW_plain rfl ?_
          go_big_quiet_step (fail)
          refine wpQuiet_nil ?_
          refine flowW_plain rfl ?_
          go_big_quiet_step (fail)
          refine wpQuiet_nil ?_
          refine flowW_plain rfl ?_
          go_big_quiet_step (fail)
          refine wpQuiet_nil ?_
          refine flowW_end fun wz hwz hF hD => ?_
          clear kc0 kc1 kc2 kc3 kc4 kzz0 kzz1 kd0 kd1 ku0 ku1 ku2 ku3 ku4
          simp only [List.drop_succ_cons, List.drop_zero]
          replace HB := Lib.hid (below_then HB.out hwz)
          clear hwz hF hD c0 c1 c2 c3 c4 zz0 zz1 d0 d1 u0 u1 u2 u3 u4
          have c0 := cell_of_box (bx_later HB.out B_c.out) 0 rfl
          have c1 := cell_of_box (bx_later HB.out B_c.out) 1 rfl
          have c2 := cell_of_box (bx_later HB.out B_c.out) 2 rfl
          have c3 := cell_of_box (bx_later HB.out B_c.out) 3 rfl
          have c4 := cell_of_box (bx_later HB.out B_c.out) 4 rfl
          have zz0 := cell_of_box (bx_later HB.out B_zz.out) 0 rfl
          have zz1 := cell_of_box (bx_later HB.out B_zz.out) 1 rfl
          have d0 := cell_of_box (bx_later HB.out B_d.out) 0 rfl
          have d1 := cell_of_box (bx_later HB.out B_d.out) 1 rfl
          have u0 := cell_of_box (bx_later HB.out B_u.out) 0 rfl
          have u1 := cell_of_box (bx_later HB.out B_u.out) 1 rfl
          have u2 := cell_of_box (bx_later HB.out B_u.out) 2 rfl
          have u3 := cell_of_box (bx_later HB.out B_u.out) 3 rfl
          have u4 := cell_of_box (bx_later HB.out B_u.out) 4 rfl
          go_wp2_with fail
          go_ret
          exact ⟨by first | rfl | exact ret_bool (by simp), below_then HB1.out HB.out⟩
      · have hzb : (z0 == z1) = false := by simpa using hz
        obtain ⟨b, hlb⟩ : ∃ b, hasN l z1 = b := ⟨_, rfl⟩
        have hmb := hasN_add_other l ⟨dd, dq⟩ hz
        rw [hm, hlb] at hmb
        have LB := Lib.hid hlb
        have MB := Lib.hid hmb
        have M := Lib.hid hm
        clear hm hlen hself hag hz hlb hmb
        have hbb : (b == b) = true := by simp
        go_enter Try.func4, Try.ntmps4
        go_wp2_with fail
        rw [HW.out]
        go_wp2_with fail
        refine (few_b true F0.out (P.out.later HB.out)).mono ?_
        rintro e wn ⟨rfl, hb⟩
        replace HB := Lib.hid (below_then HB.out (by first | exact hb | exact below_alloc_then hb | exact below_alloc_then (below_alloc_then hb)))
        clear hb c0 c1 c2 c3 c4 zz0 zz1 d0 d1
        have c0 := cell_of_box (bx_later HB.out B_c.out) 0 rfl
        have c1 := cell_of_box (bx_later HB.out B_c.out) 1 rfl
        have c2 := cell_of_box (bx_later HB.out B_c.out) 2 rfl
        have c3 := cell_of_box (bx_later HB.out B_c.out) 3 rfl
        have c4 := cell_of_box (bx_later HB.out B_c.out) 4 rfl
        have zz0 := cell_of_box (bx_later HB.out B_zz.out) 0 rfl
        have zz1 := cell_of_box (bx_later HB.out B_zz.out) 1 rfl
        have d0 := cell_of_box (bx_later HB.out B_d.out) 0 rfl
        have d1 := cell_of_box (bx_later HB.out B_d.out) 1 rfl
        go_wp2_with fail
        refine (right_b true F1.out (P.out.later HB.out) (by omega)).mono ?_
        rintro e wn ⟨rfl, hb⟩
        replace HB := Lib.hid (below_then HB.out (by first | exact hb | exact below_alloc_then hb | exact below_alloc_then (below_alloc_then hb)))
        clear hb c0 c1 c2 c3 c4 zz0 zz1 d0 d1
        have c0 := cell_of_box (bx_later HB.out B_c.out) 0 rfl
        have c1 := cell_of_box (bx_later HB.out B_c.out) 1 rfl
        have c2 := cell_of_box (bx_later HB.out B_c.out) 2 rfl
        have c3 := cell_of_box (bx_later HB.out B_c.out) 3 rfl
        have c4 := cell_of_box (bx_later HB.out B_c.out) 4 rfl
        have zz0 := cell_of_box (bx_later HB.out B_zz.out) 0 rfl
        have zz1 := cell_of_box (bx_later HB.out B_zz.out) 1 rfl
        have d0 := cell_of_box (bx_later HB.out B_d.out) 0 rfl
        have d1 := cell_of_box (bx_later HB.out B_d.out) 1 rfl
        go_wp2_with fail
        refine (put_o (P.out.later HB.out) hll3 M.out).mono ?_
        rintro e wn ⟨a_u, k_u, rfl, ho, hb⟩
        have P_u := Lib.hid (Rd.of_own ho)
        replace HB := Lib.hid (below_then HB.out (by first | exact hb | exact below_alloc_then hb))
        clear hb ho c0 c1 c2 c3 c4 zz0 zz1 d0 d1
        go_upto_region 4 with fail
        obtain ⟨w2, hnew⟩ : ∃ w2, wn.alloc (.cells #[(.int .i64 kd), (.int .i64 ck), (.int .i64 cn), (.string cs), (.slice a_u m.length k_u)] 26) = w2 := ⟨_, rfl⟩
        have hbw : Below wn.heap.size wn w2 := by rw [← hnew]; exact below_alloc _ _
        have bnew : Bx w2 wn.heap.size #[(.int .i64 kd), (.int .i64 ck), (.int .i64 cn), (.string cs), (.slice a_u m.length k_u)] 26 := by rw [← hnew]; exact bx_new rfl
        rw [hnew]
        clear hnew
        obtain ⟨g_u, hg⟩ : ∃ g, wn.heap.size = g := ⟨_, rfl⟩
        rw [hg] at bnew ⊢
        replace P_u := Lib.hid (P_u.out.later hbw)
        have hbn := below_then HB.out hbw
        replace B_c := Lib.hid (bx_later hbn B_c.out)
        replace B_zz := Lib.hid (bx_later hbn B_zz.out)
        replace B_d := Lib.hid (bx_later hbn B_d.out)
        replace P := Lib.hid (P.out.later hbn)
        replace HB1 := Lib.hid (below_then HB1.out hbn)
        clear HB hbn hbw hg
        have HB := Lib.hid (Below.refl w2.heap.size w2)
        have B_u := Lib.hid bnew
        clear bnew
        have c0 := cell_of_box (bx_later HB.out B_c.out) 0 rfl
        have c1 := cell_of_box (bx_later HB.out B_c.out) 1 rfl
        have c2 := cell_of_box (bx_later HB.out B_c.out) 2 rfl
        have c3 := cell_of_box (bx_later HB.out B_c.out) 3 rfl
        have c4 := cell_of_box (bx_later HB.out B_c.out) 4 rfl
        have zz0 := cell_of_box (bx_later HB.out B_zz.out) 0 rfl
        have zz1 := cell_of_box (bx_later HB.out B_zz.out) 1 rfl
        have d0 := cell_of_box (bx_later HB.out B_d.out) 0 rfl
        have d1 := cell_of_box (bx_later HB.out B_d.out) 1 rfl
        have u0 := cell_of_box (bx_later HB.out B_u.out) 0 rfl
        have u1 := cell_of_box (bx_later HB.out B_u.out) 1 rfl
        have u2 := cell_of_box (bx_later HB.out B_u.out) 2 rfl
        have u3 := cell_of_box (bx_later HB.out B_u.out) 3 rfl
        have u4 := cell_of_box (bx_later HB.out B_u.out) 4 rfl
        have hlw := HLW.out
        refine wp_region_flow (by kernel_rfl) 55 [(0, ⟨fun v => v = .bool true, fun _ _ _ _ => True⟩), (5, ⟨fun v => v = .bool true, fun _ _ _ _ => True⟩), (17, ⟨fun v => v = .bool b, fun _ _ _ _ => True⟩), (21, ⟨fun v => v = .bool b, fun _ _ _ _ => True⟩), (30, ⟨fun v => ∃ a k, v = .agg #[.int .i64 kd, .int .i64 ck, .int .i64 cn, .string cs, .slice a m.length k], fun v _ _ w' => ∃ a k, v = .agg #[.int .i64 kd, .int .i64 ck, .int .i64 cn, .string cs, .slice a m.length k] ∧ PRd w' (.slice a m.length k) m⟩), (32, ⟨fun v => v = .bool true, fun _ _ _ _ => True⟩)] (by kernel_rfl) ?_ ?_ ?_
        · intro x hx
          simp only [List.mem_cons, List.not_mem_nil, or_false] at hx
          rcases hx with rfl | rfl | rfl | rfl | rfl | rfl
          · exact ⟨_, rfl⟩
          · exact ⟨_, rfl⟩
          · exact ⟨_, rfl⟩
          · exact ⟨_, rfl⟩
          · exact ⟨_, none, 0, rfl⟩
          · exact ⟨_, rfl⟩
        · intro x hx v lo hi w w' h hb
          simp only [List.mem_cons, List.not_mem_nil, or_false] at hx
          rcases hx with rfl | rfl | rfl | rfl | rfl | rfl
          · exact trivial
          · exact trivial
          · exact trivial
          · exact trivial
          · obtain ⟨a, k, rfl, ho⟩ := h
            exact ⟨a, k, rfl, ho.later hb⟩
          · exact trivial
        · intro lo hi
          have kc0 := cell_regrown c0
          have kc1 := cell_regrown c1
          have kc2 := cell_regrown c2
          have kc3 := cell_regrown c3
          have kc4 := cell_regrown c4
          have kzz0 := cell_regrown zz0
          have kzz1 := cell_regrown zz1
          have kd0 := cell_regrown d0
          have kd1 := cell_regrown d1
          have ku0 := cell_regrown u0
          have ku1 := cell_regrown u1
          have ku2 := cell_regrown u2
          have ku3 := cell_regrown u3
          have ku4 := cell_regrown u4
          refine flowW_call rfl rfl ?_ ?_
          · intro W hW hF K hK
            clear kc0 kc1 kc2 kc3 kc4 kzz0 kzz1 kd0 kd1 ku0 ku1 ku2 ku3 ku4
            go_wp2_with fail
            refine (alive_any _).mono ?_
            rintro e wq ⟨rfl, hbq⟩
            go_wp2_with fail
            exact hK _ _ rfl trivial hbq
          rintro v rfl K hK
          go_simp
          refine hK _ ?_
          clear hK K
          refine flowW_plain rfl ?_
          go_big_quiet_step (fail)
          refine wpQuiet_nil ?_
          refine flowW_plain rfl ?_
          go_big_quiet_step (fail)
          refine wpQuiet_nil ?_
          refine flowW_plain rfl ?_
          go_big_quiet_step (fail)
          refine wpQuiet_nil ?_
          refine flowW_plain rfl ?_
          go_big_quiet_step (fail)
          refine wpQuiet_nil ?_
          refine flowW_call rfl rfl ?_ ?_
          · intro W hW hF K hK
            clear kc0 kc1 kc2 kc3 kc4 kzz0 kzz1 kd0 kd1 ku0 ku1 ku2 ku3 ku4
            go_wp2_with fail
            refine (hasN_b true MS.out (P_u.out.later (below_then HB.out hW)) hml6).mono ?_
            rintro e wq ⟨rfl, hbq⟩
            go_wp2_with fail
            exact hK _ _ rfl trivial hbq
          rintro v rfl K hK
          go_simp
          refine hK _ ?_
          clear hK K
          refine flowW_plain rfl ?_
          go_big_quiet_step (fail)
          refine wpQuiet_nil ?_
          refine flowW_plain rfl ?_
          go_big_quiet_step (fail)
          refine wpQuiet_nil ?_
          refine flowW_plain rfl ?_
          go_big_quiet_step (fail)
          refine wpQuiet_nil ?_
          refine flowW_plain rfl ?_
          go_big_quiet_step (fail)
          refine wpQuiet_nil ?_
          refine flowW_plain rfl ?_
          go_big_quiet_step (fail)
          refine wpQuiet_nil ?_
          refine flowW_plain rfl ?_
          go_big_quiet_step (fail)
          refine wpQuiet_nil ?_
          refine flowW_plain rfl ?_
          go_big_quiet_step (fail)
          refine wpQuiet_nil ?_
          refine flowW_plain rfl ?_
          go_big_quiet_step (fail)
          refine wpQuiet_nil ?_
          refine flowW_plain rfl ?_
          go_big_quiet_step (fail)
          refine wpQuiet_nil ?_
          refine flowW_plain rfl ?_
          go_big_quiet_step (fail)
          refine wpQuiet_nil ?_
          refine flowW_plain rfl ?_
          go_big_quiet_step (fail)
          refine wpQuiet_nil ?_
          refine flowW_call rfl rfl ?_ ?_
          · intro W hW hF K hK
            clear kc0 kc1 kc2 kc3 kc4 kzz0 kzz1 kd0 kd1 ku0 ku1 ku2 ku3 ku4
            go_wp2_with fail
            refine (hasN_b b MB.out (P_u.out.later (below_then HB.out hW)) hml6).mono ?_
            rintro e wq ⟨rfl, hbq⟩
            go_wp2_with fail
            exact hK _ _ rfl trivial hbq
          rintro v rfl K hK
          go_simp
          refine hK _ ?_
          clear hK K
          refine flowW_plain rfl ?_
          go_big_quiet_step (fail)
          refine wpQuiet_nil ?_
          refine flowW_plain rfl ?_
          go_big_quiet_step (fail)
          refine wpQuiet_nil ?_
          refine flowW_plain rfl ?_
          go_big_quiet_step (fail)
          refine wpQuiet_nil ?_
          refine flowW_call rfl rfl ?_ ?_
          · intro W hW hF K hK
            clear kc0 kc1 kc2 kc3 kc4 kzz0 kzz1 kd0 kd1 ku0 ku1 ku2 ku3 ku4
            go_wp2_with fail
            refine (hasN_b b LB.out (P.out.later (below_then HB.out hW)) hll6).mono ?_
            rintro e wq ⟨rfl, hbq⟩
            go_wp2_with fail
            exact hK _ _ rfl trivial hbq
          rintro v rfl K hK
          go_simp
          refine hK _ ?_
          clear hK K
          refine flowW_plain rfl ?_
          go_big_quiet_step (fail)
          refine wpQuiet_nil ?_
          refine flowW_plain rfl ?_
          go_big_quiet_step (fail)
          refine wpQuiet_nil ?_
          refine flowW_plain rfl ?_
          go_big_quiet_step (fail)
          refine wpQuiet_nil ?_
          refine flowW_plain rfl ?_
          go_big_quiet_step (fail)
          refine wpQuiet_nil ?_
          refine flowW_plain rfl ?_
          go_big_quiet_step (fail)
          refine wpQuiet_nil ?_
          refine flowW_plain rfl ?_
          go_big_quiet_step (fail)
          refine wpQuiet_nil ?_
          refine flowW_plain rfl ?_
          go_big_quiet_step (fail)
          refine wpQuiet_nil ?_
          refine flowW_plain rfl ?_
          go_big_quiet_step (fail)
          refine wpQuiet_nil ?_
          refine flowW_call rfl rfl ?_ ?_
          · intro W hW hF K hK
            clear kc0 kc1 kc2 kc3 kc4 kzz0 kzz1 kd0 kd1 ku0 ku1 ku2 ku3 ku4
            go_wp2_with fail
            refine (put_o (P_u.out.later (below_then HB.out hW)) hml MA.out).mono ?_
            rintro e wq ⟨a, k, rfl, ho, hbq⟩
            go_wp2_with fail
            exact hK _ _ ⟨a, k, rfl⟩ ⟨a, k, rfl, Rd.of_own ho⟩ hbq
          rintro v ⟨a30, k30, rfl⟩ K hK
          go_simp
          refine hK _ ?_
          clear hK K
          refine flowW_plain rfl ?_
          go_big_quiet_step (fail)
          refine wpQuiet_nil ?_
          refine flowW_call rfl rfl ?_ ?_
          · intro W hW hF K hK
            clear kc0 kc1 kc2 kc3 kc4 kzz0 kzz1 kd0 kd1 ku0 ku1 ku2 ku3 ku4
            obtain ⟨_, _, he30, h30⟩ := hF 30 rfl
            cases he30
            go_wp2_with fail
            refine (same_p m h30 (P_u.out.later (below_then HB.out hW)) hml).mono ?_
            rintro e wq ⟨rfl, hbq⟩
            go_wp2_with fail
            exact hK _ _ rfl trivial hbq
          rintro v rfl K hK
          go_simp
          refine hK _ ?_
          clear hK K
          refine flowW_plain rfl ?_
          go_big_quiet_step (fail)
          refine wpQuiet_nil ?_
          refine flowW_plain rfl ?_
          go_big_quiet_step (fail)
          refine wpQuiet_nil ?_
          refine flowW_plain rfl ?_
          go_big_quiet_step (fail)
          refine wpQuiet_nil ?_
          refine flowW_plain rfl ?_
          go_big_quiet_step (fail)
          refine wpQuiet_nil ?_
          refine flowW_plain rfl ?_
          go_big_quiet_step (fail)
          refine wpQuiet_nil ?_
          refine flowW_plain rfl ?_
          go_big_quiet_step (fail)
          refine wpQuiet_nil ?_
          refine flowW_plain rfl ?_
          go_big_quiet_step (fail)
          refine wpQuiet_nil ?_
          refine flowW_plain rfl ?_
          go_big_quiet_step (fail)
          refine wpQuiet_nil ?_
          refine flowW_plain rfl ?_
          go_big_quiet_step (fail)
          refine wpQuiet_nil ?_
          refine flowW_plain rfl ?_
          go_big_quiet_step (fail)
          refine wpQuiet_nil ?_
          refine flowW_plain rfl ?_
          go_big_quiet_step (fail)
          refine wpQuiet_nil ?_
          refine flowW_plain rfl ?_
          go_big_quiet_step (fail)
          refine wpQuiet_nil ?_
          refine flowW_plain rfl ?_
          go_big_quiet_step (fail)
          refine wpQuiet_nil ?_
          refine flowW_plain rfl ?_
          go_big_quiet_step (fail)
          refine wpQuiet_nil ?_
          refine flowW_plain rfl ?_
          go_big_quiet_step (fail)
          refine wpQuiet_nil ?_
          refine flowW_plain rfl ?_
          go_big_quiet_step (fail)
          refine wpQuiet_nil ?_
          refine flowW_plain rfl ?_
          go_big_quiet_step (fail)
          refine wpQuiet_nil ?_
          refine flowW_plain rfl ?_
          go_big_quiet_step (fail)
          refine wpQuiet_nil ?_
          refine flowW_plain rfl ?_
          go_big_quiet_step (fail)
          refine wpQuiet_nil ?_
          refine flowW_plain rfl ?_
          go_big_quiet_step (fail)
          refine wpQuiet_nil ?_
          refine flowW_plain rfl ?_
          go_big_quiet_step (fail)
          refine wpQuiet_nil ?_
          refine flowW_plain rfl ?_
          go_big_quiet_step (fail)
          refine wpQuiet_nil ?_
          refine flowW_end fun wz hwz hF hD => ?_
          clear kc0 kc1 kc2 kc3 kc4 kzz0 kzz1 kd0 kd1 ku0 ku1 ku2 ku3 ku4
          simp only [List.drop_succ_cons, List.drop_zero]
          replace HB := Lib.hid (below_then HB.out hwz)
          clear hwz hF hD c0 c1 c2 c3 c4 zz0 zz1 d0 d1 u0 u1 u2 u3 u4
          have c0 := cell_of_box (bx_later HB.out B_c.out) 0 rfl
          have c1 := cell_of_box (bx_later HB.out B_c.out) 1 rfl
          have c2 := cell_of_box (bx_later HB.out B_c.out) 2 rfl
          have c3 := cell_of_box (bx_later HB.out B_c.out) 3 rfl
          have c4 := cell_of_box (bx_later HB.out B_c.out) 4 rfl
          have zz0 := cell_of_box (bx_later HB.out B_zz.out) 0 rfl
          have zz1 := cell_of_box (bx_later HB.out B_zz.out) 1 rfl
          have d0 := cell_of_box (bx_later HB.out B_d.out) 0 rfl
          have d1 := cell_of_box (bx_later HB.out B_d.out) 1 rfl
          have u0 := cell_of_box (bx_later HB.out B_u.out) 0 rfl
          have u1 := cell_of_box (bx_later HB.out B_u.out) 1 rfl
          have u2 := cell_of_box (bx_later HB.out B_u.out) 2 rfl
          have u3 := cell_of_box (bx_later HB.out B_u.out) 3 rfl
          have u4 := cell_of_box (bx_later HB.out B_u.out) 4 rfl
          go_wp2_with fail
          go_ret
          exact ⟨by first | rfl | exact ret_bool (by simp), below_then HB1.out HB.out⟩

set_option maxRecDepth 100000 in
theorem lifted (os : Os) (started : os.Started) (H : Type) (enc : TypeId × Value → H) :
    ReturnsInHanded {} Try.checked os 4 .any (Rows.bagAddsSpec.pre6 enc Try.prog Try.f4 Rows.bagAddsRow.domain false) (Rows.bagAddsSpec.post enc Try.prog Try.f4 false true false false) := by
  refine returnsInHanded_of_change_sized (C := Try.checked) ownKnob_none started (by kernel_rfl) Try.func4
    (ChangeSpec.witness6 (enc := enc) (C := Try.checked) false ⟨#[], #[.agg #[.int .i64 0, .int .i64 0, .int .i64 0, .string ⟨#[]⟩, .slice none 0 0], .agg #[.int .i64 0, .int .i64 0], .agg #[.int .i64 0, .int .i64 0]], []⟩ 8 (by kernel_rfl) (by kernel_rfl) (by kernel_rfl) (by kernel_rfl)) ?_
  intro W base args ds gs before hval0 hW hcnd hsz0 _
  have hval : ∀ (j : Nat) t v, Try.f4.params[j]? = some t → args[j]? = some v → Value.okWide Try.prog W .any base t v := hval0
  have hW' := hW
  obtain ⟨p, q, hA0, hV, rfl, hfz, hnd⟩ := hW
  have hA : DataW.TrodAll enc Try.prog W 0 (fun _ => true) true Try.f4.params.toList args.toList ds p := hA0
  have hsz : (DataW.weightsEach Try.prog (Try.f4.params.toList ++ Rows.bagAddsSpec.plain.varTypes Try.prog) (ds ++ gs)).all (· ≤ reachBytes) = true := hsz0
  rw [Try.params4] at hA hval hsz
  obtain ⟨v0, vs0, d0, ds0, p0, q0, hargs, rfl, rfl, h0, r0r⟩ := trodAll_cons hA
  obtain ⟨v1, vs1, d1, ds1, p1, q1, rfl, rfl, rfl, h1, r1r⟩ := trodAll_cons r0r
  obtain ⟨v2, vs2, d2, ds2, p2, q2, rfl, rfl, rfl, h2, r2r⟩ := trodAll_cons r1r
  obtain ⟨rfl, rfl, rfl⟩ := trodAll_nil r2r
  obtain rfl : args = #[v0, v1, v2] := by cases args; simp_all
  obtain ⟨rfl, rfl⟩ := trodVars_none hV
  have g0 := sized_at hsz (j := 0) rfl rfl
  have g1 := sized_at hsz (j := 1) rfl rfl
  have g2 := sized_at hsz (j := 2) rfl rfl
  obtain ⟨y0_0, y0_1, y0_2, y0_3, rfl, f0_0⟩ := open_cell (hval 0 26 v0 rfl rfl) h0
  obtain ⟨y1_0, y1_1, rfl⟩ := open_int2 (hval 1 35 v1 rfl rfl) h1
  obtain ⟨y2_0, rfl⟩ := open_dot (hval 2 37 v2 rfl rfl) h2
  refine (walk y0_0 y0_1 y0_2 y0_3 y1_0 y1_1 y2_0 W f0_0).mono fun e W' ⟨he, hg⟩ => ⟨_, he, law_post laidOut (by kernel_rfl) rfl Try.underlying4 rfl rfl hW' hg⟩

theorem over : Rows.bagAddsRow.holds Try.pinned (OpenSpec.ofChange Rows.bagAddsSpec) :=
  OpenClaim.holds_of_wide 4 Try.f4 rfl rfl rfl rfl rfl rfl rfl ⟨rfl, rfl, rfl, rfl, rfl⟩ rfl rfl rfl rfl rfl (by kernel_rfl) Try.func4 (by kernel_rfl)
    (of_decide_eq_true (by kernel_rfl)) (by unfold Func.isWrapper; first | (rw [if_pos (by decide +kernel)]; kernel_rfl) | (rw [if_neg (by decide +kernel)]; exact ⟨rfl, rfl⟩))
    (fun os started H enc _ => lifted os started H enc)

/-- THE STATEMENT. -/
theorem proved : Rows.BagAddsSaid :=
  over
#print axioms proved
end Go.Proofs.Ytnpciogpegmejaa.bagAdds
