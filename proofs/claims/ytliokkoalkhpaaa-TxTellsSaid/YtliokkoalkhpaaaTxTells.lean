/-
  The law TxTells. (printed by tools/gen_l17.py)
-/
import Derived.Test.YtliokkoalkhpaaaWF
namespace Go.Proofs.Ytliokkoalkhpaaa.txTells
open Go.ChangeShapes Go.WideShapes Go.ChangeAt Go.RowKit Go.Sort Go.BigFrame Go.Proofs.Ytliokkoalkhpaaa
open Go.ChangeMaps (open_string shut_string)
attribute [local irreducible] FlowW

set_option maxRecDepth 100000 in
set_option maxHeartbeats 16000000 in
theorem walk (t : TxM) (d q : Int) (w : World) (hr : t.Reads w) (hb : t.Bd) :
    Calls Try.prog 3 #[t.agg, .agg #[.int .i64 d, .int .i64 q]] w fun e w' => e = .returned (.bool true) ∧ Below w.heap.size w w' := by
  obtain ⟨dev, seq, time, deps, ops, els, fm, hands, note, whom, upto, vd, vo, ve, vh⟩ := t
  obtain ⟨hd, ho, he, hh⟩ := hr
  obtain ⟨hb1, hb2, hb3, hb4, hb5⟩ := hb
  replace hb1 : ∀ x ∈ [dev, seq, time, firmI fm, note, whom, upto], okI x := hb1
  dsimp only at hd ho he hh hb2 hb3 hb4 hb5
  obtain ⟨ad, cd, hvvd, hc1vd, hc2vd, -, -⟩ := id hd
  obtain ⟨nd, hnd⟩ : ∃ n, deps.length = n := ⟨_, rfl⟩
  rw [hnd] at hvvd hc1vd
  subst hvvd
  unfold maxLen at hc2vd
  have HND := Lib.hid hnd
  clear hnd
  obtain ⟨ao, co, hvvo, hc1vo, hc2vo, -, -⟩ := id ho.1
  obtain ⟨no, hno⟩ : ∃ n, ops.length = n := ⟨_, rfl⟩
  rw [hno] at hvvo hc1vo
  subst hvvo
  unfold maxLen at hc2vo
  have HNO := Lib.hid hno
  clear hno
  obtain ⟨ae, ce, hvve, hc1ve, hc2ve, -, -⟩ := id he.1
  obtain ⟨ne, hne⟩ : ∃ n, els.length = n := ⟨_, rfl⟩
  rw [hne] at hvve hc1ve
  subst hvve
  unfold maxLen at hc2ve
  have HNE := Lib.hid hne
  clear hne
  obtain ⟨ah, ch, hvvh, hc1vh, hc2vh, -, -⟩ := id hh
  obtain ⟨nh, hnh⟩ : ∃ n, hands.length = n := ⟨_, rfl⟩
  rw [hnh] at hvvh hc1vh
  subst hvvh
  unfold maxLen at hc2vh
  have HNH := Lib.hid hnh
  clear hnh
  change Calls Try.prog 3 #[.agg #[.int .i64 dev, .int .i64 seq, .int .i64 time, .slice ad nd cd, .slice ao no co, .slice ae ne ce, .bool fm, .slice ah nh ch, .int .i64 note, .int .i64 whom, .int .i64 upto], .agg #[.int .i64 d, .int .i64 q]] w _
  obtain ⟨w1, hw1⟩ : ∃ w1, (w.alloc (.cells #[(.int .i64 dev), (.int .i64 seq), (.int .i64 time), (.slice ad nd cd), (.slice ao no co), (.slice ae ne ce), (.bool fm), (.slice ah nh ch), (.int .i64 note), (.int .i64 whom), (.int .i64 upto)] 27)).alloc (.cells #[(.int .i64 d), (.int .i64 q)] 29) = w1 := ⟨_, rfl⟩
  have hb1 : Below w.heap.size w w1 := by rw [← hw1]; exact below_alloc_then (below_alloc _ _)
  have b_p : Bx w1 (w.heap.size) #[(.int .i64 dev), (.int .i64 seq), (.int .i64 time), (.slice ad nd cd), (.slice ao no co), (.slice ae ne ce), (.bool fm), (.slice ah nh ch), (.int .i64 note), (.int .i64 whom), (.int .i64 upto)] 27 := by rw [← hw1]; exact bx_later (below_alloc _ _) (bx_new (by simp))
  have b_z : Bx w1 (w.heap.size + 1) #[(.int .i64 d), (.int .i64 q)] 29 := by rw [← hw1]; exact bx_new (by simp)
  have HW := Lib.hid hw1
  have HB1 := Lib.hid hb1
  have HB := Lib.hid (Below.refl w1.heap.size w1)
  have B_p := Lib.hid b_p
  have B_z := Lib.hid b_z
  have p0 := cell_of_box (bx_later HB.out B_p.out) 0 rfl
  have p1 := cell_of_box (bx_later HB.out B_p.out) 1 rfl
  have p2 := cell_of_box (bx_later HB.out B_p.out) 2 rfl
  have p3 := cell_of_box (bx_later HB.out B_p.out) 3 rfl
  have p4 := cell_of_box (bx_later HB.out B_p.out) 4 rfl
  have p5 := cell_of_box (bx_later HB.out B_p.out) 5 rfl
  have p6 := cell_of_box (bx_later HB.out B_p.out) 6 rfl
  have p7 := cell_of_box (bx_later HB.out B_p.out) 7 rfl
  have p8 := cell_of_box (bx_later HB.out B_p.out) 8 rfl
  have p9 := cell_of_box (bx_later HB.out B_p.out) 9 rfl
  have p10 := cell_of_box (bx_later HB.out B_p.out) 10 rfl
  have z0 := cell_of_box (bx_later HB.out B_z.out) 0 rfl
  have z1 := cell_of_box (bx_later HB.out B_z.out) 1 rfl
  clear hw1 hb1 b_p b_z
  have HD := Lib.hid (hd.later HB1.out)
  have HO := Lib.hid (ho.later HB1.out)
  have HE := Lib.hid (he.later HB1.out)
  have HH := Lib.hid (hh.later HB1.out)
  have HB1_ := Lib.hid hb1
  have HB2_ := Lib.hid hb2
  have HB3_ := Lib.hid hb3
  have HB4_ := Lib.hid hb4
  have HB5_ := Lib.hid hb5
  clear hd ho he hh hb1 hb2 hb3 hb4 hb5
  obtain ⟨kq, hkq⟩ : ∃ kq, (decide (d = dev ∧ q = seq) || hasV deps ⟨d, q⟩) = kq := ⟨_, rfl⟩
  have HKQ := Lib.hid hkq
  have hkk : (kq == kq) = true := by simp
  clear hkq
  cases hf0 : fewQ nd nh ops els
  all_goals
    have F0 := Lib.hid hf0
  · clear hf0
    go_enter Try.func3, Try.ntmps3
    go_wp2_with fail
    rw [HW.out]
    go_wp2_with fail
    refine (few_b false F0.out HNO.out HNE.out (HO.out.later HB.out) (HE.out.later HB.out)).mono ?_
    rintro e wn ⟨rfl, hb⟩
    replace HB := Lib.hid (below_then HB.out (by first | exact hb | exact below_alloc_then hb | exact below_alloc_then (below_alloc_then hb)))
    clear hb p0 p1 p2 p3 p4 p5 p6 p7 p8 p9 p10 z0 z1
    have p0 := cell_of_box (bx_later HB.out B_p.out) 0 rfl
    have p1 := cell_of_box (bx_later HB.out B_p.out) 1 rfl
    have p2 := cell_of_box (bx_later HB.out B_p.out) 2 rfl
    have p3 := cell_of_box (bx_later HB.out B_p.out) 3 rfl
    have p4 := cell_of_box (bx_later HB.out B_p.out) 4 rfl
    have p5 := cell_of_box (bx_later HB.out B_p.out) 5 rfl
    have p6 := cell_of_box (bx_later HB.out B_p.out) 6 rfl
    have p7 := cell_of_box (bx_later HB.out B_p.out) 7 rfl
    have p8 := cell_of_box (bx_later HB.out B_p.out) 8 rfl
    have p9 := cell_of_box (bx_later HB.out B_p.out) 9 rfl
    have p10 := cell_of_box (bx_later HB.out B_p.out) 10 rfl
    have z0 := cell_of_box (bx_later HB.out B_z.out) 0 rfl
    have z1 := cell_of_box (bx_later HB.out B_z.out) 1 rfl
    go_wp2_with fail
    refine (alive_any _).mono ?_
    rintro e wn ⟨rfl, hb⟩
    replace HB := Lib.hid (below_then HB.out (by first | exact hb | exact below_alloc_then hb | exact below_alloc_then (below_alloc_then hb)))
    clear hb p0 p1 p2 p3 p4 p5 p6 p7 p8 p9 p10 z0 z1
    have p0 := cell_of_box (bx_later HB.out B_p.out) 0 rfl
    have p1 := cell_of_box (bx_later HB.out B_p.out) 1 rfl
    have p2 := cell_of_box (bx_later HB.out B_p.out) 2 rfl
    have p3 := cell_of_box (bx_later HB.out B_p.out) 3 rfl
    have p4 := cell_of_box (bx_later HB.out B_p.out) 4 rfl
    have p5 := cell_of_box (bx_later HB.out B_p.out) 5 rfl
    have p6 := cell_of_box (bx_later HB.out B_p.out) 6 rfl
    have p7 := cell_of_box (bx_later HB.out B_p.out) 7 rfl
    have p8 := cell_of_box (bx_later HB.out B_p.out) 8 rfl
    have p9 := cell_of_box (bx_later HB.out B_p.out) 9 rfl
    have p10 := cell_of_box (bx_later HB.out B_p.out) 10 rfl
    have z0 := cell_of_box (bx_later HB.out B_z.out) 0 rfl
    have z1 := cell_of_box (bx_later HB.out B_z.out) 1 rfl
    go_wp2_with fail
    go_ret
    exact ⟨by first | rfl | exact ret_bool (by simp), below_then HB1.out HB.out⟩
  · have FF := Lib.hid (few_facts F0.out HB3_.out HB4_.out)
    have HL1 : Hid (nd ≤ 1000000) := by show _ ≤ _; have := FF.out.fd; omega
    have HL2 : Hid (no ≤ 2000) := by show _ ≤ _; have := FF.out.fo; have := HNO.out; omega
    have HL3 : Hid (ne ≤ 2000) := by show _ ≤ _; have := FF.out.fe; have := HNE.out; omega
    have HL4 : Hid (nh ≤ 2000) := by show _ ≤ _; have := FF.out.fh; omega
    clear hf0
    go_enter Try.func3, Try.ntmps3
    go_wp2_with fail
    rw [HW.out]
    go_wp2_with fail
    refine (few_b true F0.out HNO.out HNE.out (HO.out.later HB.out) (HE.out.later HB.out)).mono ?_
    rintro e wn ⟨rfl, hb⟩
    replace HB := Lib.hid (below_then HB.out (by first | exact hb | exact below_alloc_then hb | exact below_alloc_then (below_alloc_then hb)))
    clear hb p0 p1 p2 p3 p4 p5 p6 p7 p8 p9 p10 z0 z1
    have p0 := cell_of_box (bx_later HB.out B_p.out) 0 rfl
    have p1 := cell_of_box (bx_later HB.out B_p.out) 1 rfl
    have p2 := cell_of_box (bx_later HB.out B_p.out) 2 rfl
    have p3 := cell_of_box (bx_later HB.out B_p.out) 3 rfl
    have p4 := cell_of_box (bx_later HB.out B_p.out) 4 rfl
    have p5 := cell_of_box (bx_later HB.out B_p.out) 5 rfl
    have p6 := cell_of_box (bx_later HB.out B_p.out) 6 rfl
    have p7 := cell_of_box (bx_later HB.out B_p.out) 7 rfl
    have p8 := cell_of_box (bx_later HB.out B_p.out) 8 rfl
    have p9 := cell_of_box (bx_later HB.out B_p.out) 9 rfl
    have p10 := cell_of_box (bx_later HB.out B_p.out) 10 rfl
    have z0 := cell_of_box (bx_later HB.out B_z.out) 0 rfl
    have z1 := cell_of_box (bx_later HB.out B_z.out) 1 rfl
    go_wp2_with fail
    refine wp_region_flow (by kernel_rfl) 31 [(0, ⟨fun v => v = .bool true, fun _ _ _ _ => True⟩), (3, ⟨fun v => v = .agg #[.int .i64 dev, .int .i64 seq], fun _ _ _ _ => True⟩), (5, ⟨fun v => v = .agg #[.int .i64 dev, .int .i64 seq], fun _ _ _ _ => True⟩), (10, ⟨fun v => v = .agg #[.int .i64 time, .int .i64 dev, .int .i64 seq], fun _ _ _ _ => True⟩), (12, ⟨fun v => v = .agg #[.int .i64 time, .int .i64 dev, .int .i64 seq], fun _ _ _ _ => True⟩), (18, ⟨fun v => v = .bool kq, fun _ _ _ _ => True⟩), (21, ⟨fun v => v = .bool kq, fun _ _ _ _ => True⟩), (27, ⟨fun v => v = .agg #[.int .i64 dev, .int .i64 seq], fun _ _ _ _ => True⟩), (28, ⟨fun v => v = .bool true, fun _ _ _ _ => True⟩)] (by kernel_rfl) ?_ ?_ ?_
    · intro x hx
      simp only [List.mem_cons, List.not_mem_nil, or_false] at hx
      rcases hx with rfl | rfl | rfl | rfl | rfl | rfl | rfl | rfl | rfl
      · exact ⟨_, rfl⟩
      · exact ⟨_, rfl⟩
      · exact ⟨_, rfl⟩
      · exact ⟨_, rfl⟩
      · exact ⟨_, rfl⟩
      · exact ⟨_, rfl⟩
      · exact ⟨_, rfl⟩
      · exact ⟨_, rfl⟩
      · exact ⟨_, rfl⟩
    · intro x hx v lo hi w w' h hb
      simp only [List.mem_cons, List.not_mem_nil, or_false] at hx
      rcases hx with rfl | rfl | rfl | rfl | rfl | rfl | rfl | rfl | rfl
      · exact trivial
      · exact trivial
      · exact trivial
      · exact trivial
      · exact trivial
      · exact trivial
      · exact trivial
      · exact trivial
      · exact trivial
    · intro lo hi
      have kp0 := cell_regrown p0
      have kp1 := cell_regrown p1
      have kp2 := cell_regrown p2
      have kp3 := cell_regrown p3
      have kp4 := cell_regrown p4
      have kp5 := cell_regrown p5
      have kp6 := cell_regrown p6
      have kp7 := cell_regrown p7
      have kp8 := cell_regrown p8
      have kp9 := cell_regrown p9
      have kp10 := cell_regrown p10
      have kz0 := cell_regrown z0
      have kz1 := cell_regrown z1
      refine flowW_call rfl rfl ?_ ?_
      · intro W hW hF K hK
        clear kp0 kp1 kp2 kp3 kp4 kp5 kp6 kp7 kp8 kp9 kp10 kz0 kz1
        go_wp2_with fail
        refine (alive_any _).mono ?_
        rintro e wq ⟨rfl, hbq⟩
        go_wp2_with fail
        exact hK _ _ rfl trivial hbq
      rintro v rfl K hK
      go_simp
      refine hK _ ?_
      clear hK K
      refine flowW_plain rfl ?_
      go_big_quiet_step (fail)
      refine wpQuiet_nil ?_
      refine flowW_plain rfl ?_
      go_big_quiet_step (fail)
      refine wpQuiet_nil ?_
      refine flowW_call rfl rfl ?_ ?_
      · intro W hW hF K hK
        clear kp0 kp1 kp2 kp3 kp4 kp5 kp6 kp7 kp8 kp9 kp10 kz0 kz1
        go_wp2_with fail
        refine (dot_any _).mono ?_
        rintro e wq ⟨rfl, hbq⟩
        go_wp2_with fail
        exact hK _ _ rfl trivial hbq
      rintro v rfl K hK
      go_simp
      refine hK _ ?_
      clear hK K
      refine flowW_plain rfl ?_
      go_big_quiet_step (fail)
      refine wpQuiet_nil ?_
      refine flowW_call rfl rfl ?_ ?_
      · intro W hW hF K hK
        clear kp0 kp1 kp2 kp3 kp4 kp5 kp6 kp7 kp8 kp9 kp10 kz0 kz1
        go_wp2_with fail
        refine (refDot_any _).mono ?_
        rintro e wq ⟨rfl, hbq⟩
        go_wp2_with fail
        exact hK _ _ rfl trivial hbq
      rintro v rfl K hK
      go_simp
      refine hK _ ?_
      clear hK K
      refine flowW_plain rfl ?_
      go_big_quiet_step (fail)
      refine wpQuiet_nil ?_
      refine flowW_plain rfl ?_
      go_big_quiet_step (fail)
      refine wpQuiet_nil ?_
      refine flowW_plain rfl ?_
      go_big_quiet_step (fail)
      refine wpQuiet_nil ?_
      refine flowW_plain rfl ?_
      go_big_quiet_step (fail)
      refine wpQuiet_nil ?_
      refine flowW_call rfl rfl ?_ ?_
      · intro W hW hF K hK
        clear kp0 kp1 kp2 kp3 kp4 kp5 kp6 kp7 kp8 kp9 kp10 kz0 kz1
        go_wp2_with fail
        refine (stamp_any _).mono ?_
        rintro e wq ⟨rfl, hbq⟩
        go_wp2_with fail
        exact hK _ _ rfl trivial hbq
      rintro v rfl K hK
      go_simp
      refine hK _ ?_
      clear hK K
      refine flowW_plain rfl ?_
      go_big_quiet_step (fail)
      refine wpQuiet_nil ?_
      refine flowW_call rfl rfl ?_ ?_
      · intro W hW hF K hK
        clear kp0 kp1 kp2 kp3 kp4 kp5 kp6 kp7 kp8 kp9 kp10 kz0 kz1
        go_wp2_with fail
        refine (refStamp_any _).mono ?_
        rintro e wq ⟨rfl, hbq⟩
        go_wp2_with fail
        exact hK _ _ rfl trivial hbq
      rintro v rfl K hK
      go_simp
      refine hK _ ?_
      clear hK K
      refine flowW_plain rfl ?_
      go_big_quiet_step (fail)
      refine wpQuiet_nil ?_
      refine flowW_plain rfl ?_
      go_big_quiet_step (fail)
      refine wpQuiet_nil ?_
      refine flowW_plain rfl ?_
      go_big_quiet_step (fail)
      refine wpQuiet_nil ?_
      refine flowW_plain rfl ?_
      go_big_quiet_step (fail)
      refine wpQuiet_nil ?_
      refine flowW_plain rfl ?_
      go_big_quiet_step (fail)
      refine wpQuiet_nil ?_
      refine flowW_call rfl rfl ?_ ?_
      · intro W hW hF K hK
        clear kp0 kp1 kp2 kp3 kp4 kp5 kp6 kp7 kp8 kp9 kp10 kz0 kz1
        go_wp2_with fail
        refine (knew_b kq HKQ.out HND.out (HD.out.later (below_then HB.out hW))).mono ?_
        rintro e wq ⟨rfl, hbq⟩
        go_wp2_with fail
        exact hK _ _ rfl trivial hbq
      rintro v rfl K hK
      go_simp
      refine hK _ ?_
      clear hK K
      refine flowW_plain rfl ?_
      go_big_quiet_step (fail)
      refine wpQuiet_nil ?_
      refine flowW_plain rfl ?_
      go_big_quiet_step (fail)
      refine wpQuiet_nil ?_
      refine flowW_call rfl rfl ?_ ?_
      · intro W hW hF K hK
        clear kp0 kp1 kp2 kp3 kp4 kp5 kp6 kp7 kp8 kp9 kp10 kz0 kz1
        go_wp2_with fail
        refine (refKnew_b kq HKQ.out HND.out (HD.out.later (below_then HB.out hW))).mono ?_
        rintro e wq ⟨rfl, hbq⟩
        go_wp2_with fail
        exact hK _ _ rfl trivial hbq
      rintro v rfl K hK
      go_simp
      refine hK _ ?_
      clear hK K
      refine flowW_plain rfl ?_
      go_big_quiet_step (fail)
      refine wpQuiet_nil ?_
      refine flowW_plain rfl ?_
      go_big_quiet_step (fail)
      refine wpQuiet_nil ?_
      refine flowW_plain rfl ?_
      go_big_quiet_step (fail)
      refine wpQuiet_nil ?_
      refine flowW_plain rfl ?_
      go_big_quiet_step (fail)
      refine wpQuiet_nil ?_
      refine flowW_plain rfl ?_
      go_big_quiet_step (fail)
      refine wpQuiet_nil ?_
      refine flowW_call rfl rfl ?_ ?_
      · intro W hW hF K hK
        clear kp0 kp1 kp2 kp3 kp4 kp5 kp6 kp7 kp8 kp9 kp10 kz0 kz1
        go_wp2_with fail
        refine (dot_any _).mono ?_
        rintro e wq ⟨rfl, hbq⟩
        go_wp2_with fail
        exact hK _ _ rfl trivial hbq
      rintro v rfl K hK
      go_simp
      refine hK _ ?_
      clear hK K
      refine flowW_call rfl rfl ?_ ?_
      · intro W hW hF K hK
        clear kp0 kp1 kp2 kp3 kp4 kp5 kp6 kp7 kp8 kp9 kp10 kz0 kz1
        go_wp2_with fail
        refine (knew_self HND.out (HD.out.later (below_then HB.out hW))).mono ?_
        rintro e wq ⟨rfl, hbq⟩
        go_wp2_with fail
        exact hK _ _ rfl trivial hbq
      rintro v rfl K hK
      go_simp
      refine hK _ ?_
      clear hK K
      refine flowW_plain rfl ?_
      go_big_quiet_step (fail)
      refine wpQuiet_nil ?_
      refine flowW_plain rfl ?_
      go_big_quiet_step (fail)
      refine wpQuiet_nil ?_
      refine flowW_end fun wz hwz hF hD => ?_
      clear kp0 kp1 kp2 kp3 kp4 kp5 kp6 kp7 kp8 kp9 kp10 kz0 kz1
      simp only [List.drop_succ_cons, List.drop_zero]
      replace HB := Lib.hid (below_then HB.out hwz)
      clear hwz hF hD p0 p1 p2 p3 p4 p5 p6 p7 p8 p9 p10 z0 z1
      have p0 := cell_of_box (bx_later HB.out B_p.out) 0 rfl
      have p1 := cell_of_box (bx_later HB.out B_p.out) 1 rfl
      have p2 := cell_of_box (bx_later HB.out B_p.out) 2 rfl
      have p3 := cell_of_box (bx_later HB.out B_p.out) 3 rfl
      have p4 := cell_of_box (bx_later HB.out B_p.out) 4 rfl
      have p5 := cell_of_box (bx_later HB.out B_p.out) 5 rfl
      have p6 := cell_of_box (bx_later HB.out B_p.out) 6 rfl
      have p7 := cell_of_box (bx_later HB.out B_p.out) 7 rfl
      have p8 := cell_of_box (bx_later HB.out B_p.out) 8 rfl
      have p9 := cell_of_box (bx_later HB.out B_p.out) 9 rfl
      have p10 := cell_of_box (bx_later HB.out B_p.out) 10 rfl
      have z0 := cell_of_box (bx_later HB.out B_z.out) 0 rfl
      have z1 := cell_of_box (bx_later HB.out B_z.out) 1 rfl
      go_wp2_with fail
      go_ret
      exact ⟨by first | rfl | exact ret_bool (by simp), below_then HB1.out HB.out⟩

set_option maxRecDepth 100000 in
theorem lifted (os : Os) (started : os.Started) (H : Type) (enc : TypeId × Value → H) :
    ReturnsInHanded {} Try.checked os 3 .any (Rows.txTellsSpec.pre6 enc Try.prog Try.f3 Rows.txTellsRow.domain false) (Rows.txTellsSpec.post enc Try.prog Try.f3 false true false false) := by
  refine returnsInHanded_of_change_sized (C := Try.checked) ownKnob_none started (by kernel_rfl) Try.func3
    (ChangeSpec.witness6 (enc := enc) (C := Try.checked) false ⟨#[], #[.agg #[.int .i64 0, .int .i64 0, .int .i64 0, .slice none 0 0, .slice none 0 0, .slice none 0 0, .bool false, .slice none 0 0, .int .i64 0, .int .i64 0, .int .i64 0], .agg #[.int .i64 0, .int .i64 0]], []⟩ 8 (by kernel_rfl) (by kernel_rfl) (by kernel_rfl) (by kernel_rfl)) ?_
  intro W base args ds gs before hval0 hW hcnd hsz0 _
  have hval : ∀ (j : Nat) t v, Try.f3.params[j]? = some t → args[j]? = some v → Value.okWide Try.prog W .any base t v := hval0
  have hW' := hW
  obtain ⟨p, q, hA0, hV, rfl, hfz, hnd⟩ := hW
  have hA : DataW.TrodAll enc Try.prog W 0 (fun _ => true) true Try.f3.params.toList args.toList ds p := hA0
  have hsz : (DataW.weightsEach Try.prog (Try.f3.params.toList ++ Rows.txTellsSpec.plain.varTypes Try.prog) (ds ++ gs)).all (· ≤ reachBytes) = true := hsz0
  rw [Try.params3] at hA hval hsz
  obtain ⟨v0, vs0, d0, ds0, p0, q0, hargs, rfl, rfl, h0, r0r⟩ := trodAll_cons hA
  obtain ⟨v1, vs1, d1, ds1, p1, q1, rfl, rfl, rfl, h1, r1r⟩ := trodAll_cons r0r
  obtain ⟨rfl, rfl, rfl⟩ := trodAll_nil r1r
  obtain rfl : args = #[v0, v1] := by cases args; simp_all
  obtain ⟨rfl, rfl⟩ := trodVars_none hV
  have g0 := sized_at hsz (j := 0) rfl rfl
  have g1 := sized_at hsz (j := 1) rfl rfl
  obtain ⟨y0_0, rfl, f0_0, f0_1⟩ := open_tx (hval 0 27 v0 rfl rfl) h0
  obtain ⟨y1_0, y1_1, rfl⟩ := open_dotT (hval 1 29 v1 rfl rfl) h1
  refine (walk y0_0 y1_0 y1_1 W f0_0 f0_1).mono fun e W' ⟨he, hg⟩ => ⟨_, he, law_post laidOut (by kernel_rfl) rfl Try.underlying4 rfl rfl hW' hg⟩

theorem over : Rows.txTellsRow.holds Try.pinned (OpenSpec.ofChange Rows.txTellsSpec) :=
  OpenClaim.holds_of_wide 3 Try.f3 rfl rfl rfl rfl rfl rfl rfl ⟨rfl, rfl, rfl, rfl, rfl⟩ rfl rfl rfl rfl rfl (by kernel_rfl) Try.func3 (by kernel_rfl)
    (of_decide_eq_true (by kernel_rfl)) (by unfold Func.isWrapper; first | (rw [if_pos (by decide +kernel)]; kernel_rfl) | (rw [if_neg (by decide +kernel)]; exact ⟨rfl, rfl⟩))
    (fun os started H enc _ => lifted os started H enc)

/-- THE STATEMENT. -/
theorem proved : Rows.TxTellsSaid :=
  over
#print axioms proved
end Go.Proofs.Ytliokkoalkhpaaa.txTells
