/-
  The law MultiWrites.
-/
import Derived.Test.YtagbaejgjhmokaaML2
namespace Go.Proofs.Ytagbaejgjhmokaa.multiWrites
open Go.ChangeShapes Go.WideShapes Go.ChangeAt Go.RowKit Go.Sort Go.BigFrame Go.Proofs.Ytagbaejgjhmokaa
open Go.ChangeMaps (open_string shut_string)

set_option maxRecDepth 100000 in
set_option maxHeartbeats 4000000 in
theorem walk (kd : Int) (cv : Val) (va : Value) (l : List Prt) (p : Prt) (vk : Value) (knew : List Int) (w : World) (ha : PRd w va l) (hk : Rd w vk knew.length (knew.map ic)) :
    Calls Try.prog 4 #[.agg #[.int .i64 kd, .int .i64 cv.k, .int .i64 cv.n, .string cv.s, va], p.agg, vk] w fun e w' => e = .returned (.bool true) ∧ Below w.heap.size w w' := by
  obtain ⟨ck, cn, cs⟩ := cv
  obtain ⟨ao, ca, rfl, -, hcm, -, -⟩ := id ha
  unfold maxLen at hcm
  obtain ⟨⟨pk, pn, ps⟩, ⟨pd, pq⟩, pat, ptm, ⟨pfd, pfq⟩, paa, pg⟩ := p
  obtain ⟨ko, kc, rfl, -, hkm, -, -⟩ := id hk
  unfold maxLen at hkm
  obtain ⟨w1, hw1⟩ : ∃ w1, (w.alloc (.cells #[(.int .i64 kd), (.int .i64 ck), (.int .i64 cn), (.string cs), (.slice ao l.length ca)] 26)).alloc (.cells #[(.int .i64 pk), (.int .i64 pn), (.string ps), (.int .i64 pd), (.int .i64 pq), (.int .i64 pat), (.int .i64 ptm), (.int .i64 pfd), (.int .i64 pfq), (.int .i64 paa), (.bool pg)] 32) = w1 := ⟨_, rfl⟩
  have hb1 : Below w.heap.size w w1 := by rw [← hw1]; exact below_alloc_then (below_alloc _ _)
  have b_c : Bx w1 (w.heap.size) #[(.int .i64 kd), (.int .i64 ck), (.int .i64 cn), (.string cs), (.slice ao l.length ca)] 26 := by rw [← hw1]; exact bx_later (below_alloc _ _) (bx_new (by simp))
  have b_p : Bx w1 (w.heap.size + 1) #[(.int .i64 pk), (.int .i64 pn), (.string ps), (.int .i64 pd), (.int .i64 pq), (.int .i64 pat), (.int .i64 ptm), (.int .i64 pfd), (.int .i64 pfq), (.int .i64 paa), (.bool pg)] 32 := by rw [← hw1]; exact bx_new (by simp)
  have HW := Lib.hid hw1
  have HB1 := Lib.hid hb1
  have HB := Lib.hid (Below.refl w1.heap.size w1)
  have B_c := Lib.hid b_c
  have B_p := Lib.hid b_p
  have c0 := cell_of_box (bx_later HB.out B_c.out) 0 rfl
  have c1 := cell_of_box (bx_later HB.out B_c.out) 1 rfl
  have c2 := cell_of_box (bx_later HB.out B_c.out) 2 rfl
  have c3 := cell_of_box (bx_later HB.out B_c.out) 3 rfl
  have c4 := cell_of_box (bx_later HB.out B_c.out) 4 rfl
  have p0 := cell_of_box (bx_later HB.out B_p.out) 0 rfl
  have p1 := cell_of_box (bx_later HB.out B_p.out) 1 rfl
  have p2 := cell_of_box (bx_later HB.out B_p.out) 2 rfl
  have p3 := cell_of_box (bx_later HB.out B_p.out) 3 rfl
  have p4 := cell_of_box (bx_later HB.out B_p.out) 4 rfl
  have p5 := cell_of_box (bx_later HB.out B_p.out) 5 rfl
  have p6 := cell_of_box (bx_later HB.out B_p.out) 6 rfl
  have p7 := cell_of_box (bx_later HB.out B_p.out) 7 rfl
  have p8 := cell_of_box (bx_later HB.out B_p.out) 8 rfl
  have p9 := cell_of_box (bx_later HB.out B_p.out) 9 rfl
  have p10 := cell_of_box (bx_later HB.out B_p.out) 10 rfl
  clear hw1 hb1 b_c b_p
  have HP := Lib.hid (ha.later HB1.out)
  have HK := Lib.hid (hk.later HB1.out)
  clear ha hk
  obtain ⟨m, hm⟩ : ∃ m, writeL l ⟨pk, pn, ps⟩ ⟨pd, pq⟩ knew = m := ⟨_, rfl⟩
  have hml : m.length ≤ l.length + 1 := by rw [← hm]; exact writeL_len _ _ _ _
  have HM := Lib.hid hm
  have HML := Lib.hid hml
  clear hm hml
  cases hf : decide ((l.length : Int) ≤ 60)
  all_goals
    have HF := Lib.hid hf
  · clear hf
    go_enter Try.func4, Try.ntmps4
    go_wp2_with fail
    rw [HW.out]
    go_wp2_with fail
    refine (few_p false HF.out (HP.out.later HB.out)).mono ?_
    rintro e wn ⟨rfl, hb⟩
    replace HB := Lib.hid (below_then HB.out (by first | exact hb | exact below_alloc_then hb | exact below_alloc_then (below_alloc_then hb)))
    clear hb c0 c1 c2 c3 c4 p0 p1 p2 p3 p4 p5 p6 p7 p8 p9 p10
    have c0 := cell_of_box (bx_later HB.out B_c.out) 0 rfl
    have c1 := cell_of_box (bx_later HB.out B_c.out) 1 rfl
    have c2 := cell_of_box (bx_later HB.out B_c.out) 2 rfl
    have c3 := cell_of_box (bx_later HB.out B_c.out) 3 rfl
    have c4 := cell_of_box (bx_later HB.out B_c.out) 4 rfl
    have p0 := cell_of_box (bx_later HB.out B_p.out) 0 rfl
    have p1 := cell_of_box (bx_later HB.out B_p.out) 1 rfl
    have p2 := cell_of_box (bx_later HB.out B_p.out) 2 rfl
    have p3 := cell_of_box (bx_later HB.out B_p.out) 3 rfl
    have p4 := cell_of_box (bx_later HB.out B_p.out) 4 rfl
    have p5 := cell_of_box (bx_later HB.out B_p.out) 5 rfl
    have p6 := cell_of_box (bx_later HB.out B_p.out) 6 rfl
    have p7 := cell_of_box (bx_later HB.out B_p.out) 7 rfl
    have p8 := cell_of_box (bx_later HB.out B_p.out) 8 rfl
    have p9 := cell_of_box (bx_later HB.out B_p.out) 9 rfl
    have p10 := cell_of_box (bx_later HB.out B_p.out) 10 rfl
    go_wp2_with fail
    refine (alive_any _).mono ?_
    rintro e wn ⟨rfl, hb⟩
    replace HB := Lib.hid (below_then HB.out (by first | exact hb | exact below_alloc_then hb | exact below_alloc_then (below_alloc_then hb)))
    clear hb c0 c1 c2 c3 c4 p0 p1 p2 p3 p4 p5 p6 p7 p8 p9 p10
    have c0 := cell_of_box (bx_later HB.out B_c.out) 0 rfl
    have c1 := cell_of_box (bx_later HB.out B_c.out) 1 rfl
    have c2 := cell_of_box (bx_later HB.out B_c.out) 2 rfl
    have c3 := cell_of_box (bx_later HB.out B_c.out) 3 rfl
    have c4 := cell_of_box (bx_later HB.out B_c.out) 4 rfl
    have p0 := cell_of_box (bx_later HB.out B_p.out) 0 rfl
    have p1 := cell_of_box (bx_later HB.out B_p.out) 1 rfl
    have p2 := cell_of_box (bx_later HB.out B_p.out) 2 rfl
    have p3 := cell_of_box (bx_later HB.out B_p.out) 3 rfl
    have p4 := cell_of_box (bx_later HB.out B_p.out) 4 rfl
    have p5 := cell_of_box (bx_later HB.out B_p.out) 5 rfl
    have p6 := cell_of_box (bx_later HB.out B_p.out) 6 rfl
    have p7 := cell_of_box (bx_later HB.out B_p.out) 7 rfl
    have p8 := cell_of_box (bx_later HB.out B_p.out) 8 rfl
    have p9 := cell_of_box (bx_later HB.out B_p.out) 9 rfl
    have p10 := cell_of_box (bx_later HB.out B_p.out) 10 rfl
    go_wp2_with fail
    go_ret
    exact ⟨by first | rfl | exact ret_bool (by simp), below_then HB1.out HB.out⟩
  · have hl : l.length ≤ 60 := by have := of_decide_eq_true hf; omega
    clear hf
    by_cases hkl : 100 < knew.length
    · have g1 : decide (100 < (knew.length : Int)) = true := decide_eq_true (by omega)
      have g2 : decide (100 < knew.length) = true := decide_eq_true (by omega)
      go_enter Try.func4, Try.ntmps4
      go_wp2_with fail
      rw [HW.out]
      go_wp2_with fail
      refine (few_p true HF.out (HP.out.later HB.out)).mono ?_
      rintro e wn ⟨rfl, hb⟩
      replace HB := Lib.hid (below_then HB.out (by first | exact hb | exact below_alloc_then hb | exact below_alloc_then (below_alloc_then hb)))
      clear hb c0 c1 c2 c3 c4 p0 p1 p2 p3 p4 p5 p6 p7 p8 p9 p10
      have c0 := cell_of_box (bx_later HB.out B_c.out) 0 rfl
      have c1 := cell_of_box (bx_later HB.out B_c.out) 1 rfl
      have c2 := cell_of_box (bx_later HB.out B_c.out) 2 rfl
      have c3 := cell_of_box (bx_later HB.out B_c.out) 3 rfl
      have c4 := cell_of_box (bx_later HB.out B_c.out) 4 rfl
      have p0 := cell_of_box (bx_later HB.out B_p.out) 0 rfl
      have p1 := cell_of_box (bx_later HB.out B_p.out) 1 rfl
      have p2 := cell_of_box (bx_later HB.out B_p.out) 2 rfl
      have p3 := cell_of_box (bx_later HB.out B_p.out) 3 rfl
      have p4 := cell_of_box (bx_later HB.out B_p.out) 4 rfl
      have p5 := cell_of_box (bx_later HB.out B_p.out) 5 rfl
      have p6 := cell_of_box (bx_later HB.out B_p.out) 6 rfl
      have p7 := cell_of_box (bx_later HB.out B_p.out) 7 rfl
      have p8 := cell_of_box (bx_later HB.out B_p.out) 8 rfl
      have p9 := cell_of_box (bx_later HB.out B_p.out) 9 rfl
      have p10 := cell_of_box (bx_later HB.out B_p.out) 10 rfl
      go_wp2_with fail
      refine (alive_any _).mono ?_
      rintro e wn ⟨rfl, hb⟩
      replace HB := Lib.hid (below_then HB.out (by first | exact hb | exact below_alloc_then hb | exact below_alloc_then (below_alloc_then hb)))
      clear hb c0 c1 c2 c3 c4 p0 p1 p2 p3 p4 p5 p6 p7 p8 p9 p10
      have c0 := cell_of_box (bx_later HB.out B_c.out) 0 rfl
      have c1 := cell_of_box (bx_later HB.out B_c.out) 1 rfl
      have c2 := cell_of_box (bx_later HB.out B_c.out) 2 rfl
      have c3 := cell_of_box (bx_later HB.out B_c.out) 3 rfl
      have c4 := cell_of_box (bx_later HB.out B_c.out) 4 rfl
      have p0 := cell_of_box (bx_later HB.out B_p.out) 0 rfl
      have p1 := cell_of_box (bx_later HB.out B_p.out) 1 rfl
      have p2 := cell_of_box (bx_later HB.out B_p.out) 2 rfl
      have p3 := cell_of_box (bx_later HB.out B_p.out) 3 rfl
      have p4 := cell_of_box (bx_later HB.out B_p.out) 4 rfl
      have p5 := cell_of_box (bx_later HB.out B_p.out) 5 rfl
      have p6 := cell_of_box (bx_later HB.out B_p.out) 6 rfl
      have p7 := cell_of_box (bx_later HB.out B_p.out) 7 rfl
      have p8 := cell_of_box (bx_later HB.out B_p.out) 8 rfl
      have p9 := cell_of_box (bx_later HB.out B_p.out) 9 rfl
      have p10 := cell_of_box (bx_later HB.out B_p.out) 10 rfl
      go_wp2_with fail
      go_ret
      exact ⟨by first | rfl | exact ret_bool (by simp), below_then HB1.out HB.out⟩
    · have g1 : decide (100 < (knew.length : Int)) = false := decide_eq_false (by omega)
      have g2 : decide (100 < knew.length) = false := decide_eq_false (by omega)
      go_enter Try.func4, Try.ntmps4
      go_wp2_with fail
      rw [HW.out]
      go_wp2_with fail
      refine (few_p true HF.out (HP.out.later HB.out)).mono ?_
      rintro e wn ⟨rfl, hb⟩
      replace HB := Lib.hid (below_then HB.out (by first | exact hb | exact below_alloc_then hb | exact below_alloc_then (below_alloc_then hb)))
      clear hb c0 c1 c2 c3 c4 p0 p1 p2 p3 p4 p5 p6 p7 p8 p9 p10
      have c0 := cell_of_box (bx_later HB.out B_c.out) 0 rfl
      have c1 := cell_of_box (bx_later HB.out B_c.out) 1 rfl
      have c2 := cell_of_box (bx_later HB.out B_c.out) 2 rfl
      have c3 := cell_of_box (bx_later HB.out B_c.out) 3 rfl
      have c4 := cell_of_box (bx_later HB.out B_c.out) 4 rfl
      have p0 := cell_of_box (bx_later HB.out B_p.out) 0 rfl
      have p1 := cell_of_box (bx_later HB.out B_p.out) 1 rfl
      have p2 := cell_of_box (bx_later HB.out B_p.out) 2 rfl
      have p3 := cell_of_box (bx_later HB.out B_p.out) 3 rfl
      have p4 := cell_of_box (bx_later HB.out B_p.out) 4 rfl
      have p5 := cell_of_box (bx_later HB.out B_p.out) 5 rfl
      have p6 := cell_of_box (bx_later HB.out B_p.out) 6 rfl
      have p7 := cell_of_box (bx_later HB.out B_p.out) 7 rfl
      have p8 := cell_of_box (bx_later HB.out B_p.out) 8 rfl
      have p9 := cell_of_box (bx_later HB.out B_p.out) 9 rfl
      have p10 := cell_of_box (bx_later HB.out B_p.out) 10 rfl
      go_wp2_with fail
      refine wp_region_flow (by kernel_rfl) 19 [(0, ⟨fun v => v = .bool true, fun _ _ _ _ => True⟩), (8, ⟨fun v => ∃ a k, v = .agg #[.int .i64 kd, .int .i64 ck, .int .i64 cn, .string cs, .slice a m.length k], fun v _ _ w' => ∃ a k, v = .agg #[.int .i64 kd, .int .i64 ck, .int .i64 cn, .string cs, .slice a m.length k] ∧ PRd w' (.slice a m.length k) m⟩), (15, ⟨fun v => ∃ a k, v = .agg #[.int .i64 kd, .int .i64 ck, .int .i64 cn, .string cs, .slice a m.length k], fun v _ _ w' => ∃ a k, v = .agg #[.int .i64 kd, .int .i64 ck, .int .i64 cn, .string cs, .slice a m.length k] ∧ PRd w' (.slice a m.length k) m⟩), (16, ⟨fun v => v = .bool true, fun _ _ _ _ => True⟩)] (by kernel_rfl) ?_ ?_ ?_
      · intro x hx
        simp only [List.mem_cons, List.not_mem_nil, or_false] at hx
        rcases hx with rfl | rfl | rfl | rfl
        · exact ⟨_, rfl⟩
        · exact ⟨_, none, 0, rfl⟩
        · exact ⟨_, none, 0, rfl⟩
        · exact ⟨_, rfl⟩
      · intro x hx v lo hi w w' h hb
        simp only [List.mem_cons, List.not_mem_nil, or_false] at hx
        rcases hx with rfl | rfl | rfl | rfl
        · exact trivial
        · obtain ⟨a, k, rfl, ho⟩ := h
          exact ⟨a, k, rfl, ho.later hb⟩
        · obtain ⟨a, k, rfl, ho⟩ := h
          exact ⟨a, k, rfl, ho.later hb⟩
        · exact trivial
      · intro lo hi
        have kc0 := cell_regrown c0
        have kc1 := cell_regrown c1
        have kc2 := cell_regrown c2
        have kc3 := cell_regrown c3
        have kc4 := cell_regrown c4
        have kp0 := cell_regrown p0
        have kp1 := cell_regrown p1
        have kp2 := cell_regrown p2
        have kp3 := cell_regrown p3
        have kp4 := cell_regrown p4
        have kp5 := cell_regrown p5
        have kp6 := cell_regrown p6
        have kp7 := cell_regrown p7
        have kp8 := cell_regrown p8
        have kp9 := cell_regrown p9
        have kp10 := cell_regrown p10
        refine flowW_call rfl rfl ?_ ?_
        · intro W hW hF K hK
          clear kc0 kc1 kc2 kc3 kc4 kp0 kp1 kp2 kp3 kp4 kp5 kp6 kp7 kp8 kp9 kp10
          go_wp2_with fail
          refine (alive_any _).mono ?_
          rintro e wq ⟨rfl, hbq⟩
          go_wp2_with fail
          exact hK _ _ rfl trivial hbq
        rintro v rfl K hK
        go_simp
        refine hK _ ?_
        clear hK K
        refine flowW_plain rfl ?_
        go_big_quiet_step (fail)
        refine wpQuiet_nil ?_
        refine flowW_plain rfl ?_
        go_big_quiet_step (fail)
        refine wpQuiet_nil ?_
        refine flowW_plain rfl ?_
        go_big_quiet_step (fail)
        refine wpQuiet_nil ?_
        refine flowW_plain rfl ?_
        go_big_quiet_step (fail)
        refine wpQuiet_nil ?_
        refine flowW_plain rfl ?_
        go_big_quiet_step (fail)
        refine wpQuiet_nil ?_
        refine flowW_plain rfl ?_
        go_big_quiet_step (fail)
        refine wpQuiet_nil ?_
        refine flowW_plain rfl ?_
        go_big_quiet_step (fail)
        refine wpQuiet_nil ?_
        refine flowW_call rfl rfl ?_ ?_
        · intro W hW hF K hK
          clear kc0 kc1 kc2 kc3 kc4 kp0 kp1 kp2 kp3 kp4 kp5 kp6 kp7 kp8 kp9 kp10
          go_wp2_with fail
          refine (write_p (HP.out.later (below_then HB.out hW)) (HK.out.later (below_then HB.out hW)) (by omega) HM.out).mono ?_
          rintro e wq ⟨a, k, rfl, ho, hbq⟩
          go_wp2_with fail
          exact hK _ _ ⟨a, k, rfl⟩ ⟨a, k, rfl, ho⟩ hbq
        rintro v ⟨a8, k8, rfl⟩ K hK
        go_simp
        refine hK _ ?_
        clear hK K
        refine flowW_plain rfl ?_
        go_big_quiet_step (fail)
        refine wpQuiet_nil ?_
        refine flowW_plain rfl ?_
        go_big_quiet_step (fail)
        refine wpQuiet_nil ?_
        refine flowW_plain rfl ?_
        go_big_quiet_step (fail)
        refine wpQuiet_nil ?_
        refine flowW_plain rfl ?_
        go_big_quiet_step (fail)
        refine wpQuiet_nil ?_
        refine flowW_plain rfl ?_
        go_big_quiet_step (fail)
        refine wpQuiet_nil ?_
        refine flowW_plain rfl ?_
        go_big_quiet_step (fail)
        refine wpQuiet_nil ?_
        refine flowW_call rfl rfl ?_ ?_
        · intro W hW hF K hK
          clear kc0 kc1 kc2 kc3 kc4 kp0 kp1 kp2 kp3 kp4 kp5 kp6 kp7 kp8 kp9 kp10
          go_wp2_with fail
          refine (refWrite_p (HP.out.later (below_then HB.out hW)) (HK.out.later (below_then HB.out hW)) (by omega) HM.out).mono ?_
          rintro e wq ⟨a, k, rfl, ho, hbq⟩
          go_wp2_with fail
          exact hK _ _ ⟨a, k, rfl⟩ ⟨a, k, rfl, ho⟩ hbq
        rintro v ⟨a15, k15, rfl⟩ K hK
        go_simp
        refine hK _ ?_
        clear hK K
        refine flowW_call rfl rfl ?_ ?_
        · intro W hW hF K hK
          clear kc0 kc1 kc2 kc3 kc4 kp0 kp1 kp2 kp3 kp4 kp5 kp6 kp7 kp8 kp9 kp10
          obtain ⟨_, _, he8, h8⟩ := hF 8 rfl
          cases he8
          obtain ⟨_, _, he15, h15⟩ := hF 15 rfl
          cases he15
          go_wp2_with fail
          refine (same_p m h8 h15 (by have := HML.out; omega)).mono ?_
          rintro e wq ⟨rfl, hbq⟩
          go_wp2_with fail
          exact hK _ _ rfl trivial hbq
        rintro v rfl K hK
        go_simp
        refine hK _ ?_
        clear hK K
        refine flowW_plain rfl ?_
        go_big_quiet_step (fail)
        refine wpQuiet_nil ?_
        refine flowW_plain rfl ?_
        go_big_quiet_step (fail)
        refine wpQuiet_nil ?_
        refine flowW_end fun w2 hw2 hF hD => ?_
        clear kc0 kc1 kc2 kc3 kc4 kp0 kp1 kp2 kp3 kp4 kp5 kp6 kp7 kp8 kp9 kp10
        simp only [List.drop_succ_cons, List.drop_zero]
        replace HB := Lib.hid (below_then HB.out hw2)
        clear hw2 hF c0 c1 c2 c3 c4 p0 p1 p2 p3 p4 p5 p6 p7 p8 p9 p10
        go_wp2_with fail
        go_ret
        exact ⟨by first | rfl | exact ret_bool (by simp), below_then HB1.out HB.out⟩

set_option maxRecDepth 100000 in
theorem lifted (os : Os) (started : os.Started) (H : Type) (enc : TypeId × Value → H) :
    ReturnsInHanded {} Try.checked os 4 .any (Rows.multiWritesSpec.pre6 enc Try.prog Try.f4 Rows.multiWritesRow.domain false) (Rows.multiWritesSpec.post enc Try.prog Try.f4 false true false false) := by
  refine returnsInHanded_of_change_sized (C := Try.checked) ownKnob_none started (by kernel_rfl) Try.func4
    (ChangeSpec.witness6 (enc := enc) (C := Try.checked) false ⟨#[], #[.agg #[.int .i64 0, .int .i64 0, .int .i64 0, .string ⟨#[]⟩, .slice none 0 0], .agg #[.int .i64 0, .int .i64 0, .string ⟨#[]⟩, .int .i64 0, .int .i64 0, .int .i64 0, .int .i64 0, .int .i64 0, .int .i64 0, .int .i64 0, .bool false], .slice none 0 0], []⟩ 8 (by kernel_rfl) (by kernel_rfl) (by kernel_rfl) (by kernel_rfl)) ?_
  intro W base args ds gs before hval0 hW hcnd hsz0 _
  have hval : ∀ (j : Nat) t v, Try.f4.params[j]? = some t → args[j]? = some v → Value.okWide Try.prog W .any base t v := hval0
  have hW' := hW
  obtain ⟨p, q, hA0, hV, rfl, hfz, hnd⟩ := hW
  have hA : DataW.TrodAll enc Try.prog W 0 (fun _ => true) true Try.f4.params.toList args.toList ds p := hA0
  have hsz : (DataW.weightsEach Try.prog (Try.f4.params.toList ++ Rows.multiWritesSpec.plain.varTypes Try.prog) (ds ++ gs)).all (· ≤ reachBytes) = true := hsz0
  rw [Try.params4] at hA hval hsz
  obtain ⟨v0, vs0, d0, ds0, p0, q0, hargs, rfl, rfl, h0, r0r⟩ := trodAll_cons hA
  obtain ⟨v1, vs1, d1, ds1, p1, q1, rfl, rfl, rfl, h1, r1r⟩ := trodAll_cons r0r
  obtain ⟨v2, vs2, d2, ds2, p2, q2, rfl, rfl, rfl, h2, r2r⟩ := trodAll_cons r1r
  obtain ⟨rfl, rfl, rfl⟩ := trodAll_nil r2r
  obtain rfl : args = #[v0, v1, v2] := by cases args; simp_all
  obtain ⟨rfl, rfl⟩ := trodVars_none hV
  have g0 := sized_at hsz (j := 0) rfl rfl
  have g1 := sized_at hsz (j := 1) rfl rfl
  have g2 := sized_at hsz (j := 2) rfl rfl
  obtain ⟨y0_0, y0_1, y0_2, y0_3, rfl, f0_0⟩ := open_cell (hval 0 26 v0 rfl rfl) h0
  obtain ⟨y1_0, rfl⟩ := open_part (hval 1 32 v1 rfl rfl) h1
  obtain ⟨y2_0, f2_0⟩ := open_vec (hval 2 34 v2 rfl rfl) h2
  refine (walk y0_0 y0_1 y0_2 y0_3 y1_0 v2 y2_0 W f0_0 f2_0).mono fun e W' ⟨he, hg⟩ => ⟨_, he, law_post laidOut (by kernel_rfl) rfl Try.underlying4 rfl rfl hW' hg⟩

theorem over : Rows.multiWritesRow.holds Try.pinned (OpenSpec.ofChange Rows.multiWritesSpec) :=
  OpenClaim.holds_of_wide 4 Try.f4 rfl rfl rfl rfl rfl rfl rfl ⟨rfl, rfl, rfl, rfl, rfl⟩ rfl rfl rfl rfl rfl (by kernel_rfl) Try.func4 (by kernel_rfl)
    (of_decide_eq_true (by kernel_rfl)) (by unfold Func.isWrapper; first | (rw [if_pos (by decide +kernel)]; kernel_rfl) | (rw [if_neg (by decide +kernel)]; exact ⟨rfl, rfl⟩))
    (fun os started H enc _ => lifted os started H enc)

/-- THE STATEMENT. -/
theorem proved : Rows.MultiWritesSaid :=
  over
#print axioms proved
end Go.Proofs.Ytagbaejgjhmokaa.multiWrites
