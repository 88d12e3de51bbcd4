/-
  The law BagJoins.
-/
import Derived.Test.YtnpciogpegmejaaGOp
import Derived.Test.YtnpciogpegmejaaGX
namespace Go.Proofs.Ytnpciogpegmejaa.bagJoins
open Go.ChangeShapes Go.WideShapes Go.ChangeAt Go.RowKit Go.Sort Go.BigFrame Go.Proofs.Ytnpciogpegmejaa
open Go.ChangeMaps (open_string shut_string)
attribute [local irreducible] FlowW

set_option maxRecDepth 100000 in
set_option maxHeartbeats 16000000 in
theorem walk (kd1 : Int) (cv1 : Val) (va1 : Value) (l1 : List Prt) (kd2 : Int) (cv2 : Val) (va2 : Value) (l2 : List Prt) (vz0 vz1 : Value) (z0 z1 : List Int) (w : World) (ha1 : PRd w va1 l1) (ha2 : PRd w va2 l2) (hz0 : Rd w vz0 z0.length (z0.map ic)) (hz1 : Rd w vz1 z1.length (z1.map ic)) :
    Calls Try.prog 3 #[.agg #[.int .i64 kd1, .int .i64 cv1.k, .int .i64 cv1.n, .string cv1.s, va1], .agg #[.int .i64 kd2, .int .i64 cv2.k, .int .i64 cv2.n, .string cv2.s, va2], .agg #[vz0, vz1]] w fun e w' => e = .returned (.bool true) ∧ Below w.heap.size w w' := by
  obtain ⟨ck1, cn1, cs1⟩ := cv1
  obtain ⟨ao1, ca1, rfl, -, hcm1, -, -⟩ := id ha1
  unfold maxLen at hcm1
  obtain ⟨ck2, cn2, cs2⟩ := cv2
  obtain ⟨ao2, ca2, rfl, -, hcm2, -, -⟩ := id ha2
  unfold maxLen at hcm2
  obtain ⟨zo0, zc0, rfl, -, hzm0, -, -⟩ := id hz0
  unfold maxLen at hzm0
  obtain ⟨zo1, zc1, rfl, -, hzm1, -, -⟩ := id hz1
  unfold maxLen at hzm1
  obtain ⟨w1, hw1⟩ : ∃ w1, ((w.alloc (.cells #[(.int .i64 kd1), (.int .i64 ck1), (.int .i64 cn1), (.string cs1), (.slice ao1 l1.length ca1)] 26)).alloc (.cells #[(.int .i64 kd2), (.int .i64 ck2), (.int .i64 cn2), (.string cs2), (.slice ao2 l2.length ca2)] 26)).alloc (.cells #[(.slice zo0 z0.length zc0), (.slice zo1 z1.length zc1)] 29) = w1 := ⟨_, rfl⟩
  have hb1 : Below w.heap.size w w1 := by rw [← hw1]; exact below_alloc_then (below_alloc_then (below_alloc _ _))
  have b_a : Bx w1 (w.heap.size) #[(.int .i64 kd1), (.int .i64 ck1), (.int .i64 cn1), (.string cs1), (.slice ao1 l1.length ca1)] 26 := by rw [← hw1]; exact bx_later (below_alloc_then (below_alloc _ _)) (bx_new (by simp))
  have b_b : Bx w1 (w.heap.size + 1) #[(.int .i64 kd2), (.int .i64 ck2), (.int .i64 cn2), (.string cs2), (.slice ao2 l2.length ca2)] 26 := by rw [← hw1]; exact bx_later (below_alloc _ _) (bx_new (by simp))
  have b_y : Bx w1 (w.heap.size + 2) #[(.slice zo0 z0.length zc0), (.slice zo1 z1.length zc1)] 29 := by rw [← hw1]; exact bx_new (by simp)
  have HW := Lib.hid hw1
  have HB1 := Lib.hid hb1
  have HB := Lib.hid (Below.refl w1.heap.size w1)
  have B_a := Lib.hid b_a
  have B_b := Lib.hid b_b
  have B_y := Lib.hid b_y
  have a0 := cell_of_box (bx_later HB.out B_a.out) 0 rfl
  have a1 := cell_of_box (bx_later HB.out B_a.out) 1 rfl
  have a2 := cell_of_box (bx_later HB.out B_a.out) 2 rfl
  have a3 := cell_of_box (bx_later HB.out B_a.out) 3 rfl
  have a4 := cell_of_box (bx_later HB.out B_a.out) 4 rfl
  have b0 := cell_of_box (bx_later HB.out B_b.out) 0 rfl
  have b1 := cell_of_box (bx_later HB.out B_b.out) 1 rfl
  have b2 := cell_of_box (bx_later HB.out B_b.out) 2 rfl
  have b3 := cell_of_box (bx_later HB.out B_b.out) 3 rfl
  have b4 := cell_of_box (bx_later HB.out B_b.out) 4 rfl
  have y0 := cell_of_box (bx_later HB.out B_y.out) 0 rfl
  have y1 := cell_of_box (bx_later HB.out B_y.out) 1 rfl
  clear hw1 hb1 b_a b_b b_y
  have P1 := Lib.hid (ha1.later HB1.out)
  have P2 := Lib.hid (ha2.later HB1.out)
  have Z0 := Lib.hid (hz0.later HB1.out)
  have Z1 := Lib.hid (hz1.later HB1.out)
  clear ha1 ha2 hz0 hz1
  obtain ⟨m, hm⟩ : ∃ m, joinQ l1 l2 z0 z1 = m := ⟨_, rfl⟩
  have hml : m.length ≤ l1.length + l2.length := by rw [← hm]; exact joinQ_len _ _ _ _
  have HM := Lib.hid hm
  clear hm
  cases hf0 : decide ((l1.length : Int) ≤ 60)
  all_goals
    have F0 := Lib.hid hf0
  · clear hf0
    go_enter Try.func3, Try.ntmps3
    go_wp2_with fail
    rw [HW.out]
    go_wp2_with fail
    refine (few_b false F0.out (P1.out.later HB.out)).mono ?_
    rintro e wn ⟨rfl, hb⟩
    replace HB := Lib.hid (below_then HB.out (by first | exact hb | exact below_alloc_then hb | exact below_alloc_then (below_alloc_then hb)))
    clear hb a0 a1 a2 a3 a4 b0 b1 b2 b3 b4 y0 y1
    have a0 := cell_of_box (bx_later HB.out B_a.out) 0 rfl
    have a1 := cell_of_box (bx_later HB.out B_a.out) 1 rfl
    have a2 := cell_of_box (bx_later HB.out B_a.out) 2 rfl
    have a3 := cell_of_box (bx_later HB.out B_a.out) 3 rfl
    have a4 := cell_of_box (bx_later HB.out B_a.out) 4 rfl
    have b0 := cell_of_box (bx_later HB.out B_b.out) 0 rfl
    have b1 := cell_of_box (bx_later HB.out B_b.out) 1 rfl
    have b2 := cell_of_box (bx_later HB.out B_b.out) 2 rfl
    have b3 := cell_of_box (bx_later HB.out B_b.out) 3 rfl
    have b4 := cell_of_box (bx_later HB.out B_b.out) 4 rfl
    have y0 := cell_of_box (bx_later HB.out B_y.out) 0 rfl
    have y1 := cell_of_box (bx_later HB.out B_y.out) 1 rfl
    go_wp2_with fail
    refine (alive_any _).mono ?_
    rintro e wn ⟨rfl, hb⟩
    replace HB := Lib.hid (below_then HB.out (by first | exact hb | exact below_alloc_then hb | exact below_alloc_then (below_alloc_then hb)))
    clear hb a0 a1 a2 a3 a4 b0 b1 b2 b3 b4 y0 y1
    have a0 := cell_of_box (bx_later HB.out B_a.out) 0 rfl
    have a1 := cell_of_box (bx_later HB.out B_a.out) 1 rfl
    have a2 := cell_of_box (bx_later HB.out B_a.out) 2 rfl
    have a3 := cell_of_box (bx_later HB.out B_a.out) 3 rfl
    have a4 := cell_of_box (bx_later HB.out B_a.out) 4 rfl
    have b0 := cell_of_box (bx_later HB.out B_b.out) 0 rfl
    have b1 := cell_of_box (bx_later HB.out B_b.out) 1 rfl
    have b2 := cell_of_box (bx_later HB.out B_b.out) 2 rfl
    have b3 := cell_of_box (bx_later HB.out B_b.out) 3 rfl
    have b4 := cell_of_box (bx_later HB.out B_b.out) 4 rfl
    have y0 := cell_of_box (bx_later HB.out B_y.out) 0 rfl
    have y1 := cell_of_box (bx_later HB.out B_y.out) 1 rfl
    go_wp2_with fail
    go_ret
    exact ⟨by first | rfl | exact ret_bool (by simp), below_then HB1.out HB.out⟩
  · have hl0 : l1.length ≤ 60 := by have := of_decide_eq_true hf0; omega
    clear hf0
    cases hf1 : decide ((l2.length : Int) ≤ 60)
    all_goals
      have F1 := Lib.hid hf1
    · clear hf1
      go_enter Try.func3, Try.ntmps3
      go_wp2_with fail
      rw [HW.out]
      go_wp2_with fail
      refine (few_b true F0.out (P1.out.later HB.out)).mono ?_
      rintro e wn ⟨rfl, hb⟩
      replace HB := Lib.hid (below_then HB.out (by first | exact hb | exact below_alloc_then hb | exact below_alloc_then (below_alloc_then hb)))
      clear hb a0 a1 a2 a3 a4 b0 b1 b2 b3 b4 y0 y1
      have a0 := cell_of_box (bx_later HB.out B_a.out) 0 rfl
      have a1 := cell_of_box (bx_later HB.out B_a.out) 1 rfl
      have a2 := cell_of_box (bx_later HB.out B_a.out) 2 rfl
      have a3 := cell_of_box (bx_later HB.out B_a.out) 3 rfl
      have a4 := cell_of_box (bx_later HB.out B_a.out) 4 rfl
      have b0 := cell_of_box (bx_later HB.out B_b.out) 0 rfl
      have b1 := cell_of_box (bx_later HB.out B_b.out) 1 rfl
      have b2 := cell_of_box (bx_later HB.out B_b.out) 2 rfl
      have b3 := cell_of_box (bx_later HB.out B_b.out) 3 rfl
      have b4 := cell_of_box (bx_later HB.out B_b.out) 4 rfl
      have y0 := cell_of_box (bx_later HB.out B_y.out) 0 rfl
      have y1 := cell_of_box (bx_later HB.out B_y.out) 1 rfl
      go_wp2_with fail
      refine (few_b false F1.out (P2.out.later HB.out)).mono ?_
      rintro e wn ⟨rfl, hb⟩
      replace HB := Lib.hid (below_then HB.out (by first | exact hb | exact below_alloc_then hb | exact below_alloc_then (below_alloc_then hb)))
      clear hb a0 a1 a2 a3 a4 b0 b1 b2 b3 b4 y0 y1
      have a0 := cell_of_box (bx_later HB.out B_a.out) 0 rfl
      have a1 := cell_of_box (bx_later HB.out B_a.out) 1 rfl
      have a2 := cell_of_box (bx_later HB.out B_a.out) 2 rfl
      have a3 := cell_of_box (bx_later HB.out B_a.out) 3 rfl
      have a4 := cell_of_box (bx_later HB.out B_a.out) 4 rfl
      have b0 := cell_of_box (bx_later HB.out B_b.out) 0 rfl
      have b1 := cell_of_box (bx_later HB.out B_b.out) 1 rfl
      have b2 := cell_of_box (bx_later HB.out B_b.out) 2 rfl
      have b3 := cell_of_box (bx_later HB.out B_b.out) 3 rfl
      have b4 := cell_of_box (bx_later HB.out B_b.out) 4 rfl
      have y0 := cell_of_box (bx_later HB.out B_y.out) 0 rfl
      have y1 := cell_of_box (bx_later HB.out B_y.out) 1 rfl
      go_wp2_with fail
      refine (alive_any _).mono ?_
      rintro e wn ⟨rfl, hb⟩
      replace HB := Lib.hid (below_then HB.out (by first | exact hb | exact below_alloc_then hb | exact below_alloc_then (below_alloc_then hb)))
      clear hb a0 a1 a2 a3 a4 b0 b1 b2 b3 b4 y0 y1
      have a0 := cell_of_box (bx_later HB.out B_a.out) 0 rfl
      have a1 := cell_of_box (bx_later HB.out B_a.out) 1 rfl
      have a2 := cell_of_box (bx_later HB.out B_a.out) 2 rfl
      have a3 := cell_of_box (bx_later HB.out B_a.out) 3 rfl
      have a4 := cell_of_box (bx_later HB.out B_a.out) 4 rfl
      have b0 := cell_of_box (bx_later HB.out B_b.out) 0 rfl
      have b1 := cell_of_box (bx_later HB.out B_b.out) 1 rfl
      have b2 := cell_of_box (bx_later HB.out B_b.out) 2 rfl
      have b3 := cell_of_box (bx_later HB.out B_b.out) 3 rfl
      have b4 := cell_of_box (bx_later HB.out B_b.out) 4 rfl
      have y0 := cell_of_box (bx_later HB.out B_y.out) 0 rfl
      have y1 := cell_of_box (bx_later HB.out B_y.out) 1 rfl
      go_wp2_with fail
      go_ret
      exact ⟨by first | rfl | exact ret_bool (by simp), below_then HB1.out HB.out⟩
    · have hl1 : l2.length ≤ 60 := by have := of_decide_eq_true hf1; omega
      clear hf1
      by_cases hlen2 : 100 < z0.length
      · have g1z0 : decide (100 < (z0.length : Int)) = true := decide_eq_true (by omega)
        have g2z0 : decide (100 < z0.length) = true := decide_eq_true (by omega)
        go_enter Try.func3, Try.ntmps3
        go_wp2_with fail
        rw [HW.out]
        go_wp2_with fail
        refine (few_b true F0.out (P1.out.later HB.out)).mono ?_
        rintro e wn ⟨rfl, hb⟩
        replace HB := Lib.hid (below_then HB.out (by first | exact hb | exact below_alloc_then hb | exact below_alloc_then (below_alloc_then hb)))
        clear hb a0 a1 a2 a3 a4 b0 b1 b2 b3 b4 y0 y1
        have a0 := cell_of_box (bx_later HB.out B_a.out) 0 rfl
        have a1 := cell_of_box (bx_later HB.out B_a.out) 1 rfl
        have a2 := cell_of_box (bx_later HB.out B_a.out) 2 rfl
        have a3 := cell_of_box (bx_later HB.out B_a.out) 3 rfl
        have a4 := cell_of_box (bx_later HB.out B_a.out) 4 rfl
        have b0 := cell_of_box (bx_later HB.out B_b.out) 0 rfl
        have b1 := cell_of_box (bx_later HB.out B_b.out) 1 rfl
        have b2 := cell_of_box (bx_later HB.out B_b.out) 2 rfl
        have b3 := cell_of_box (bx_later HB.out B_b.out) 3 rfl
        have b4 := cell_of_box (bx_later HB.out B_b.out) 4 rfl
        have y0 := cell_of_box (bx_later HB.out B_y.out) 0 rfl
        have y1 := cell_of_box (bx_later HB.out B_y.out) 1 rfl
        go_wp2_with fail
        refine (few_b true F1.out (P2.out.later HB.out)).mono ?_
        rintro e wn ⟨rfl, hb⟩
        replace HB := Lib.hid (below_then HB.out (by first | exact hb | exact below_alloc_then hb | exact below_alloc_then (below_alloc_then hb)))
        clear hb a0 a1 a2 a3 a4 b0 b1 b2 b3 b4 y0 y1
        have a0 := cell_of_box (bx_later HB.out B_a.out) 0 rfl
        have a1 := cell_of_box (bx_later HB.out B_a.out) 1 rfl
        have a2 := cell_of_box (bx_later HB.out B_a.out) 2 rfl
        have a3 := cell_of_box (bx_later HB.out B_a.out) 3 rfl
        have a4 := cell_of_box (bx_later HB.out B_a.out) 4 rfl
        have b0 := cell_of_box (bx_later HB.out B_b.out) 0 rfl
        have b1 := cell_of_box (bx_later HB.out B_b.out) 1 rfl
        have b2 := cell_of_box (bx_later HB.out B_b.out) 2 rfl
        have b3 := cell_of_box (bx_later HB.out B_b.out) 3 rfl
        have b4 := cell_of_box (bx_later HB.out B_b.out) 4 rfl
        have y0 := cell_of_box (bx_later HB.out B_y.out) 0 rfl
        have y1 := cell_of_box (bx_later HB.out B_y.out) 1 rfl
        go_wp2_with fail
        refine (alive_any _).mono ?_
        rintro e wn ⟨rfl, hb⟩
        replace HB := Lib.hid (below_then HB.out (by first | exact hb | exact below_alloc_then hb | exact below_alloc_then (below_alloc_then hb)))
        clear hb a0 a1 a2 a3 a4 b0 b1 b2 b3 b4 y0 y1
        have a0 := cell_of_box (bx_later HB.out B_a.out) 0 rfl
        have a1 := cell_of_box (bx_later HB.out B_a.out) 1 rfl
        have a2 := cell_of_box (bx_later HB.out B_a.out) 2 rfl
        have a3 := cell_of_box (bx_later HB.out B_a.out) 3 rfl
        have a4 := cell_of_box (bx_later HB.out B_a.out) 4 rfl
        have b0 := cell_of_box (bx_later HB.out B_b.out) 0 rfl
        have b1 := cell_of_box (bx_later HB.out B_b.out) 1 rfl
        have b2 := cell_of_box (bx_later HB.out B_b.out) 2 rfl
        have b3 := cell_of_box (bx_later HB.out B_b.out) 3 rfl
        have b4 := cell_of_box (bx_later HB.out B_b.out) 4 rfl
        have y0 := cell_of_box (bx_later HB.out B_y.out) 0 rfl
        have y1 := cell_of_box (bx_later HB.out B_y.out) 1 rfl
        go_wp2_with fail
        go_ret
        exact ⟨by first | rfl | exact ret_bool (by simp), below_then HB1.out HB.out⟩
      · have g1z0 : decide (100 < (z0.length : Int)) = false := decide_eq_false (by omega)
        have g2z0 : decide (100 < z0.length) = false := decide_eq_false (by omega)
        by_cases hlen3 : 100 < z1.length
        · have g1z1 : decide (100 < (z1.length : Int)) = true := decide_eq_true (by omega)
          have g2z1 : decide (100 < z1.length) = true := decide_eq_true (by omega)
          go_enter Try.func3, Try.ntmps3
          go_wp2_with fail
          rw [HW.out]
          go_wp2_with fail
          refine (few_b true F0.out (P1.out.later HB.out)).mono ?_
          rintro e wn ⟨rfl, hb⟩
          replace HB := Lib.hid (below_then HB.out (by first | exact hb | exact below_alloc_then hb | exact below_alloc_then (below_alloc_then hb)))
          clear hb a0 a1 a2 a3 a4 b0 b1 b2 b3 b4 y0 y1
          have a0 := cell_of_box (bx_later HB.out B_a.out) 0 rfl
          have a1 := cell_of_box (bx_later HB.out B_a.out) 1 rfl
          have a2 := cell_of_box (bx_later HB.out B_a.out) 2 rfl
          have a3 := cell_of_box (bx_later HB.out B_a.out) 3 rfl
          have a4 := cell_of_box (bx_later HB.out B_a.out) 4 rfl
          have b0 := cell_of_box (bx_later HB.out B_b.out) 0 rfl
          have b1 := cell_of_box (bx_later HB.out B_b.out) 1 rfl
          have b2 := cell_of_box (bx_later HB.out B_b.out) 2 rfl
          have b3 := cell_of_box (bx_later HB.out B_b.out) 3 rfl
          have b4 := cell_of_box (bx_later HB.out B_b.out) 4 rfl
          have y0 := cell_of_box (bx_later HB.out B_y.out) 0 rfl
          have y1 := cell_of_box (bx_later HB.out B_y.out) 1 rfl
          go_wp2_with fail
          refine (few_b true F1.out (P2.out.later HB.out)).mono ?_
          rintro e wn ⟨rfl, hb⟩
          replace HB := Lib.hid (below_then HB.out (by first | exact hb | exact below_alloc_then hb | exact below_alloc_then (below_alloc_then hb)))
          clear hb a0 a1 a2 a3 a4 b0 b1 b2 b3 b4 y0 y1
          have a0 := cell_of_box (bx_later HB.out B_a.out) 0 rfl
          have a1 := cell_of_box (bx_later HB.out B_a.out) 1 rfl
          have a2 := cell_of_box (bx_later HB.out B_a.out) 2 rfl
          have a3 := cell_of_box (bx_later HB.out B_a.out) 3 rfl
          have a4 := cell_of_box (bx_later HB.out B_a.out) 4 rfl
          have b0 := cell_of_box (bx_later HB.out B_b.out) 0 rfl
          have b1 := cell_of_box (bx_later HB.out B_b.out) 1 rfl
          have b2 := cell_of_box (bx_later HB.out B_b.out) 2 rfl
          have b3 := cell_of_box (bx_later HB.out B_b.out) 3 rfl
          have b4 := cell_of_box (bx_later HB.out B_b.out) 4 rfl
          have y0 := cell_of_box (bx_later HB.out B_y.out) 0 rfl
          have y1 := cell_of_box (bx_later HB.out B_y.out) 1 rfl
          go_wp2_with fail
          refine (alive_any _).mono ?_
          rintro e wn ⟨rfl, hb⟩
          replace HB := Lib.hid (below_then HB.out (by first | exact hb | exact below_alloc_then hb | exact below_alloc_then (below_alloc_then hb)))
          clear hb a0 a1 a2 a3 a4 b0 b1 b2 b3 b4 y0 y1
          have a0 := cell_of_box (bx_later HB.out B_a.out) 0 rfl
          have a1 := cell_of_box (bx_later HB.out B_a.out) 1 rfl
          have a2 := cell_of_box (bx_later HB.out B_a.out) 2 rfl
          have a3 := cell_of_box (bx_later HB.out B_a.out) 3 rfl
          have a4 := cell_of_box (bx_later HB.out B_a.out) 4 rfl
          have b0 := cell_of_box (bx_later HB.out B_b.out) 0 rfl
          have b1 := cell_of_box (bx_later HB.out B_b.out) 1 rfl
          have b2 := cell_of_box (bx_later HB.out B_b.out) 2 rfl
          have b3 := cell_of_box (bx_later HB.out B_b.out) 3 rfl
          have b4 := cell_of_box (bx_later HB.out B_b.out) 4 rfl
          have y0 := cell_of_box (bx_later HB.out B_y.out) 0 rfl
          have y1 := cell_of_box (bx_later HB.out B_y.out) 1 rfl
          go_wp2_with fail
          go_ret
          exact ⟨by first | rfl | exact ret_bool (by simp), below_then HB1.out HB.out⟩
        · have g1z1 : decide (100 < (z1.length : Int)) = false := decide_eq_false (by omega)
          have g2z1 : decide (100 < z1.length) = false := decide_eq_false (by omega)
          cases hr4 : rcQ kd1 ⟨ck1, cn1, cs1⟩ l1
          all_goals
            have F4 := Lib.hid hr4
            clear hr4
          · go_enter Try.func3, Try.ntmps3
            go_wp2_with fail
            rw [HW.out]
            go_wp2_with fail
            refine (few_b true F0.out (P1.out.later HB.out)).mono ?_
            rintro e wn ⟨rfl, hb⟩
            replace HB := Lib.hid (below_then HB.out (by first | exact hb | exact below_alloc_then hb | exact below_alloc_then (below_alloc_then hb)))
            clear hb a0 a1 a2 a3 a4 b0 b1 b2 b3 b4 y0 y1
            have a0 := cell_of_box (bx_later HB.out B_a.out) 0 rfl
            have a1 := cell_of_box (bx_later HB.out B_a.out) 1 rfl
            have a2 := cell_of_box (bx_later HB.out B_a.out) 2 rfl
            have a3 := cell_of_box (bx_later HB.out B_a.out) 3 rfl
            have a4 := cell_of_box (bx_later HB.out B_a.out) 4 rfl
            have b0 := cell_of_box (bx_later HB.out B_b.out) 0 rfl
            have b1 := cell_of_box (bx_later HB.out B_b.out) 1 rfl
            have b2 := cell_of_box (bx_later HB.out B_b.out) 2 rfl
            have b3 := cell_of_box (bx_later HB.out B_b.out) 3 rfl
            have b4 := cell_of_box (bx_later HB.out B_b.out) 4 rfl
            have y0 := cell_of_box (bx_later HB.out B_y.out) 0 rfl
            have y1 := cell_of_box (bx_later HB.out B_y.out) 1 rfl
            go_wp2_with fail
            refine (few_b true F1.out (P2.out.later HB.out)).mono ?_
            rintro e wn ⟨rfl, hb⟩
            replace HB := Lib.hid (below_then HB.out (by first | exact hb | exact below_alloc_then hb | exact below_alloc_then (below_alloc_then hb)))
            clear hb a0 a1 a2 a3 a4 b0 b1 b2 b3 b4 y0 y1
            have a0 := cell_of_box (bx_later HB.out B_a.out) 0 rfl
            have a1 := cell_of_box (bx_later HB.out B_a.out) 1 rfl
            have a2 := cell_of_box (bx_later HB.out B_a.out) 2 rfl
            have a3 := cell_of_box (bx_later HB.out B_a.out) 3 rfl
            have a4 := cell_of_box (bx_later HB.out B_a.out) 4 rfl
            have b0 := cell_of_box (bx_later HB.out B_b.out) 0 rfl
            have b1 := cell_of_box (bx_later HB.out B_b.out) 1 rfl
            have b2 := cell_of_box (bx_later HB.out B_b.out) 2 rfl
            have b3 := cell_of_box (bx_later HB.out B_b.out) 3 rfl
            have b4 := cell_of_box (bx_later HB.out B_b.out) 4 rfl
            have y0 := cell_of_box (bx_later HB.out B_y.out) 0 rfl
            have y1 := cell_of_box (bx_later HB.out B_y.out) 1 rfl
            go_wp2_with fail
            refine (right_b false F4.out (P1.out.later HB.out) (by omega)).mono ?_
            rintro e wn ⟨rfl, hb⟩
            replace HB := Lib.hid (below_then HB.out (by first | exact hb | exact below_alloc_then hb | exact below_alloc_then (below_alloc_then hb)))
            clear hb a0 a1 a2 a3 a4 b0 b1 b2 b3 b4 y0 y1
            have a0 := cell_of_box (bx_later HB.out B_a.out) 0 rfl
            have a1 := cell_of_box (bx_later HB.out B_a.out) 1 rfl
            have a2 := cell_of_box (bx_later HB.out B_a.out) 2 rfl
            have a3 := cell_of_box (bx_later HB.out B_a.out) 3 rfl
            have a4 := cell_of_box (bx_later HB.out B_a.out) 4 rfl
            have b0 := cell_of_box (bx_later HB.out B_b.out) 0 rfl
            have b1 := cell_of_box (bx_later HB.out B_b.out) 1 rfl
            have b2 := cell_of_box (bx_later HB.out B_b.out) 2 rfl
            have b3 := cell_of_box (bx_later HB.out B_b.out) 3 rfl
            have b4 := cell_of_box (bx_later HB.out B_b.out) 4 rfl
            have y0 := cell_of_box (bx_later HB.out B_y.out) 0 rfl
            have y1 := cell_of_box (bx_later HB.out B_y.out) 1 rfl
            go_wp2_with fail
            refine (alive_any _).mono ?_
            rintro e wn ⟨rfl, hb⟩
            replace HB := Lib.hid (below_then HB.out (by first | exact hb | exact below_alloc_then hb | exact below_alloc_then (below_alloc_then hb)))
            clear hb a0 a1 a2 a3 a4 b0 b1 b2 b3 b4 y0 y1
            have a0 := cell_of_box (bx_later HB.out B_a.out) 0 rfl
            have a1 := cell_of_box (bx_later HB.out B_a.out) 1 rfl
            have a2 := cell_of_box (bx_later HB.out B_a.out) 2 rfl
            have a3 := cell_of_box (bx_later HB.out B_a.out) 3 rfl
            have a4 := cell_of_box (bx_later HB.out B_a.out) 4 rfl
            have b0 := cell_of_box (bx_later HB.out B_b.out) 0 rfl
            have b1 := cell_of_box (bx_later HB.out B_b.out) 1 rfl
            have b2 := cell_of_box (bx_later HB.out B_b.out) 2 rfl
            have b3 := cell_of_box (bx_later HB.out B_b.out) 3 rfl
            have b4 := cell_of_box (bx_later HB.out B_b.out) 4 rfl
            have y0 := cell_of_box (bx_later HB.out B_y.out) 0 rfl
            have y1 := cell_of_box (bx_later HB.out B_y.out) 1 rfl
            go_wp2_with fail
            go_ret
            exact ⟨by first | rfl | exact ret_bool (by simp), below_then HB1.out HB.out⟩
          · cases hr5 : rcQ kd2 ⟨ck2, cn2, cs2⟩ l2
            all_goals
              have F5 := Lib.hid hr5
              clear hr5
            · go_enter Try.func3, Try.ntmps3
              go_wp2_with fail
              rw [HW.out]
              go_wp2_with fail
              refine (few_b true F0.out (P1.out.later HB.out)).mono ?_
              rintro e wn ⟨rfl, hb⟩
              replace HB := Lib.hid (below_then HB.out (by first | exact hb | exact below_alloc_then hb | exact below_alloc_then (below_alloc_then hb)))
              clear hb a0 a1 a2 a3 a4 b0 b1 b2 b3 b4 y0 y1
              have a0 := cell_of_box (bx_later HB.out B_a.out) 0 rfl
              have a1 := cell_of_box (bx_later HB.out B_a.out) 1 rfl
              have a2 := cell_of_box (bx_later HB.out B_a.out) 2 rfl
              have a3 := cell_of_box (bx_later HB.out B_a.out) 3 rfl
              have a4 := cell_of_box (bx_later HB.out B_a.out) 4 rfl
              have b0 := cell_of_box (bx_later HB.out B_b.out) 0 rfl
              have b1 := cell_of_box (bx_later HB.out B_b.out) 1 rfl
              have b2 := cell_of_box (bx_later HB.out B_b.out) 2 rfl
              have b3 := cell_of_box (bx_later HB.out B_b.out) 3 rfl
              have b4 := cell_of_box (bx_later HB.out B_b.out) 4 rfl
              have y0 := cell_of_box (bx_later HB.out B_y.out) 0 rfl
              have y1 := cell_of_box (bx_later HB.out B_y.out) 1 rfl
              go_wp2_with fail
              refine (few_b true F1.out (P2.out.later HB.out)).mono ?_
              rintro e wn ⟨rfl, hb⟩
              replace HB := Lib.hid (below_then HB.out (by first | exact hb | exact below_alloc_then hb | exact below_alloc_then (below_alloc_then hb)))
              clear hb a0 a1 a2 a3 a4 b0 b1 b2 b3 b4 y0 y1
              have a0 := cell_of_box (bx_later HB.out B_a.out) 0 rfl
              have a1 := cell_of_box (bx_later HB.out B_a.out) 1 rfl
              have a2 := cell_of_box (bx_later HB.out B_a.out) 2 rfl
              have a3 := cell_of_box (bx_later HB.out B_a.out) 3 rfl
              have a4 := cell_of_box (bx_later HB.out B_a.out) 4 rfl
              have b0 := cell_of_box (bx_later HB.out B_b.out) 0 rfl
              have b1 := cell_of_box (bx_later HB.out B_b.out) 1 rfl
              have b2 := cell_of_box (bx_later HB.out B_b.out) 2 rfl
              have b3 := cell_of_box (bx_later HB.out B_b.out) 3 rfl
              have b4 := cell_of_box (bx_later HB.out B_b.out) 4 rfl
              have y0 := cell_of_box (bx_later HB.out B_y.out) 0 rfl
              have y1 := cell_of_box (bx_later HB.out B_y.out) 1 rfl
              go_wp2_with fail
              refine (right_b true F4.out (P1.out.later HB.out) (by omega)).mono ?_
              rintro e wn ⟨rfl, hb⟩
              replace HB := Lib.hid (below_then HB.out (by first | exact hb | exact below_alloc_then hb | exact below_alloc_then (below_alloc_then hb)))
              clear hb a0 a1 a2 a3 a4 b0 b1 b2 b3 b4 y0 y1
              have a0 := cell_of_box (bx_later HB.out B_a.out) 0 rfl
              have a1 := cell_of_box (bx_later HB.out B_a.out) 1 rfl
              have a2 := cell_of_box (bx_later HB.out B_a.out) 2 rfl
              have a3 := cell_of_box (bx_later HB.out B_a.out) 3 rfl
              have a4 := cell_of_box (bx_later HB.out B_a.out) 4 rfl
              have b0 := cell_of_box (bx_later HB.out B_b.out) 0 rfl
              have b1 := cell_of_box (bx_later HB.out B_b.out) 1 rfl
              have b2 := cell_of_box (bx_later HB.out B_b.out) 2 rfl
              have b3 := cell_of_box (bx_later HB.out B_b.out) 3 rfl
              have b4 := cell_of_box (bx_later HB.out B_b.out) 4 rfl
              have y0 := cell_of_box (bx_later HB.out B_y.out) 0 rfl
              have y1 := cell_of_box (bx_later HB.out B_y.out) 1 rfl
              go_wp2_with fail
              refine (right_b false F5.out (P2.out.later HB.out) (by omega)).mono ?_
              rintro e wn ⟨rfl, hb⟩
              replace HB := Lib.hid (below_then HB.out (by first | exact hb | exact below_alloc_then hb | exact below_alloc_then (below_alloc_then hb)))
              clear hb a0 a1 a2 a3 a4 b0 b1 b2 b3 b4 y0 y1
              have a0 := cell_of_box (bx_later HB.out B_a.out) 0 rfl
              have a1 := cell_of_box (bx_later HB.out B_a.out) 1 rfl
              have a2 := cell_of_box (bx_later HB.out B_a.out) 2 rfl
              have a3 := cell_of_box (bx_later HB.out B_a.out) 3 rfl
              have a4 := cell_of_box (bx_later HB.out B_a.out) 4 rfl
              have b0 := cell_of_box (bx_later HB.out B_b.out) 0 rfl
              have b1 := cell_of_box (bx_later HB.out B_b.out) 1 rfl
              have b2 := cell_of_box (bx_later HB.out B_b.out) 2 rfl
              have b3 := cell_of_box (bx_later HB.out B_b.out) 3 rfl
              have b4 := cell_of_box (bx_later HB.out B_b.out) 4 rfl
              have y0 := cell_of_box (bx_later HB.out B_y.out) 0 rfl
              have y1 := cell_of_box (bx_later HB.out B_y.out) 1 rfl
              go_wp2_with fail
              refine (alive_any _).mono ?_
              rintro e wn ⟨rfl, hb⟩
              replace HB := Lib.hid (below_then HB.out (by first | exact hb | exact below_alloc_then hb | exact below_alloc_then (below_alloc_then hb)))
              clear hb a0 a1 a2 a3 a4 b0 b1 b2 b3 b4 y0 y1
              have a0 := cell_of_box (bx_later HB.out B_a.out) 0 rfl
              have a1 := cell_of_box (bx_later HB.out B_a.out) 1 rfl
              have a2 := cell_of_box (bx_later HB.out B_a.out) 2 rfl
              have a3 := cell_of_box (bx_later HB.out B_a.out) 3 rfl
              have a4 := cell_of_box (bx_later HB.out B_a.out) 4 rfl
              have b0 := cell_of_box (bx_later HB.out B_b.out) 0 rfl
              have b1 := cell_of_box (bx_later HB.out B_b.out) 1 rfl
              have b2 := cell_of_box (bx_later HB.out B_b.out) 2 rfl
              have b3 := cell_of_box (bx_later HB.out B_b.out) 3 rfl
              have b4 := cell_of_box (bx_later HB.out B_b.out) 4 rfl
              have y0 := cell_of_box (bx_later HB.out B_y.out) 0 rfl
              have y1 := cell_of_box (bx_later HB.out B_y.out) 1 rfl
              go_wp2_with fail
              go_ret
              exact ⟨by first | rfl | exact ret_bool (by simp), below_then HB1.out HB.out⟩
            · go_enter Try.func3, Try.ntmps3
              go_wp2_with fail
              rw [HW.out]
              go_wp2_with fail
              refine (few_b true F0.out (P1.out.later HB.out)).mono ?_
              rintro e wn ⟨rfl, hb⟩
              replace HB := Lib.hid (below_then HB.out (by first | exact hb | exact below_alloc_then hb | exact below_alloc_then (below_alloc_then hb)))
              clear hb a0 a1 a2 a3 a4 b0 b1 b2 b3 b4 y0 y1
              have a0 := cell_of_box (bx_later HB.out B_a.out) 0 rfl
              have a1 := cell_of_box (bx_later HB.out B_a.out) 1 rfl
              have a2 := cell_of_box (bx_later HB.out B_a.out) 2 rfl
              have a3 := cell_of_box (bx_later HB.out B_a.out) 3 rfl
              have a4 := cell_of_box (bx_later HB.out B_a.out) 4 rfl
              have b0 := cell_of_box (bx_later HB.out B_b.out) 0 rfl
              have b1 := cell_of_box (bx_later HB.out B_b.out) 1 rfl
              have b2 := cell_of_box (bx_later HB.out B_b.out) 2 rfl
              have b3 := cell_of_box (bx_later HB.out B_b.out) 3 rfl
              have b4 := cell_of_box (bx_later HB.out B_b.out) 4 rfl
              have y0 := cell_of_box (bx_later HB.out B_y.out) 0 rfl
              have y1 := cell_of_box (bx_later HB.out B_y.out) 1 rfl
              go_wp2_with fail
              refine (few_b true F1.out (P2.out.later HB.out)).mono ?_
              rintro e wn ⟨rfl, hb⟩
              replace HB := Lib.hid (below_then HB.out (by first | exact hb | exact below_alloc_then hb | exact below_alloc_then (below_alloc_then hb)))
              clear hb a0 a1 a2 a3 a4 b0 b1 b2 b3 b4 y0 y1
              have a0 := cell_of_box (bx_later HB.out B_a.out) 0 rfl
              have a1 := cell_of_box (bx_later HB.out B_a.out) 1 rfl
              have a2 := cell_of_box (bx_later HB.out B_a.out) 2 rfl
              have a3 := cell_of_box (bx_later HB.out B_a.out) 3 rfl
              have a4 := cell_of_box (bx_later HB.out B_a.out) 4 rfl
              have b0 := cell_of_box (bx_later HB.out B_b.out) 0 rfl
              have b1 := cell_of_box (bx_later HB.out B_b.out) 1 rfl
              have b2 := cell_of_box (bx_later HB.out B_b.out) 2 rfl
              have b3 := cell_of_box (bx_later HB.out B_b.out) 3 rfl
              have b4 := cell_of_box (bx_later HB.out B_b.out) 4 rfl
              have y0 := cell_of_box (bx_later HB.out B_y.out) 0 rfl
              have y1 := cell_of_box (bx_later HB.out B_y.out) 1 rfl
              go_wp2_with fail
              refine (right_b true F4.out (P1.out.later HB.out) (by omega)).mono ?_
              rintro e wn ⟨rfl, hb⟩
              replace HB := Lib.hid (below_then HB.out (by first | exact hb | exact below_alloc_then hb | exact below_alloc_then (below_alloc_then hb)))
              clear hb a0 a1 a2 a3 a4 b0 b1 b2 b3 b4 y0 y1
              have a0 := cell_of_box (bx_later HB.out B_a.out) 0 rfl
              have a1 := cell_of_box (bx_later HB.out B_a.out) 1 rfl
              have a2 := cell_of_box (bx_later HB.out B_a.out) 2 rfl
              have a3 := cell_of_box (bx_later HB.out B_a.out) 3 rfl
              have a4 := cell_of_box (bx_later HB.out B_a.out) 4 rfl
              have b0 := cell_of_box (bx_later HB.out B_b.out) 0 rfl
              have b1 := cell_of_box (bx_later HB.out B_b.out) 1 rfl
              have b2 := cell_of_box (bx_later HB.out B_b.out) 2 rfl
              have b3 := cell_of_box (bx_later HB.out B_b.out) 3 rfl
              have b4 := cell_of_box (bx_later HB.out B_b.out) 4 rfl
              have y0 := cell_of_box (bx_later HB.out B_y.out) 0 rfl
              have y1 := cell_of_box (bx_later HB.out B_y.out) 1 rfl
              go_wp2_with fail
              refine (right_b true F5.out (P2.out.later HB.out) (by omega)).mono ?_
              rintro e wn ⟨rfl, hb⟩
              replace HB := Lib.hid (below_then HB.out (by first | exact hb | exact below_alloc_then hb | exact below_alloc_then (below_alloc_then hb)))
              clear hb a0 a1 a2 a3 a4 b0 b1 b2 b3 b4 y0 y1
              have a0 := cell_of_box (bx_later HB.out B_a.out) 0 rfl
              have a1 := cell_of_box (bx_later HB.out B_a.out) 1 rfl
              have a2 := cell_of_box (bx_later HB.out B_a.out) 2 rfl
              have a3 := cell_of_box (bx_later HB.out B_a.out) 3 rfl
              have a4 := cell_of_box (bx_later HB.out B_a.out) 4 rfl
              have b0 := cell_of_box (bx_later HB.out B_b.out) 0 rfl
              have b1 := cell_of_box (bx_later HB.out B_b.out) 1 rfl
              have b2 := cell_of_box (bx_later HB.out B_b.out) 2 rfl
              have b3 := cell_of_box (bx_later HB.out B_b.out) 3 rfl
              have b4 := cell_of_box (bx_later HB.out B_b.out) 4 rfl
              have y0 := cell_of_box (bx_later HB.out B_y.out) 0 rfl
              have y1 := cell_of_box (bx_later HB.out B_y.out) 1 rfl
              go_upto_region 3 with fail
              refine wp_region_flow (by kernel_rfl) 19 [(0, ⟨fun v => v = .bool true, fun _ _ _ _ => True⟩), (8, ⟨fun v => ∃ a k, v = .agg #[.int .i64 3, .int .i64 0, .int .i64 0, .string ⟨#[]⟩, .slice a m.length k], fun v _ _ w' => ∃ a k, v = .agg #[.int .i64 3, .int .i64 0, .int .i64 0, .string ⟨#[]⟩, .slice a m.length k] ∧ PRd w' (.slice a m.length k) m⟩), (15, ⟨fun v => ∃ a k, v = .agg #[.int .i64 3, .int .i64 0, .int .i64 0, .string ⟨#[]⟩, .slice a m.length k], fun v _ _ w' => ∃ a k, v = .agg #[.int .i64 3, .int .i64 0, .int .i64 0, .string ⟨#[]⟩, .slice a m.length k] ∧ PRd w' (.slice a m.length k) m⟩), (16, ⟨fun v => v = .bool true, fun _ _ _ _ => True⟩)] (by kernel_rfl) ?_ ?_ ?_
              · intro x hx
                simp only [List.mem_cons, List.not_mem_nil, or_false] at hx
                rcases hx with rfl | rfl | rfl | rfl
                · exact ⟨_, rfl⟩
                · exact ⟨_, none, 0, rfl⟩
                · exact ⟨_, none, 0, rfl⟩
                · exact ⟨_, rfl⟩
              · intro x hx v lo hi w w' h hb
                simp only [List.mem_cons, List.not_mem_nil, or_false] at hx
                rcases hx with rfl | rfl | rfl | rfl
                · exact trivial
                · obtain ⟨a, k, rfl, ho⟩ := h
                  exact ⟨a, k, rfl, ho.later hb⟩
                · obtain ⟨a, k, rfl, ho⟩ := h
                  exact ⟨a, k, rfl, ho.later hb⟩
                · exact trivial
              · intro lo hi
                have ka0 := cell_regrown a0
                have ka1 := cell_regrown a1
                have ka2 := cell_regrown a2
                have ka3 := cell_regrown a3
                have ka4 := cell_regrown a4
                have kb0 := cell_regrown b0
                have kb1 := cell_regrown b1
                have kb2 := cell_regrown b2
                have kb3 := cell_regrown b3
                have kb4 := cell_regrown b4
                have ky0 := cell_regrown y0
                have ky1 := cell_regrown y1
                refine flowW_call rfl rfl ?_ ?_
                · intro W hW hF K hK
                  clear ka0 ka1 ka2 ka3 ka4 kb0 kb1 kb2 kb3 kb4 ky0 ky1
                  go_wp2_with fail
                  refine (alive_any _).mono ?_
                  rintro e wq ⟨rfl, hbq⟩
                  go_wp2_with fail
                  exact hK _ _ rfl trivial hbq
                rintro v rfl K hK
                go_simp
                refine hK _ ?_
                clear hK K
                refine flowW_plain rfl ?_
                go_big_quiet_step (fail)
                refine wpQuiet_nil ?_
                refine flowW_plain rfl ?_
                go_big_quiet_step (fail)
                refine wpQuiet_nil ?_
                refine flowW_plain rfl ?_
                go_big_quiet_step (fail)
                refine wpQuiet_nil ?_
                refine flowW_plain rfl ?_
                go_big_quiet_step (fail)
                refine wpQuiet_nil ?_
                refine flowW_plain rfl ?_
                go_big_quiet_step (fail)
                refine wpQuiet_nil ?_
                refine flowW_plain rfl ?_
                go_big_quiet_step (fail)
                refine wpQuiet_nil ?_
                refine flowW_plain rfl ?_
                go_big_quiet_step (fail)
                refine wpQuiet_nil ?_
                refine flowW_call rfl rfl ?_ ?_
                · intro W hW hF K hK
                  clear ka0 ka1 ka2 ka3 ka4 kb0 kb1 kb2 kb3 kb4 ky0 ky1
                  go_wp2_with fail
                  refine (join_p z0 z1 (P1.out.later (below_then HB.out hW)) (P2.out.later (below_then HB.out hW)) (Z0.out.later (below_then HB.out hW)) (Z1.out.later (below_then HB.out hW)) (by omega) (by omega) HM.out).mono ?_
                  rintro e wq ⟨a, k, rfl, ho, hbq⟩
                  go_wp2_with fail
                  exact hK _ _ ⟨a, k, rfl⟩ ⟨a, k, rfl, ho⟩ hbq
                rintro v ⟨a8, k8, rfl⟩ K hK
                go_simp
                refine hK _ ?_
                clear hK K
                refine flowW_plain rfl ?_
                go_big_quiet_step (fail)
                refine wpQuiet_nil ?_
                refine flowW_plain rfl ?_
                go_big_quiet_step (fail)
                refine wpQuiet_nil ?_
                refine flowW_plain rfl ?_
                go_big_quiet_step (fail)
                refine wpQuiet_nil ?_
                refine flowW_plain rfl ?_
                go_big_quiet_step (fail)
                refine wpQuiet_nil ?_
                refine flowW_plain rfl ?_
                go_big_quiet_step (fail)
                refine wpQuiet_nil ?_
                refine flowW_plain rfl ?_
                go_big_quiet_step (fail)
                refine wpQuiet_nil ?_
                refine flowW_call rfl rfl ?_ ?_
                · intro W hW hF K hK
                  clear ka0 ka1 ka2 ka3 ka4 kb0 kb1 kb2 kb3 kb4 ky0 ky1
                  go_wp2_with fail
                  refine (refJoin_p z0 z1 (P1.out.later (below_then HB.out hW)) (P2.out.later (below_then HB.out hW)) (Z0.out.later (below_then HB.out hW)) (Z1.out.later (below_then HB.out hW)) (by omega) (by omega) HM.out).mono ?_
                  rintro e wq ⟨a, k, rfl, ho, hbq⟩
                  go_wp2_with fail
                  exact hK _ _ ⟨a, k, rfl⟩ ⟨a, k, rfl, ho⟩ hbq
                rintro v ⟨a15, k15, rfl⟩ K hK
                go_simp
                refine hK _ ?_
                clear hK K
                refine flowW_call rfl rfl ?_ ?_
                · intro W hW hF K hK
                  clear ka0 ka1 ka2 ka3 ka4 kb0 kb1 kb2 kb3 kb4 ky0 ky1
                  obtain ⟨_, _, he8, h8⟩ := hF 8 rfl
                  cases he8
                  obtain ⟨_, _, he15, h15⟩ := hF 15 rfl
                  cases he15
                  go_wp2_with fail
                  refine (same_p m h8 h15 (by omega)).mono ?_
                  rintro e wq ⟨rfl, hbq⟩
                  go_wp2_with fail
                  exact hK _ _ rfl trivial hbq
                rintro v rfl K hK
                go_simp
                refine hK _ ?_
                clear hK K
                refine flowW_plain rfl ?_
                go_big_quiet_step (fail)
                refine wpQuiet_nil ?_
                refine flowW_plain rfl ?_
                go_big_quiet_step (fail)
                refine wpQuiet_nil ?_
                refine flowW_end fun wz hwz hF hD => ?_
                clear ka0 ka1 ka2 ka3 ka4 kb0 kb1 kb2 kb3 kb4 ky0 ky1
                simp only [List.drop_succ_cons, List.drop_zero]
                replace HB := Lib.hid (below_then HB.out hwz)
                clear hwz hF hD a0 a1 a2 a3 a4 b0 b1 b2 b3 b4 y0 y1
                have a0 := cell_of_box (bx_later HB.out B_a.out) 0 rfl
                have a1 := cell_of_box (bx_later HB.out B_a.out) 1 rfl
                have a2 := cell_of_box (bx_later HB.out B_a.out) 2 rfl
                have a3 := cell_of_box (bx_later HB.out B_a.out) 3 rfl
                have a4 := cell_of_box (bx_later HB.out B_a.out) 4 rfl
                have b0 := cell_of_box (bx_later HB.out B_b.out) 0 rfl
                have b1 := cell_of_box (bx_later HB.out B_b.out) 1 rfl
                have b2 := cell_of_box (bx_later HB.out B_b.out) 2 rfl
                have b3 := cell_of_box (bx_later HB.out B_b.out) 3 rfl
                have b4 := cell_of_box (bx_later HB.out B_b.out) 4 rfl
                have y0 := cell_of_box (bx_later HB.out B_y.out) 0 rfl
                have y1 := cell_of_box (bx_later HB.out B_y.out) 1 rfl
                go_wp2_with fail
                go_ret
                exact ⟨by first | rfl | exact ret_bool (by simp), below_then HB1.out HB.out⟩

set_option maxRecDepth 100000 in
theorem lifted (os : Os) (started : os.Started) (H : Type) (enc : TypeId × Value → H) :
    ReturnsInHanded {} Try.checked os 3 .any (Rows.bagJoinsSpec.pre6 enc Try.prog Try.f3 Rows.bagJoinsRow.domain false) (Rows.bagJoinsSpec.post enc Try.prog Try.f3 false true false false) := by
  refine returnsInHanded_of_change_sized (C := Try.checked) ownKnob_none started (by kernel_rfl) Try.func3
    (ChangeSpec.witness6 (enc := enc) (C := Try.checked) false ⟨#[], #[.agg #[.int .i64 0, .int .i64 0, .int .i64 0, .string ⟨#[]⟩, .slice none 0 0], .agg #[.int .i64 0, .int .i64 0, .int .i64 0, .string ⟨#[]⟩, .slice none 0 0], .agg #[.slice none 0 0, .slice none 0 0]], []⟩ 8 (by kernel_rfl) (by kernel_rfl) (by kernel_rfl) (by kernel_rfl)) ?_
  intro W base args ds gs before hval0 hW hcnd hsz0 _
  have hval : ∀ (j : Nat) t v, Try.f3.params[j]? = some t → args[j]? = some v → Value.okWide Try.prog W .any base t v := hval0
  have hW' := hW
  obtain ⟨p, q, hA0, hV, rfl, hfz, hnd⟩ := hW
  have hA : DataW.TrodAll enc Try.prog W 0 (fun _ => true) true Try.f3.params.toList args.toList ds p := hA0
  have hsz : (DataW.weightsEach Try.prog (Try.f3.params.toList ++ Rows.bagJoinsSpec.plain.varTypes Try.prog) (ds ++ gs)).all (· ≤ reachBytes) = true := hsz0
  rw [Try.params3] at hA hval hsz
  obtain ⟨v0, vs0, d0, ds0, p0, q0, hargs, rfl, rfl, h0, r0r⟩ := trodAll_cons hA
  obtain ⟨v1, vs1, d1, ds1, p1, q1, rfl, rfl, rfl, h1, r1r⟩ := trodAll_cons r0r
  obtain ⟨v2, vs2, d2, ds2, p2, q2, rfl, rfl, rfl, h2, r2r⟩ := trodAll_cons r1r
  obtain ⟨rfl, rfl, rfl⟩ := trodAll_nil r2r
  obtain rfl : args = #[v0, v1, v2] := by cases args; simp_all
  obtain ⟨rfl, rfl⟩ := trodVars_none hV
  have g0 := sized_at hsz (j := 0) rfl rfl
  have g1 := sized_at hsz (j := 1) rfl rfl
  have g2 := sized_at hsz (j := 2) rfl rfl
  obtain ⟨y0_0, y0_1, y0_2, y0_3, rfl, f0_0⟩ := open_cell (hval 0 26 v0 rfl rfl) h0
  obtain ⟨y1_0, y1_1, y1_2, y1_3, rfl, f1_0⟩ := open_cell (hval 1 26 v1 rfl rfl) h1
  obtain ⟨y2_0, y2_1, y2_2, y2_3, rfl, f2_0, f2_1⟩ := open_vec2 (hval 2 29 v2 rfl rfl) h2
  refine (walk y0_0 y0_1 y0_2 y0_3 y1_0 y1_1 y1_2 y1_3 y2_0 y2_1 y2_2 y2_3 W f0_0 f1_0 f2_0 f2_1).mono fun e W' ⟨he, hg⟩ => ⟨_, he, law_post laidOut (by kernel_rfl) rfl Try.underlying4 rfl rfl hW' hg⟩

theorem over : Rows.bagJoinsRow.holds Try.pinned (OpenSpec.ofChange Rows.bagJoinsSpec) :=
  OpenClaim.holds_of_wide 3 Try.f3 rfl rfl rfl rfl rfl rfl rfl ⟨rfl, rfl, rfl, rfl, rfl⟩ rfl rfl rfl rfl rfl (by kernel_rfl) Try.func3 (by kernel_rfl)
    (of_decide_eq_true (by kernel_rfl)) (by unfold Func.isWrapper; first | (rw [if_pos (by decide +kernel)]; kernel_rfl) | (rw [if_neg (by decide +kernel)]; exact ⟨rfl, rfl⟩))
    (fun os started H enc _ => lifted os started H enc)

/-- THE STATEMENT. -/
theorem proved : Rows.BagJoinsSaid :=
  over
#print axioms proved
end Go.Proofs.Ytnpciogpegmejaa.bagJoins
