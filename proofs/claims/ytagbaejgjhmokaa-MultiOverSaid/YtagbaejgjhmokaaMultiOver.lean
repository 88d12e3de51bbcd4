/-
  The law MultiOver.
-/
import Derived.Test.YtagbaejgjhmokaaBY
namespace Go.Proofs.Ytagbaejgjhmokaa.multiOver
open Go.ChangeShapes Go.WideShapes Go.ChangeAt Go.RowKit Go.Sort Go.BigFrame Go.Proofs.Ytagbaejgjhmokaa
open Go.ChangeMaps (open_string shut_string)

set_option maxRecDepth 100000 in
set_option maxHeartbeats 8000000 in
theorem walk (kd1 : Int) (cv1 : Val) (va1 : Value) (l1 : List Prt) (p : Prt) (vz0 : Value) (z0 : List Int) (w : World) (ha1 : PRd w va1 l1) (hz0 : Rd w vz0 z0.length (z0.map ic)) :
    Calls Try.prog 6 #[.agg #[.int .i64 kd1, .int .i64 cv1.k, .int .i64 cv1.n, .string cv1.s, va1], .agg #[.int .i64 p.v.k, .int .i64 p.v.n, .string p.v.s, .int .i64 p.d.dev, .int .i64 p.d.seq, .int .i64 p.at_, .int .i64 p.tm, .int .i64 p.aft.dev, .int .i64 p.aft.seq, .int .i64 p.aat, .bool p.gone], vz0] w fun e w' => e = .returned (.bool true) ∧ Below w.heap.size w w' := by
  obtain ⟨ck1, cn1, cs1⟩ := cv1
  obtain ⟨ao1, ca1, rfl, -, hcm1, -, -⟩ := id ha1
  unfold maxLen at hcm1
  obtain ⟨zo0, zc0, rfl, -, hzm0, -, -⟩ := id hz0
  unfold maxLen at hzm0
  obtain ⟨⟨pk, pn, ps⟩, ⟨pd, pq⟩, pat, ptm, ⟨pfd, pfq⟩, paa, pg⟩ := p
  obtain ⟨w1, hw1⟩ : ∃ w1, (w.alloc (.cells #[(.int .i64 kd1), (.int .i64 ck1), (.int .i64 cn1), (.string cs1), (.slice ao1 l1.length ca1)] 26)).alloc (.cells #[(.int .i64 pk), (.int .i64 pn), (.string ps), (.int .i64 pd), (.int .i64 pq), (.int .i64 pat), (.int .i64 ptm), (.int .i64 pfd), (.int .i64 pfq), (.int .i64 paa), (.bool pg)] 32) = w1 := ⟨_, rfl⟩
  have hb1 : Below w.heap.size w w1 := by rw [← hw1]; exact below_alloc_then (below_alloc _ _)
  have b_c : Bx w1 (w.heap.size) #[(.int .i64 kd1), (.int .i64 ck1), (.int .i64 cn1), (.string cs1), (.slice ao1 l1.length ca1)] 26 := by rw [← hw1]; exact bx_later (below_alloc _ _) (bx_new (by simp))
  have b_p : Bx w1 (w.heap.size + 1) #[(.int .i64 pk), (.int .i64 pn), (.string ps), (.int .i64 pd), (.int .i64 pq), (.int .i64 pat), (.int .i64 ptm), (.int .i64 pfd), (.int .i64 pfq), (.int .i64 paa), (.bool pg)] 32 := by rw [← hw1]; exact bx_new (by simp)
  have HW := Lib.hid hw1
  have HB1 := Lib.hid hb1
  have HB := Lib.hid (Below.refl w1.heap.size w1)
  have B_c := Lib.hid b_c
  have B_p := Lib.hid b_p
  have c0 := cell_of_box (bx_later HB.out B_c.out) 0 rfl
  have c1 := cell_of_box (bx_later HB.out B_c.out) 1 rfl
  have c2 := cell_of_box (bx_later HB.out B_c.out) 2 rfl
  have c3 := cell_of_box (bx_later HB.out B_c.out) 3 rfl
  have c4 := cell_of_box (bx_later HB.out B_c.out) 4 rfl
  have p0 := cell_of_box (bx_later HB.out B_p.out) 0 rfl
  have p1 := cell_of_box (bx_later HB.out B_p.out) 1 rfl
  have p2 := cell_of_box (bx_later HB.out B_p.out) 2 rfl
  have p3 := cell_of_box (bx_later HB.out B_p.out) 3 rfl
  have p4 := cell_of_box (bx_later HB.out B_p.out) 4 rfl
  have p5 := cell_of_box (bx_later HB.out B_p.out) 5 rfl
  have p6 := cell_of_box (bx_later HB.out B_p.out) 6 rfl
  have p7 := cell_of_box (bx_later HB.out B_p.out) 7 rfl
  have p8 := cell_of_box (bx_later HB.out B_p.out) 8 rfl
  have p9 := cell_of_box (bx_later HB.out B_p.out) 9 rfl
  have p10 := cell_of_box (bx_later HB.out B_p.out) 10 rfl
  clear hw1 hb1 b_c b_p
  have P1 := Lib.hid (ha1.later HB1.out)
  have Z0 := Lib.hid (hz0.later HB1.out)
  clear ha1 hz0
  cases hf0 : decide ((l1.length : Int) ≤ 60)
  all_goals
    have F0 := Lib.hid hf0
  · clear hf0
    go_enter Try.func6, Try.ntmps6
    go_wp2_with fail
    rw [HW.out]
    go_wp2_with fail
    refine (few_p false F0.out (P1.out.later HB.out)).mono ?_
    rintro e wn ⟨rfl, hb⟩
    replace HB := Lib.hid (below_then HB.out (by first | exact hb | exact below_alloc_then hb | exact below_alloc_then (below_alloc_then hb)))
    clear hb c0 c1 c2 c3 c4 p0 p1 p2 p3 p4 p5 p6 p7 p8 p9 p10
    have c0 := cell_of_box (bx_later HB.out B_c.out) 0 rfl
    have c1 := cell_of_box (bx_later HB.out B_c.out) 1 rfl
    have c2 := cell_of_box (bx_later HB.out B_c.out) 2 rfl
    have c3 := cell_of_box (bx_later HB.out B_c.out) 3 rfl
    have c4 := cell_of_box (bx_later HB.out B_c.out) 4 rfl
    have p0 := cell_of_box (bx_later HB.out B_p.out) 0 rfl
    have p1 := cell_of_box (bx_later HB.out B_p.out) 1 rfl
    have p2 := cell_of_box (bx_later HB.out B_p.out) 2 rfl
    have p3 := cell_of_box (bx_later HB.out B_p.out) 3 rfl
    have p4 := cell_of_box (bx_later HB.out B_p.out) 4 rfl
    have p5 := cell_of_box (bx_later HB.out B_p.out) 5 rfl
    have p6 := cell_of_box (bx_later HB.out B_p.out) 6 rfl
    have p7 := cell_of_box (bx_later HB.out B_p.out) 7 rfl
    have p8 := cell_of_box (bx_later HB.out B_p.out) 8 rfl
    have p9 := cell_of_box (bx_later HB.out B_p.out) 9 rfl
    have p10 := cell_of_box (bx_later HB.out B_p.out) 10 rfl
    go_wp2_with fail
    refine (alive_any _).mono ?_
    rintro e wn ⟨rfl, hb⟩
    replace HB := Lib.hid (below_then HB.out (by first | exact hb | exact below_alloc_then hb | exact below_alloc_then (below_alloc_then hb)))
    clear hb c0 c1 c2 c3 c4 p0 p1 p2 p3 p4 p5 p6 p7 p8 p9 p10
    have c0 := cell_of_box (bx_later HB.out B_c.out) 0 rfl
    have c1 := cell_of_box (bx_later HB.out B_c.out) 1 rfl
    have c2 := cell_of_box (bx_later HB.out B_c.out) 2 rfl
    have c3 := cell_of_box (bx_later HB.out B_c.out) 3 rfl
    have c4 := cell_of_box (bx_later HB.out B_c.out) 4 rfl
    have p0 := cell_of_box (bx_later HB.out B_p.out) 0 rfl
    have p1 := cell_of_box (bx_later HB.out B_p.out) 1 rfl
    have p2 := cell_of_box (bx_later HB.out B_p.out) 2 rfl
    have p3 := cell_of_box (bx_later HB.out B_p.out) 3 rfl
    have p4 := cell_of_box (bx_later HB.out B_p.out) 4 rfl
    have p5 := cell_of_box (bx_later HB.out B_p.out) 5 rfl
    have p6 := cell_of_box (bx_later HB.out B_p.out) 6 rfl
    have p7 := cell_of_box (bx_later HB.out B_p.out) 7 rfl
    have p8 := cell_of_box (bx_later HB.out B_p.out) 8 rfl
    have p9 := cell_of_box (bx_later HB.out B_p.out) 9 rfl
    have p10 := cell_of_box (bx_later HB.out B_p.out) 10 rfl
    go_wp2_with fail
    go_ret
    exact ⟨by first | rfl | exact ret_bool (by simp), below_then HB1.out HB.out⟩
  · have hl0 : l1.length ≤ 60 := by have := of_decide_eq_true hf0; omega
    clear hf0
    by_cases hlen1 : 100 < z0.length
    · have g1z0 : decide (100 < (z0.length : Int)) = true := decide_eq_true (by omega)
      have g2z0 : decide (100 < z0.length) = true := decide_eq_true (by omega)
      go_enter Try.func6, Try.ntmps6
      go_wp2_with fail
      rw [HW.out]
      go_wp2_with fail
      refine (few_p true F0.out (P1.out.later HB.out)).mono ?_
      rintro e wn ⟨rfl, hb⟩
      replace HB := Lib.hid (below_then HB.out (by first | exact hb | exact below_alloc_then hb | exact below_alloc_then (below_alloc_then hb)))
      clear hb c0 c1 c2 c3 c4 p0 p1 p2 p3 p4 p5 p6 p7 p8 p9 p10
      have c0 := cell_of_box (bx_later HB.out B_c.out) 0 rfl
      have c1 := cell_of_box (bx_later HB.out B_c.out) 1 rfl
      have c2 := cell_of_box (bx_later HB.out B_c.out) 2 rfl
      have c3 := cell_of_box (bx_later HB.out B_c.out) 3 rfl
      have c4 := cell_of_box (bx_later HB.out B_c.out) 4 rfl
      have p0 := cell_of_box (bx_later HB.out B_p.out) 0 rfl
      have p1 := cell_of_box (bx_later HB.out B_p.out) 1 rfl
      have p2 := cell_of_box (bx_later HB.out B_p.out) 2 rfl
      have p3 := cell_of_box (bx_later HB.out B_p.out) 3 rfl
      have p4 := cell_of_box (bx_later HB.out B_p.out) 4 rfl
      have p5 := cell_of_box (bx_later HB.out B_p.out) 5 rfl
      have p6 := cell_of_box (bx_later HB.out B_p.out) 6 rfl
      have p7 := cell_of_box (bx_later HB.out B_p.out) 7 rfl
      have p8 := cell_of_box (bx_later HB.out B_p.out) 8 rfl
      have p9 := cell_of_box (bx_later HB.out B_p.out) 9 rfl
      have p10 := cell_of_box (bx_later HB.out B_p.out) 10 rfl
      go_wp2_with fail
      refine (alive_any _).mono ?_
      rintro e wn ⟨rfl, hb⟩
      replace HB := Lib.hid (below_then HB.out (by first | exact hb | exact below_alloc_then hb | exact below_alloc_then (below_alloc_then hb)))
      clear hb c0 c1 c2 c3 c4 p0 p1 p2 p3 p4 p5 p6 p7 p8 p9 p10
      have c0 := cell_of_box (bx_later HB.out B_c.out) 0 rfl
      have c1 := cell_of_box (bx_later HB.out B_c.out) 1 rfl
      have c2 := cell_of_box (bx_later HB.out B_c.out) 2 rfl
      have c3 := cell_of_box (bx_later HB.out B_c.out) 3 rfl
      have c4 := cell_of_box (bx_later HB.out B_c.out) 4 rfl
      have p0 := cell_of_box (bx_later HB.out B_p.out) 0 rfl
      have p1 := cell_of_box (bx_later HB.out B_p.out) 1 rfl
      have p2 := cell_of_box (bx_later HB.out B_p.out) 2 rfl
      have p3 := cell_of_box (bx_later HB.out B_p.out) 3 rfl
      have p4 := cell_of_box (bx_later HB.out B_p.out) 4 rfl
      have p5 := cell_of_box (bx_later HB.out B_p.out) 5 rfl
      have p6 := cell_of_box (bx_later HB.out B_p.out) 6 rfl
      have p7 := cell_of_box (bx_later HB.out B_p.out) 7 rfl
      have p8 := cell_of_box (bx_later HB.out B_p.out) 8 rfl
      have p9 := cell_of_box (bx_later HB.out B_p.out) 9 rfl
      have p10 := cell_of_box (bx_later HB.out B_p.out) 10 rfl
      go_wp2_with fail
      go_ret
      exact ⟨by first | rfl | exact ret_bool (by simp), below_then HB1.out HB.out⟩
    · have g1z0 : decide (100 < (z0.length : Int)) = false := decide_eq_false (by omega)
      have g2z0 : decide (100 < z0.length) = false := decide_eq_false (by omega)
      cases hr2 : rcB kd1 ⟨ck1, cn1, cs1⟩ l1
      all_goals
        have F2 := Lib.hid hr2
        clear hr2
      · go_enter Try.func6, Try.ntmps6
        go_wp2_with fail
        rw [HW.out]
        go_wp2_with fail
        refine (few_p true F0.out (P1.out.later HB.out)).mono ?_
        rintro e wn ⟨rfl, hb⟩
        replace HB := Lib.hid (below_then HB.out (by first | exact hb | exact below_alloc_then hb | exact below_alloc_then (below_alloc_then hb)))
        clear hb c0 c1 c2 c3 c4 p0 p1 p2 p3 p4 p5 p6 p7 p8 p9 p10
        have c0 := cell_of_box (bx_later HB.out B_c.out) 0 rfl
        have c1 := cell_of_box (bx_later HB.out B_c.out) 1 rfl
        have c2 := cell_of_box (bx_later HB.out B_c.out) 2 rfl
        have c3 := cell_of_box (bx_later HB.out B_c.out) 3 rfl
        have c4 := cell_of_box (bx_later HB.out B_c.out) 4 rfl
        have p0 := cell_of_box (bx_later HB.out B_p.out) 0 rfl
        have p1 := cell_of_box (bx_later HB.out B_p.out) 1 rfl
        have p2 := cell_of_box (bx_later HB.out B_p.out) 2 rfl
        have p3 := cell_of_box (bx_later HB.out B_p.out) 3 rfl
        have p4 := cell_of_box (bx_later HB.out B_p.out) 4 rfl
        have p5 := cell_of_box (bx_later HB.out B_p.out) 5 rfl
        have p6 := cell_of_box (bx_later HB.out B_p.out) 6 rfl
        have p7 := cell_of_box (bx_later HB.out B_p.out) 7 rfl
        have p8 := cell_of_box (bx_later HB.out B_p.out) 8 rfl
        have p9 := cell_of_box (bx_later HB.out B_p.out) 9 rfl
        have p10 := cell_of_box (bx_later HB.out B_p.out) 10 rfl
        go_wp2_with fail
        refine (right_b false F2.out (P1.out.later HB.out) (by omega)).mono ?_
        rintro e wn ⟨rfl, hb⟩
        replace HB := Lib.hid (below_then HB.out (by first | exact hb | exact below_alloc_then hb | exact below_alloc_then (below_alloc_then hb)))
        clear hb c0 c1 c2 c3 c4 p0 p1 p2 p3 p4 p5 p6 p7 p8 p9 p10
        have c0 := cell_of_box (bx_later HB.out B_c.out) 0 rfl
        have c1 := cell_of_box (bx_later HB.out B_c.out) 1 rfl
        have c2 := cell_of_box (bx_later HB.out B_c.out) 2 rfl
        have c3 := cell_of_box (bx_later HB.out B_c.out) 3 rfl
        have c4 := cell_of_box (bx_later HB.out B_c.out) 4 rfl
        have p0 := cell_of_box (bx_later HB.out B_p.out) 0 rfl
        have p1 := cell_of_box (bx_later HB.out B_p.out) 1 rfl
        have p2 := cell_of_box (bx_later HB.out B_p.out) 2 rfl
        have p3 := cell_of_box (bx_later HB.out B_p.out) 3 rfl
        have p4 := cell_of_box (bx_later HB.out B_p.out) 4 rfl
        have p5 := cell_of_box (bx_later HB.out B_p.out) 5 rfl
        have p6 := cell_of_box (bx_later HB.out B_p.out) 6 rfl
        have p7 := cell_of_box (bx_later HB.out B_p.out) 7 rfl
        have p8 := cell_of_box (bx_later HB.out B_p.out) 8 rfl
        have p9 := cell_of_box (bx_later HB.out B_p.out) 9 rfl
        have p10 := cell_of_box (bx_later HB.out B_p.out) 10 rfl
        go_wp2_with fail
        refine (alive_any _).mono ?_
        rintro e wn ⟨rfl, hb⟩
        replace HB := Lib.hid (below_then HB.out (by first | exact hb | exact below_alloc_then hb | exact below_alloc_then (below_alloc_then hb)))
        clear hb c0 c1 c2 c3 c4 p0 p1 p2 p3 p4 p5 p6 p7 p8 p9 p10
        have c0 := cell_of_box (bx_later HB.out B_c.out) 0 rfl
        have c1 := cell_of_box (bx_later HB.out B_c.out) 1 rfl
        have c2 := cell_of_box (bx_later HB.out B_c.out) 2 rfl
        have c3 := cell_of_box (bx_later HB.out B_c.out) 3 rfl
        have c4 := cell_of_box (bx_later HB.out B_c.out) 4 rfl
        have p0 := cell_of_box (bx_later HB.out B_p.out) 0 rfl
        have p1 := cell_of_box (bx_later HB.out B_p.out) 1 rfl
        have p2 := cell_of_box (bx_later HB.out B_p.out) 2 rfl
        have p3 := cell_of_box (bx_later HB.out B_p.out) 3 rfl
        have p4 := cell_of_box (bx_later HB.out B_p.out) 4 rfl
        have p5 := cell_of_box (bx_later HB.out B_p.out) 5 rfl
        have p6 := cell_of_box (bx_later HB.out B_p.out) 6 rfl
        have p7 := cell_of_box (bx_later HB.out B_p.out) 7 rfl
        have p8 := cell_of_box (bx_later HB.out B_p.out) 8 rfl
        have p9 := cell_of_box (bx_later HB.out B_p.out) 9 rfl
        have p10 := cell_of_box (bx_later HB.out B_p.out) 10 rfl
        go_wp2_with fail
        go_ret
        exact ⟨by first | rfl | exact ret_bool (by simp), below_then HB1.out HB.out⟩
      · cases hrv : rightV ⟨pk, pn, ps⟩
        all_goals
          have FV := Lib.hid hrv
          clear hrv
        · go_enter Try.func6, Try.ntmps6
          go_wp2_with fail
          rw [HW.out]
          go_wp2_with fail
          refine (few_p true F0.out (P1.out.later HB.out)).mono ?_
          rintro e wn ⟨rfl, hb⟩
          replace HB := Lib.hid (below_then HB.out (by first | exact hb | exact below_alloc_then hb | exact below_alloc_then (below_alloc_then hb)))
          clear hb c0 c1 c2 c3 c4 p0 p1 p2 p3 p4 p5 p6 p7 p8 p9 p10
          have c0 := cell_of_box (bx_later HB.out B_c.out) 0 rfl
          have c1 := cell_of_box (bx_later HB.out B_c.out) 1 rfl
          have c2 := cell_of_box (bx_later HB.out B_c.out) 2 rfl
          have c3 := cell_of_box (bx_later HB.out B_c.out) 3 rfl
          have c4 := cell_of_box (bx_later HB.out B_c.out) 4 rfl
          have p0 := cell_of_box (bx_later HB.out B_p.out) 0 rfl
          have p1 := cell_of_box (bx_later HB.out B_p.out) 1 rfl
          have p2 := cell_of_box (bx_later HB.out B_p.out) 2 rfl
          have p3 := cell_of_box (bx_later HB.out B_p.out) 3 rfl
          have p4 := cell_of_box (bx_later HB.out B_p.out) 4 rfl
          have p5 := cell_of_box (bx_later HB.out B_p.out) 5 rfl
          have p6 := cell_of_box (bx_later HB.out B_p.out) 6 rfl
          have p7 := cell_of_box (bx_later HB.out B_p.out) 7 rfl
          have p8 := cell_of_box (bx_later HB.out B_p.out) 8 rfl
          have p9 := cell_of_box (bx_later HB.out B_p.out) 9 rfl
          have p10 := cell_of_box (bx_later HB.out B_p.out) 10 rfl
          go_wp2_with fail
          refine (right_b true F2.out (P1.out.later HB.out) (by omega)).mono ?_
          rintro e wn ⟨rfl, hb⟩
          replace HB := Lib.hid (below_then HB.out (by first | exact hb | exact below_alloc_then hb | exact below_alloc_then (below_alloc_then hb)))
          clear hb c0 c1 c2 c3 c4 p0 p1 p2 p3 p4 p5 p6 p7 p8 p9 p10
          have c0 := cell_of_box (bx_later HB.out B_c.out) 0 rfl
          have c1 := cell_of_box (bx_later HB.out B_c.out) 1 rfl
          have c2 := cell_of_box (bx_later HB.out B_c.out) 2 rfl
          have c3 := cell_of_box (bx_later HB.out B_c.out) 3 rfl
          have c4 := cell_of_box (bx_later HB.out B_c.out) 4 rfl
          have p0 := cell_of_box (bx_later HB.out B_p.out) 0 rfl
          have p1 := cell_of_box (bx_later HB.out B_p.out) 1 rfl
          have p2 := cell_of_box (bx_later HB.out B_p.out) 2 rfl
          have p3 := cell_of_box (bx_later HB.out B_p.out) 3 rfl
          have p4 := cell_of_box (bx_later HB.out B_p.out) 4 rfl
          have p5 := cell_of_box (bx_later HB.out B_p.out) 5 rfl
          have p6 := cell_of_box (bx_later HB.out B_p.out) 6 rfl
          have p7 := cell_of_box (bx_later HB.out B_p.out) 7 rfl
          have p8 := cell_of_box (bx_later HB.out B_p.out) 8 rfl
          have p9 := cell_of_box (bx_later HB.out B_p.out) 9 rfl
          have p10 := cell_of_box (bx_later HB.out B_p.out) 10 rfl
          go_wp2_with fail
          refine (refRightV_b false FV.out).mono ?_
          rintro e wn ⟨rfl, hb⟩
          replace HB := Lib.hid (below_then HB.out (by first | exact hb | exact below_alloc_then hb | exact below_alloc_then (below_alloc_then hb)))
          clear hb c0 c1 c2 c3 c4 p0 p1 p2 p3 p4 p5 p6 p7 p8 p9 p10
          have c0 := cell_of_box (bx_later HB.out B_c.out) 0 rfl
          have c1 := cell_of_box (bx_later HB.out B_c.out) 1 rfl
          have c2 := cell_of_box (bx_later HB.out B_c.out) 2 rfl
          have c3 := cell_of_box (bx_later HB.out B_c.out) 3 rfl
          have c4 := cell_of_box (bx_later HB.out B_c.out) 4 rfl
          have p0 := cell_of_box (bx_later HB.out B_p.out) 0 rfl
          have p1 := cell_of_box (bx_later HB.out B_p.out) 1 rfl
          have p2 := cell_of_box (bx_later HB.out B_p.out) 2 rfl
          have p3 := cell_of_box (bx_later HB.out B_p.out) 3 rfl
          have p4 := cell_of_box (bx_later HB.out B_p.out) 4 rfl
          have p5 := cell_of_box (bx_later HB.out B_p.out) 5 rfl
          have p6 := cell_of_box (bx_later HB.out B_p.out) 6 rfl
          have p7 := cell_of_box (bx_later HB.out B_p.out) 7 rfl
          have p8 := cell_of_box (bx_later HB.out B_p.out) 8 rfl
          have p9 := cell_of_box (bx_later HB.out B_p.out) 9 rfl
          have p10 := cell_of_box (bx_later HB.out B_p.out) 10 rfl
          go_wp2_with fail
          refine (alive_any _).mono ?_
          rintro e wn ⟨rfl, hb⟩
          replace HB := Lib.hid (below_then HB.out (by first | exact hb | exact below_alloc_then hb | exact below_alloc_then (below_alloc_then hb)))
          clear hb c0 c1 c2 c3 c4 p0 p1 p2 p3 p4 p5 p6 p7 p8 p9 p10
          have c0 := cell_of_box (bx_later HB.out B_c.out) 0 rfl
          have c1 := cell_of_box (bx_later HB.out B_c.out) 1 rfl
          have c2 := cell_of_box (bx_later HB.out B_c.out) 2 rfl
          have c3 := cell_of_box (bx_later HB.out B_c.out) 3 rfl
          have c4 := cell_of_box (bx_later HB.out B_c.out) 4 rfl
          have p0 := cell_of_box (bx_later HB.out B_p.out) 0 rfl
          have p1 := cell_of_box (bx_later HB.out B_p.out) 1 rfl
          have p2 := cell_of_box (bx_later HB.out B_p.out) 2 rfl
          have p3 := cell_of_box (bx_later HB.out B_p.out) 3 rfl
          have p4 := cell_of_box (bx_later HB.out B_p.out) 4 rfl
          have p5 := cell_of_box (bx_later HB.out B_p.out) 5 rfl
          have p6 := cell_of_box (bx_later HB.out B_p.out) 6 rfl
          have p7 := cell_of_box (bx_later HB.out B_p.out) 7 rfl
          have p8 := cell_of_box (bx_later HB.out B_p.out) 8 rfl
          have p9 := cell_of_box (bx_later HB.out B_p.out) 9 rfl
          have p10 := cell_of_box (bx_later HB.out B_p.out) 10 rfl
          go_wp2_with fail
          go_ret
          exact ⟨by first | rfl | exact ret_bool (by simp), below_then HB1.out HB.out⟩
        · by_cases hg0 : pd < 1
          · have hgb0 : decide (pd < 1) = true := decide_eq_true hg0
            go_enter Try.func6, Try.ntmps6
            go_wp2_with fail
            rw [HW.out]
            go_wp2_with fail
            refine (few_p true F0.out (P1.out.later HB.out)).mono ?_
            rintro e wn ⟨rfl, hb⟩
            replace HB := Lib.hid (below_then HB.out (by first | exact hb | exact below_alloc_then hb | exact below_alloc_then (below_alloc_then hb)))
            clear hb c0 c1 c2 c3 c4 p0 p1 p2 p3 p4 p5 p6 p7 p8 p9 p10
            have c0 := cell_of_box (bx_later HB.out B_c.out) 0 rfl
            have c1 := cell_of_box (bx_later HB.out B_c.out) 1 rfl
            have c2 := cell_of_box (bx_later HB.out B_c.out) 2 rfl
            have c3 := cell_of_box (bx_later HB.out B_c.out) 3 rfl
            have c4 := cell_of_box (bx_later HB.out B_c.out) 4 rfl
            have p0 := cell_of_box (bx_later HB.out B_p.out) 0 rfl
            have p1 := cell_of_box (bx_later HB.out B_p.out) 1 rfl
            have p2 := cell_of_box (bx_later HB.out B_p.out) 2 rfl
            have p3 := cell_of_box (bx_later HB.out B_p.out) 3 rfl
            have p4 := cell_of_box (bx_later HB.out B_p.out) 4 rfl
            have p5 := cell_of_box (bx_later HB.out B_p.out) 5 rfl
            have p6 := cell_of_box (bx_later HB.out B_p.out) 6 rfl
            have p7 := cell_of_box (bx_later HB.out B_p.out) 7 rfl
            have p8 := cell_of_box (bx_later HB.out B_p.out) 8 rfl
            have p9 := cell_of_box (bx_later HB.out B_p.out) 9 rfl
            have p10 := cell_of_box (bx_later HB.out B_p.out) 10 rfl
            go_wp2_with fail
            refine (right_b true F2.out (P1.out.later HB.out) (by omega)).mono ?_
            rintro e wn ⟨rfl, hb⟩
            replace HB := Lib.hid (below_then HB.out (by first | exact hb | exact below_alloc_then hb | exact below_alloc_then (below_alloc_then hb)))
            clear hb c0 c1 c2 c3 c4 p0 p1 p2 p3 p4 p5 p6 p7 p8 p9 p10
            have c0 := cell_of_box (bx_later HB.out B_c.out) 0 rfl
            have c1 := cell_of_box (bx_later HB.out B_c.out) 1 rfl
            have c2 := cell_of_box (bx_later HB.out B_c.out) 2 rfl
            have c3 := cell_of_box (bx_later HB.out B_c.out) 3 rfl
            have c4 := cell_of_box (bx_later HB.out B_c.out) 4 rfl
            have p0 := cell_of_box (bx_later HB.out B_p.out) 0 rfl
            have p1 := cell_of_box (bx_later HB.out B_p.out) 1 rfl
            have p2 := cell_of_box (bx_later HB.out B_p.out) 2 rfl
            have p3 := cell_of_box (bx_later HB.out B_p.out) 3 rfl
            have p4 := cell_of_box (bx_later HB.out B_p.out) 4 rfl
            have p5 := cell_of_box (bx_later HB.out B_p.out) 5 rfl
            have p6 := cell_of_box (bx_later HB.out B_p.out) 6 rfl
            have p7 := cell_of_box (bx_later HB.out B_p.out) 7 rfl
            have p8 := cell_of_box (bx_later HB.out B_p.out) 8 rfl
            have p9 := cell_of_box (bx_later HB.out B_p.out) 9 rfl
            have p10 := cell_of_box (bx_later HB.out B_p.out) 10 rfl
            go_wp2_with fail
            refine (refRightV_b true FV.out).mono ?_
            rintro e wn ⟨rfl, hb⟩
            replace HB := Lib.hid (below_then HB.out (by first | exact hb | exact below_alloc_then hb | exact below_alloc_then (below_alloc_then hb)))
            clear hb c0 c1 c2 c3 c4 p0 p1 p2 p3 p4 p5 p6 p7 p8 p9 p10
            have c0 := cell_of_box (bx_later HB.out B_c.out) 0 rfl
            have c1 := cell_of_box (bx_later HB.out B_c.out) 1 rfl
            have c2 := cell_of_box (bx_later HB.out B_c.out) 2 rfl
            have c3 := cell_of_box (bx_later HB.out B_c.out) 3 rfl
            have c4 := cell_of_box (bx_later HB.out B_c.out) 4 rfl
            have p0 := cell_of_box (bx_later HB.out B_p.out) 0 rfl
            have p1 := cell_of_box (bx_later HB.out B_p.out) 1 rfl
            have p2 := cell_of_box (bx_later HB.out B_p.out) 2 rfl
            have p3 := cell_of_box (bx_later HB.out B_p.out) 3 rfl
            have p4 := cell_of_box (bx_later HB.out B_p.out) 4 rfl
            have p5 := cell_of_box (bx_later HB.out B_p.out) 5 rfl
            have p6 := cell_of_box (bx_later HB.out B_p.out) 6 rfl
            have p7 := cell_of_box (bx_later HB.out B_p.out) 7 rfl
            have p8 := cell_of_box (bx_later HB.out B_p.out) 8 rfl
            have p9 := cell_of_box (bx_later HB.out B_p.out) 9 rfl
            have p10 := cell_of_box (bx_later HB.out B_p.out) 10 rfl
            go_wp2_with fail
            refine (alive_any _).mono ?_
            rintro e wn ⟨rfl, hb⟩
            replace HB := Lib.hid (below_then HB.out (by first | exact hb | exact below_alloc_then hb | exact below_alloc_then (below_alloc_then hb)))
            clear hb c0 c1 c2 c3 c4 p0 p1 p2 p3 p4 p5 p6 p7 p8 p9 p10
            have c0 := cell_of_box (bx_later HB.out B_c.out) 0 rfl
            have c1 := cell_of_box (bx_later HB.out B_c.out) 1 rfl
            have c2 := cell_of_box (bx_later HB.out B_c.out) 2 rfl
            have c3 := cell_of_box (bx_later HB.out B_c.out) 3 rfl
            have c4 := cell_of_box (bx_later HB.out B_c.out) 4 rfl
            have p0 := cell_of_box (bx_later HB.out B_p.out) 0 rfl
            have p1 := cell_of_box (bx_later HB.out B_p.out) 1 rfl
            have p2 := cell_of_box (bx_later HB.out B_p.out) 2 rfl
            have p3 := cell_of_box (bx_later HB.out B_p.out) 3 rfl
            have p4 := cell_of_box (bx_later HB.out B_p.out) 4 rfl
            have p5 := cell_of_box (bx_later HB.out B_p.out) 5 rfl
            have p6 := cell_of_box (bx_later HB.out B_p.out) 6 rfl
            have p7 := cell_of_box (bx_later HB.out B_p.out) 7 rfl
            have p8 := cell_of_box (bx_later HB.out B_p.out) 8 rfl
            have p9 := cell_of_box (bx_later HB.out B_p.out) 9 rfl
            have p10 := cell_of_box (bx_later HB.out B_p.out) 10 rfl
            go_wp2_with fail
            go_ret
            exact ⟨by first | rfl | exact ret_bool (by simp), below_then HB1.out HB.out⟩
          · have hgb0 : decide (pd < 1) = false := decide_eq_false hg0
            have hgc0 : 1 ≤ pd := by omega
            by_cases hg1 : 64 < pd
            · have hgb1 : decide (64 < pd) = true := decide_eq_true hg1
              go_enter Try.func6, Try.ntmps6
              go_wp2_with fail
              rw [HW.out]
              go_wp2_with fail
              refine (few_p true F0.out (P1.out.later HB.out)).mono ?_
              rintro e wn ⟨rfl, hb⟩
              replace HB := Lib.hid (below_then HB.out (by first | exact hb | exact below_alloc_then hb | exact below_alloc_then (below_alloc_then hb)))
              clear hb c0 c1 c2 c3 c4 p0 p1 p2 p3 p4 p5 p6 p7 p8 p9 p10
              have c0 := cell_of_box (bx_later HB.out B_c.out) 0 rfl
              have c1 := cell_of_box (bx_later HB.out B_c.out) 1 rfl
              have c2 := cell_of_box (bx_later HB.out B_c.out) 2 rfl
              have c3 := cell_of_box (bx_later HB.out B_c.out) 3 rfl
              have c4 := cell_of_box (bx_later HB.out B_c.out) 4 rfl
              have p0 := cell_of_box (bx_later HB.out B_p.out) 0 rfl
              have p1 := cell_of_box (bx_later HB.out B_p.out) 1 rfl
              have p2 := cell_of_box (bx_later HB.out B_p.out) 2 rfl
              have p3 := cell_of_box (bx_later HB.out B_p.out) 3 rfl
              have p4 := cell_of_box (bx_later HB.out B_p.out) 4 rfl
              have p5 := cell_of_box (bx_later HB.out B_p.out) 5 rfl
              have p6 := cell_of_box (bx_later HB.out B_p.out) 6 rfl
              have p7 := cell_of_box (bx_later HB.out B_p.out) 7 rfl
              have p8 := cell_of_box (bx_later HB.out B_p.out) 8 rfl
              have p9 := cell_of_box (bx_later HB.out B_p.out) 9 rfl
              have p10 := cell_of_box (bx_later HB.out B_p.out) 10 rfl
              go_wp2_with fail
              refine (right_b true F2.out (P1.out.later HB.out) (by omega)).mono ?_
              rintro e wn ⟨rfl, hb⟩
              replace HB := Lib.hid (below_then HB.out (by first | exact hb | exact below_alloc_then hb | exact below_alloc_then (below_alloc_then hb)))
              clear hb c0 c1 c2 c3 c4 p0 p1 p2 p3 p4 p5 p6 p7 p8 p9 p10
              have c0 := cell_of_box (bx_later HB.out B_c.out) 0 rfl
              have c1 := cell_of_box (bx_later HB.out B_c.out) 1 rfl
              have c2 := cell_of_box (bx_later HB.out B_c.out) 2 rfl
              have c3 := cell_of_box (bx_later HB.out B_c.out) 3 rfl
              have c4 := cell_of_box (bx_later HB.out B_c.out) 4 rfl
              have p0 := cell_of_box (bx_later HB.out B_p.out) 0 rfl
              have p1 := cell_of_box (bx_later HB.out B_p.out) 1 rfl
              have p2 := cell_of_box (bx_later HB.out B_p.out) 2 rfl
              have p3 := cell_of_box (bx_later HB.out B_p.out) 3 rfl
              have p4 := cell_of_box (bx_later HB.out B_p.out) 4 rfl
              have p5 := cell_of_box (bx_later HB.out B_p.out) 5 rfl
              have p6 := cell_of_box (bx_later HB.out B_p.out) 6 rfl
              have p7 := cell_of_box (bx_later HB.out B_p.out) 7 rfl
              have p8 := cell_of_box (bx_later HB.out B_p.out) 8 rfl
              have p9 := cell_of_box (bx_later HB.out B_p.out) 9 rfl
              have p10 := cell_of_box (bx_later HB.out B_p.out) 10 rfl
              go_wp2_with fail
              refine (refRightV_b true FV.out).mono ?_
              rintro e wn ⟨rfl, hb⟩
              replace HB := Lib.hid (below_then HB.out (by first | exact hb | exact below_alloc_then hb | exact below_alloc_then (below_alloc_then hb)))
              clear hb c0 c1 c2 c3 c4 p0 p1 p2 p3 p4 p5 p6 p7 p8 p9 p10
              have c0 := cell_of_box (bx_later HB.out B_c.out) 0 rfl
              have c1 := cell_of_box (bx_later HB.out B_c.out) 1 rfl
              have c2 := cell_of_box (bx_later HB.out B_c.out) 2 rfl
              have c3 := cell_of_box (bx_later HB.out B_c.out) 3 rfl
              have c4 := cell_of_box (bx_later HB.out B_c.out) 4 rfl
              have p0 := cell_of_box (bx_later HB.out B_p.out) 0 rfl
              have p1 := cell_of_box (bx_later HB.out B_p.out) 1 rfl
              have p2 := cell_of_box (bx_later HB.out B_p.out) 2 rfl
              have p3 := cell_of_box (bx_later HB.out B_p.out) 3 rfl
              have p4 := cell_of_box (bx_later HB.out B_p.out) 4 rfl
              have p5 := cell_of_box (bx_later HB.out B_p.out) 5 rfl
              have p6 := cell_of_box (bx_later HB.out B_p.out) 6 rfl
              have p7 := cell_of_box (bx_later HB.out B_p.out) 7 rfl
              have p8 := cell_of_box (bx_later HB.out B_p.out) 8 rfl
              have p9 := cell_of_box (bx_later HB.out B_p.out) 9 rfl
              have p10 := cell_of_box (bx_later HB.out B_p.out) 10 rfl
              go_wp2_with fail
              refine (alive_any _).mono ?_
              rintro e wn ⟨rfl, hb⟩
              replace HB := Lib.hid (below_then HB.out (by first | exact hb | exact below_alloc_then hb | exact below_alloc_then (below_alloc_then hb)))
              clear hb c0 c1 c2 c3 c4 p0 p1 p2 p3 p4 p5 p6 p7 p8 p9 p10
              have c0 := cell_of_box (bx_later HB.out B_c.out) 0 rfl
              have c1 := cell_of_box (bx_later HB.out B_c.out) 1 rfl
              have c2 := cell_of_box (bx_later HB.out B_c.out) 2 rfl
              have c3 := cell_of_box (bx_later HB.out B_c.out) 3 rfl
              have c4 := cell_of_box (bx_later HB.out B_c.out) 4 rfl
              have p0 := cell_of_box (bx_later HB.out B_p.out) 0 rfl
              have p1 := cell_of_box (bx_later HB.out B_p.out) 1 rfl
              have p2 := cell_of_box (bx_later HB.out B_p.out) 2 rfl
              have p3 := cell_of_box (bx_later HB.out B_p.out) 3 rfl
              have p4 := cell_of_box (bx_later HB.out B_p.out) 4 rfl
              have p5 := cell_of_box (bx_later HB.out B_p.out) 5 rfl
              have p6 := cell_of_box (bx_later HB.out B_p.out) 6 rfl
              have p7 := cell_of_box (bx_later HB.out B_p.out) 7 rfl
              have p8 := cell_of_box (bx_later HB.out B_p.out) 8 rfl
              have p9 := cell_of_box (bx_later HB.out B_p.out) 9 rfl
              have p10 := cell_of_box (bx_later HB.out B_p.out) 10 rfl
              go_wp2_with fail
              go_ret
              exact ⟨by first | rfl | exact ret_bool (by simp), below_then HB1.out HB.out⟩
            · have hgb1 : decide (64 < pd) = false := decide_eq_false hg1
              have hgc1 : pd ≤ 64 := by omega
              by_cases hg2 : pq < 1
              · have hgb2 : decide (pq < 1) = true := decide_eq_true hg2
                go_enter Try.func6, Try.ntmps6
                go_wp2_with fail
                rw [HW.out]
                go_wp2_with fail
                refine (few_p true F0.out (P1.out.later HB.out)).mono ?_
                rintro e wn ⟨rfl, hb⟩
                replace HB := Lib.hid (below_then HB.out (by first | exact hb | exact below_alloc_then hb | exact below_alloc_then (below_alloc_then hb)))
                clear hb c0 c1 c2 c3 c4 p0 p1 p2 p3 p4 p5 p6 p7 p8 p9 p10
                have c0 := cell_of_box (bx_later HB.out B_c.out) 0 rfl
                have c1 := cell_of_box (bx_later HB.out B_c.out) 1 rfl
                have c2 := cell_of_box (bx_later HB.out B_c.out) 2 rfl
                have c3 := cell_of_box (bx_later HB.out B_c.out) 3 rfl
                have c4 := cell_of_box (bx_later HB.out B_c.out) 4 rfl
                have p0 := cell_of_box (bx_later HB.out B_p.out) 0 rfl
                have p1 := cell_of_box (bx_later HB.out B_p.out) 1 rfl
                have p2 := cell_of_box (bx_later HB.out B_p.out) 2 rfl
                have p3 := cell_of_box (bx_later HB.out B_p.out) 3 rfl
                have p4 := cell_of_box (bx_later HB.out B_p.out) 4 rfl
                have p5 := cell_of_box (bx_later HB.out B_p.out) 5 rfl
                have p6 := cell_of_box (bx_later HB.out B_p.out) 6 rfl
                have p7 := cell_of_box (bx_later HB.out B_p.out) 7 rfl
                have p8 := cell_of_box (bx_later HB.out B_p.out) 8 rfl
                have p9 := cell_of_box (bx_later HB.out B_p.out) 9 rfl
                have p10 := cell_of_box (bx_later HB.out B_p.out) 10 rfl
                go_wp2_with fail
                refine (right_b true F2.out (P1.out.later HB.out) (by omega)).mono ?_
                rintro e wn ⟨rfl, hb⟩
                replace HB := Lib.hid (below_then HB.out (by first | exact hb | exact below_alloc_then hb | exact below_alloc_then (below_alloc_then hb)))
                clear hb c0 c1 c2 c3 c4 p0 p1 p2 p3 p4 p5 p6 p7 p8 p9 p10
                have c0 := cell_of_box (bx_later HB.out B_c.out) 0 rfl
                have c1 := cell_of_box (bx_later HB.out B_c.out) 1 rfl
                have c2 := cell_of_box (bx_later HB.out B_c.out) 2 rfl
                have c3 := cell_of_box (bx_later HB.out B_c.out) 3 rfl
                have c4 := cell_of_box (bx_later HB.out B_c.out) 4 rfl
                have p0 := cell_of_box (bx_later HB.out B_p.out) 0 rfl
                have p1 := cell_of_box (bx_later HB.out B_p.out) 1 rfl
                have p2 := cell_of_box (bx_later HB.out B_p.out) 2 rfl
                have p3 := cell_of_box (bx_later HB.out B_p.out) 3 rfl
                have p4 := cell_of_box (bx_later HB.out B_p.out) 4 rfl
                have p5 := cell_of_box (bx_later HB.out B_p.out) 5 rfl
                have p6 := cell_of_box (bx_later HB.out B_p.out) 6 rfl
                have p7 := cell_of_box (bx_later HB.out B_p.out) 7 rfl
                have p8 := cell_of_box (bx_later HB.out B_p.out) 8 rfl
                have p9 := cell_of_box (bx_later HB.out B_p.out) 9 rfl
                have p10 := cell_of_box (bx_later HB.out B_p.out) 10 rfl
                go_wp2_with fail
                refine (refRightV_b true FV.out).mono ?_
                rintro e wn ⟨rfl, hb⟩
                replace HB := Lib.hid (below_then HB.out (by first | exact hb | exact below_alloc_then hb | exact below_alloc_then (below_alloc_then hb)))
                clear hb c0 c1 c2 c3 c4 p0 p1 p2 p3 p4 p5 p6 p7 p8 p9 p10
                have c0 := cell_of_box (bx_later HB.out B_c.out) 0 rfl
                have c1 := cell_of_box (bx_later HB.out B_c.out) 1 rfl
                have c2 := cell_of_box (bx_later HB.out B_c.out) 2 rfl
                have c3 := cell_of_box (bx_later HB.out B_c.out) 3 rfl
                have c4 := cell_of_box (bx_later HB.out B_c.out) 4 rfl
                have p0 := cell_of_box (bx_later HB.out B_p.out) 0 rfl
                have p1 := cell_of_box (bx_later HB.out B_p.out) 1 rfl
                have p2 := cell_of_box (bx_later HB.out B_p.out) 2 rfl
                have p3 := cell_of_box (bx_later HB.out B_p.out) 3 rfl
                have p4 := cell_of_box (bx_later HB.out B_p.out) 4 rfl
                have p5 := cell_of_box (bx_later HB.out B_p.out) 5 rfl
                have p6 := cell_of_box (bx_later HB.out B_p.out) 6 rfl
                have p7 := cell_of_box (bx_later HB.out B_p.out) 7 rfl
                have p8 := cell_of_box (bx_later HB.out B_p.out) 8 rfl
                have p9 := cell_of_box (bx_later HB.out B_p.out) 9 rfl
                have p10 := cell_of_box (bx_later HB.out B_p.out) 10 rfl
                go_wp2_with fail
                refine (alive_any _).mono ?_
                rintro e wn ⟨rfl, hb⟩
                replace HB := Lib.hid (below_then HB.out (by first | exact hb | exact below_alloc_then hb | exact below_alloc_then (below_alloc_then hb)))
                clear hb c0 c1 c2 c3 c4 p0 p1 p2 p3 p4 p5 p6 p7 p8 p9 p10
                have c0 := cell_of_box (bx_later HB.out B_c.out) 0 rfl
                have c1 := cell_of_box (bx_later HB.out B_c.out) 1 rfl
                have c2 := cell_of_box (bx_later HB.out B_c.out) 2 rfl
                have c3 := cell_of_box (bx_later HB.out B_c.out) 3 rfl
                have c4 := cell_of_box (bx_later HB.out B_c.out) 4 rfl
                have p0 := cell_of_box (bx_later HB.out B_p.out) 0 rfl
                have p1 := cell_of_box (bx_later HB.out B_p.out) 1 rfl
                have p2 := cell_of_box (bx_later HB.out B_p.out) 2 rfl
                have p3 := cell_of_box (bx_later HB.out B_p.out) 3 rfl
                have p4 := cell_of_box (bx_later HB.out B_p.out) 4 rfl
                have p5 := cell_of_box (bx_later HB.out B_p.out) 5 rfl
                have p6 := cell_of_box (bx_later HB.out B_p.out) 6 rfl
                have p7 := cell_of_box (bx_later HB.out B_p.out) 7 rfl
                have p8 := cell_of_box (bx_later HB.out B_p.out) 8 rfl
                have p9 := cell_of_box (bx_later HB.out B_p.out) 9 rfl
                have p10 := cell_of_box (bx_later HB.out B_p.out) 10 rfl
                go_wp2_with fail
                go_ret
                exact ⟨by first | rfl | exact ret_bool (by simp), below_then HB1.out HB.out⟩
              · have hgb2 : decide (pq < 1) = false := decide_eq_false hg2
                have hgc2 : 1 ≤ pq := by omega
                by_cases hg3 : 1048576 < pq
                · have hgb3 : decide (1048576 < pq) = true := decide_eq_true hg3
                  go_enter Try.func6, Try.ntmps6
                  go_wp2_with fail
                  rw [HW.out]
                  go_wp2_with fail
                  refine (few_p true F0.out (P1.out.later HB.out)).mono ?_
                  rintro e wn ⟨rfl, hb⟩
                  replace HB := Lib.hid (below_then HB.out (by first | exact hb | exact below_alloc_then hb | exact below_alloc_then (below_alloc_then hb)))
                  clear hb c0 c1 c2 c3 c4 p0 p1 p2 p3 p4 p5 p6 p7 p8 p9 p10
                  have c0 := cell_of_box (bx_later HB.out B_c.out) 0 rfl
                  have c1 := cell_of_box (bx_later HB.out B_c.out) 1 rfl
                  have c2 := cell_of_box (bx_later HB.out B_c.out) 2 rfl
                  have c3 := cell_of_box (bx_later HB.out B_c.out) 3 rfl
                  have c4 := cell_of_box (bx_later HB.out B_c.out) 4 rfl
                  have p0 := cell_of_box (bx_later HB.out B_p.out) 0 rfl
                  have p1 := cell_of_box (bx_later HB.out B_p.out) 1 rfl
                  have p2 := cell_of_box (bx_later HB.out B_p.out) 2 rfl
                  have p3 := cell_of_box (bx_later HB.out B_p.out) 3 rfl
                  have p4 := cell_of_box (bx_later HB.out B_p.out) 4 rfl
                  have p5 := cell_of_box (bx_later HB.out B_p.out) 5 rfl
                  have p6 := cell_of_box (bx_later HB.out B_p.out) 6 rfl
                  have p7 := cell_of_box (bx_later HB.out B_p.out) 7 rfl
                  have p8 := cell_of_box (bx_later HB.out B_p.out) 8 rfl
                  have p9 := cell_of_box (bx_later HB.out B_p.out) 9 rfl
                  have p10 := cell_of_box (bx_later HB.out B_p.out) 10 rfl
                  go_wp2_with fail
                  refine (right_b true F2.out (P1.out.later HB.out) (by omega)).mono ?_
                  rintro e wn ⟨rfl, hb⟩
                  replace HB := Lib.hid (below_then HB.out (by first | exact hb | exact below_alloc_then hb | exact below_alloc_then (below_alloc_then hb)))
                  clear hb c0 c1 c2 c3 c4 p0 p1 p2 p3 p4 p5 p6 p7 p8 p9 p10
                  have c0 := cell_of_box (bx_later HB.out B_c.out) 0 rfl
                  have c1 := cell_of_box (bx_later HB.out B_c.out) 1 rfl
                  have c2 := cell_of_box (bx_later HB.out B_c.out) 2 rfl
                  have c3 := cell_of_box (bx_later HB.out B_c.out) 3 rfl
                  have c4 := cell_of_box (bx_later HB.out B_c.out) 4 rfl
                  have p0 := cell_of_box (bx_later HB.out B_p.out) 0 rfl
                  have p1 := cell_of_box (bx_later HB.out B_p.out) 1 rfl
                  have p2 := cell_of_box (bx_later HB.out B_p.out) 2 rfl
                  have p3 := cell_of_box (bx_later HB.out B_p.out) 3 rfl
                  have p4 := cell_of_box (bx_later HB.out B_p.out) 4 rfl
                  have p5 := cell_of_box (bx_later HB.out B_p.out) 5 rfl
                  have p6 := cell_of_box (bx_later HB.out B_p.out) 6 rfl
                  have p7 := cell_of_box (bx_later HB.out B_p.out) 7 rfl
                  have p8 := cell_of_box (bx_later HB.out B_p.out) 8 rfl
                  have p9 := cell_of_box (bx_later HB.out B_p.out) 9 rfl
                  have p10 := cell_of_box (bx_later HB.out B_p.out) 10 rfl
                  go_wp2_with fail
                  refine (refRightV_b true FV.out).mono ?_
                  rintro e wn ⟨rfl, hb⟩
                  replace HB := Lib.hid (below_then HB.out (by first | exact hb | exact below_alloc_then hb | exact below_alloc_then (below_alloc_then hb)))
                  clear hb c0 c1 c2 c3 c4 p0 p1 p2 p3 p4 p5 p6 p7 p8 p9 p10
                  have c0 := cell_of_box (bx_later HB.out B_c.out) 0 rfl
                  have c1 := cell_of_box (bx_later HB.out B_c.out) 1 rfl
                  have c2 := cell_of_box (bx_later HB.out B_c.out) 2 rfl
                  have c3 := cell_of_box (bx_later HB.out B_c.out) 3 rfl
                  have c4 := cell_of_box (bx_later HB.out B_c.out) 4 rfl
                  have p0 := cell_of_box (bx_later HB.out B_p.out) 0 rfl
                  have p1 := cell_of_box (bx_later HB.out B_p.out) 1 rfl
                  have p2 := cell_of_box (bx_later HB.out B_p.out) 2 rfl
                  have p3 := cell_of_box (bx_later HB.out B_p.out) 3 rfl
                  have p4 := cell_of_box (bx_later HB.out B_p.out) 4 rfl
                  have p5 := cell_of_box (bx_later HB.out B_p.out) 5 rfl
                  have p6 := cell_of_box (bx_later HB.out B_p.out) 6 rfl
                  have p7 := cell_of_box (bx_later HB.out B_p.out) 7 rfl
                  have p8 := cell_of_box (bx_later HB.out B_p.out) 8 rfl
                  have p9 := cell_of_box (bx_later HB.out B_p.out) 9 rfl
                  have p10 := cell_of_box (bx_later HB.out B_p.out) 10 rfl
                  go_wp2_with fail
                  refine (alive_any _).mono ?_
                  rintro e wn ⟨rfl, hb⟩
                  replace HB := Lib.hid (below_then HB.out (by first | exact hb | exact below_alloc_then hb | exact below_alloc_then (below_alloc_then hb)))
                  clear hb c0 c1 c2 c3 c4 p0 p1 p2 p3 p4 p5 p6 p7 p8 p9 p10
                  have c0 := cell_of_box (bx_later HB.out B_c.out) 0 rfl
                  have c1 := cell_of_box (bx_later HB.out B_c.out) 1 rfl
                  have c2 := cell_of_box (bx_later HB.out B_c.out) 2 rfl
                  have c3 := cell_of_box (bx_later HB.out B_c.out) 3 rfl
                  have c4 := cell_of_box (bx_later HB.out B_c.out) 4 rfl
                  have p0 := cell_of_box (bx_later HB.out B_p.out) 0 rfl
                  have p1 := cell_of_box (bx_later HB.out B_p.out) 1 rfl
                  have p2 := cell_of_box (bx_later HB.out B_p.out) 2 rfl
                  have p3 := cell_of_box (bx_later HB.out B_p.out) 3 rfl
                  have p4 := cell_of_box (bx_later HB.out B_p.out) 4 rfl
                  have p5 := cell_of_box (bx_later HB.out B_p.out) 5 rfl
                  have p6 := cell_of_box (bx_later HB.out B_p.out) 6 rfl
                  have p7 := cell_of_box (bx_later HB.out B_p.out) 7 rfl
                  have p8 := cell_of_box (bx_later HB.out B_p.out) 8 rfl
                  have p9 := cell_of_box (bx_later HB.out B_p.out) 9 rfl
                  have p10 := cell_of_box (bx_later HB.out B_p.out) 10 rfl
                  go_wp2_with fail
                  go_ret
                  exact ⟨by first | rfl | exact ret_bool (by simp), below_then HB1.out HB.out⟩
                · have hgb3 : decide (1048576 < pq) = false := decide_eq_false hg3
                  have hgc3 : pq ≤ 1048576 := by omega
                  clear hg0 hg1 hg2 hg3
                  have hrc := rcB_iff.1 F2.out
                  have hrise := hrc.parts.rise
                  obtain ⟨m, hm⟩ : ∃ m, writeL l1 ⟨pk, pn, ps⟩ ⟨pd, pq⟩ z0 = m := ⟨_, rfl⟩
                  have hml : m.length ≤ l1.length + 1 := by rw [← hm]; exact writeL_len _ _ _ _
                  have hcnt : m.length = (l1.filter (keepW ⟨pd, pq⟩ z0)).length + 1 := by rw [← hm]; unfold writeL; rw [putD_length]; rfl
                  have hrm : rcB kd1 ⟨ck1, cn1, cs1⟩ m = true := by
                    rw [← hm]
                    exact rcB_iff.2 ⟨hrc.kind, hrc.val, right_write hrc.parts FV.out ⟨hgc0, hgc1⟩ ⟨hgc2, hgc3⟩ _⟩
                  have hhp : hasP m ⟨pd, pq⟩ = true := by rw [← hm]; exact hasP_write.2 (.inl rfl)
                  have hkeep : ∀ x ∈ l1, keepW ⟨pd, pq⟩ z0 x = true → hasP m x.d = true := fun x hx hk => by
                    rw [← hm]
                    unfold keepW at hk
                    simp only [Bool.and_eq_true, Bool.not_eq_true', decide_eq_false_iff_not] at hk
                    exact hasP_write.2 (.inr ⟨hasP_iff.2 ⟨x, hx, rfl⟩, hk.1, hk.2⟩)
                  have LL : Hid (l1.length ≤ 60) := hl0
                  have HM := Lib.hid hm
                  have HML := Lib.hid hml
                  have HCNT := Lib.hid hcnt
                  have HRM := Lib.hid hrm
                  have HHP := Lib.hid hhp
                  have HKEEP := Lib.hid hkeep
                  clear hrc hrise hm hml hcnt hrm hhp hkeep
                  go_enter Try.func6, Try.ntmps6
                  go_wp2_with fail
                  rw [HW.out]
                  go_wp2_with fail
                  refine (few_p true F0.out (P1.out.later HB.out)).mono ?_
                  rintro e wn ⟨rfl, hb⟩
                  replace HB := Lib.hid (below_then HB.out (by first | exact hb | exact below_alloc_then hb | exact below_alloc_then (below_alloc_then hb)))
                  clear hb c0 c1 c2 c3 c4 p0 p1 p2 p3 p4 p5 p6 p7 p8 p9 p10
                  have c0 := cell_of_box (bx_later HB.out B_c.out) 0 rfl
                  have c1 := cell_of_box (bx_later HB.out B_c.out) 1 rfl
                  have c2 := cell_of_box (bx_later HB.out B_c.out) 2 rfl
                  have c3 := cell_of_box (bx_later HB.out B_c.out) 3 rfl
                  have c4 := cell_of_box (bx_later HB.out B_c.out) 4 rfl
                  have p0 := cell_of_box (bx_later HB.out B_p.out) 0 rfl
                  have p1 := cell_of_box (bx_later HB.out B_p.out) 1 rfl
                  have p2 := cell_of_box (bx_later HB.out B_p.out) 2 rfl
                  have p3 := cell_of_box (bx_later HB.out B_p.out) 3 rfl
                  have p4 := cell_of_box (bx_later HB.out B_p.out) 4 rfl
                  have p5 := cell_of_box (bx_later HB.out B_p.out) 5 rfl
                  have p6 := cell_of_box (bx_later HB.out B_p.out) 6 rfl
                  have p7 := cell_of_box (bx_later HB.out B_p.out) 7 rfl
                  have p8 := cell_of_box (bx_later HB.out B_p.out) 8 rfl
                  have p9 := cell_of_box (bx_later HB.out B_p.out) 9 rfl
                  have p10 := cell_of_box (bx_later HB.out B_p.out) 10 rfl
                  go_wp2_with fail
                  refine (right_b true F2.out (P1.out.later HB.out) (by omega)).mono ?_
                  rintro e wn ⟨rfl, hb⟩
                  replace HB := Lib.hid (below_then HB.out (by first | exact hb | exact below_alloc_then hb | exact below_alloc_then (below_alloc_then hb)))
                  clear hb c0 c1 c2 c3 c4 p0 p1 p2 p3 p4 p5 p6 p7 p8 p9 p10
                  have c0 := cell_of_box (bx_later HB.out B_c.out) 0 rfl
                  have c1 := cell_of_box (bx_later HB.out B_c.out) 1 rfl
                  have c2 := cell_of_box (bx_later HB.out B_c.out) 2 rfl
                  have c3 := cell_of_box (bx_later HB.out B_c.out) 3 rfl
                  have c4 := cell_of_box (bx_later HB.out B_c.out) 4 rfl
                  have p0 := cell_of_box (bx_later HB.out B_p.out) 0 rfl
                  have p1 := cell_of_box (bx_later HB.out B_p.out) 1 rfl
                  have p2 := cell_of_box (bx_later HB.out B_p.out) 2 rfl
                  have p3 := cell_of_box (bx_later HB.out B_p.out) 3 rfl
                  have p4 := cell_of_box (bx_later HB.out B_p.out) 4 rfl
                  have p5 := cell_of_box (bx_later HB.out B_p.out) 5 rfl
                  have p6 := cell_of_box (bx_later HB.out B_p.out) 6 rfl
                  have p7 := cell_of_box (bx_later HB.out B_p.out) 7 rfl
                  have p8 := cell_of_box (bx_later HB.out B_p.out) 8 rfl
                  have p9 := cell_of_box (bx_later HB.out B_p.out) 9 rfl
                  have p10 := cell_of_box (bx_later HB.out B_p.out) 10 rfl
                  go_wp2_with fail
                  refine (refRightV_b true FV.out).mono ?_
                  rintro e wn ⟨rfl, hb⟩
                  replace HB := Lib.hid (below_then HB.out (by first | exact hb | exact below_alloc_then hb | exact below_alloc_then (below_alloc_then hb)))
                  clear hb c0 c1 c2 c3 c4 p0 p1 p2 p3 p4 p5 p6 p7 p8 p9 p10
                  have c0 := cell_of_box (bx_later HB.out B_c.out) 0 rfl
                  have c1 := cell_of_box (bx_later HB.out B_c.out) 1 rfl
                  have c2 := cell_of_box (bx_later HB.out B_c.out) 2 rfl
                  have c3 := cell_of_box (bx_later HB.out B_c.out) 3 rfl
                  have c4 := cell_of_box (bx_later HB.out B_c.out) 4 rfl
                  have p0 := cell_of_box (bx_later HB.out B_p.out) 0 rfl
                  have p1 := cell_of_box (bx_later HB.out B_p.out) 1 rfl
                  have p2 := cell_of_box (bx_later HB.out B_p.out) 2 rfl
                  have p3 := cell_of_box (bx_later HB.out B_p.out) 3 rfl
                  have p4 := cell_of_box (bx_later HB.out B_p.out) 4 rfl
                  have p5 := cell_of_box (bx_later HB.out B_p.out) 5 rfl
                  have p6 := cell_of_box (bx_later HB.out B_p.out) 6 rfl
                  have p7 := cell_of_box (bx_later HB.out B_p.out) 7 rfl
                  have p8 := cell_of_box (bx_later HB.out B_p.out) 8 rfl
                  have p9 := cell_of_box (bx_later HB.out B_p.out) 9 rfl
                  have p10 := cell_of_box (bx_later HB.out B_p.out) 10 rfl
                  go_wp2_with fail
                  refine (write_p (P1.out.later HB.out) (Z0.out.later HB.out) (by omega) HM.out).mono ?_
                  rintro e wm ⟨am, km, rfl, hpm, hb⟩
                  go_upto_region 4 with fail
                  obtain ⟨w2, hw2⟩ : ∃ w2, wm.alloc (.cells #[(.int .i64 kd1), (.int .i64 ck1), (.int .i64 cn1), (.string cs1), (.slice am m.length km)] 26) = w2 := ⟨_, rfl⟩
                  have hb2 : Ext wm w2 := by rw [← hw2]; exact below_alloc _ _
                  have bd : Bx w2 wm.heap.size #[(.int .i64 kd1), (.int .i64 ck1), (.int .i64 cn1), (.string cs1), (.slice am m.length km)] 26 := by rw [← hw2]; exact bx_new rfl
                  have PM := Lib.hid hpm
                  clear hpm
                  rw [hw2]
                  have hbd := below_then hb hb2
                  replace PM := Lib.hid (PM.out.later hb2)
                  have hbn := below_then HB.out hbd
                  clear c0 c1 c2 c3 c4 p0 p1 p2 p3 p4 p5 p6 p7 p8 p9 p10
                  replace B_c := Lib.hid (bx_later hbn B_c.out)
                  replace B_p := Lib.hid (bx_later hbn B_p.out)
                  replace P1 := Lib.hid (P1.out.later hbn)
                  replace Z0 := Lib.hid (Z0.out.later hbn)
                  replace HB1 := Lib.hid (below_then HB1.out hbn)
                  clear HB hbn
                  have HB := Lib.hid (Below.refl w2.heap.size w2)
                  have B_d := Lib.hid bd
                  have c0 := cell_of_box (bx_later HB.out B_c.out) 0 rfl
                  have c1 := cell_of_box (bx_later HB.out B_c.out) 1 rfl
                  have c2 := cell_of_box (bx_later HB.out B_c.out) 2 rfl
                  have c3 := cell_of_box (bx_later HB.out B_c.out) 3 rfl
                  have c4 := cell_of_box (bx_later HB.out B_c.out) 4 rfl
                  have p0 := cell_of_box (bx_later HB.out B_p.out) 0 rfl
                  have p1 := cell_of_box (bx_later HB.out B_p.out) 1 rfl
                  have p2 := cell_of_box (bx_later HB.out B_p.out) 2 rfl
                  have p3 := cell_of_box (bx_later HB.out B_p.out) 3 rfl
                  have p4 := cell_of_box (bx_later HB.out B_p.out) 4 rfl
                  have p5 := cell_of_box (bx_later HB.out B_p.out) 5 rfl
                  have p6 := cell_of_box (bx_later HB.out B_p.out) 6 rfl
                  have p7 := cell_of_box (bx_later HB.out B_p.out) 7 rfl
                  have p8 := cell_of_box (bx_later HB.out B_p.out) 8 rfl
                  have p9 := cell_of_box (bx_later HB.out B_p.out) 9 rfl
                  have p10 := cell_of_box (bx_later HB.out B_p.out) 10 rfl
                  have d0 := cell_of_box (bx_later HB.out B_d.out) 0 rfl
                  have d1 := cell_of_box (bx_later HB.out B_d.out) 1 rfl
                  have d2 := cell_of_box (bx_later HB.out B_d.out) 2 rfl
                  have d3 := cell_of_box (bx_later HB.out B_d.out) 3 rfl
                  have d4 := cell_of_box (bx_later HB.out B_d.out) 4 rfl
                  obtain ⟨gd, hgd⟩ : ∃ gd, wm.heap.size = gd := ⟨_, rfl⟩
                  rw [hgd] at B_d ⊢
                  clear hw2 hb2 bd hbd hb hgd c0 c1 c2 c3 c4 p0 p1 p2 p3 p4 p5 p6 p7 p8 p9 p10 d0 d1 d2 d3 d4
                  have c0 := cell_of_box (bx_later HB.out B_c.out) 0 rfl
                  have c1 := cell_of_box (bx_later HB.out B_c.out) 1 rfl
                  have c2 := cell_of_box (bx_later HB.out B_c.out) 2 rfl
                  have c3 := cell_of_box (bx_later HB.out B_c.out) 3 rfl
                  have c4 := cell_of_box (bx_later HB.out B_c.out) 4 rfl
                  have p0 := cell_of_box (bx_later HB.out B_p.out) 0 rfl
                  have p1 := cell_of_box (bx_later HB.out B_p.out) 1 rfl
                  have p2 := cell_of_box (bx_later HB.out B_p.out) 2 rfl
                  have p3 := cell_of_box (bx_later HB.out B_p.out) 3 rfl
                  have p4 := cell_of_box (bx_later HB.out B_p.out) 4 rfl
                  have p5 := cell_of_box (bx_later HB.out B_p.out) 5 rfl
                  have p6 := cell_of_box (bx_later HB.out B_p.out) 6 rfl
                  have p7 := cell_of_box (bx_later HB.out B_p.out) 7 rfl
                  have p8 := cell_of_box (bx_later HB.out B_p.out) 8 rfl
                  have p9 := cell_of_box (bx_later HB.out B_p.out) 9 rfl
                  have p10 := cell_of_box (bx_later HB.out B_p.out) 10 rfl
                  have d0 := cell_of_box (bx_later HB.out B_d.out) 0 rfl
                  have d1 := cell_of_box (bx_later HB.out B_d.out) 1 rfl
                  have d2 := cell_of_box (bx_later HB.out B_d.out) 2 rfl
                  have d3 := cell_of_box (bx_later HB.out B_d.out) 3 rfl
                  have d4 := cell_of_box (bx_later HB.out B_d.out) 4 rfl
                  go_wp2_with fail
                  clear c0 c1 c2 c3 c4 p0 p1 p2 p3 p4 p5 p6 p7 p8 p9 p10 d0 d1 d2 d3 d4
                  go_loopw [8, 65] (fun vn vi wr => ∃ k : Nat, k ≤ l1.length ∧ vi = .int .i64 k ∧ vn = .int .i64 (((l1.take k).filter (keepW ⟨pd, pq⟩ z0)).length : Int) ∧ Hid (Ext w2 wr)) (fun _ vi _ => l1.length - (intOf vi).toNat)
                  case atStart => exact ⟨0, Nat.zero_le _, rfl, rfl, Below.refl _ _⟩
                  case round =>
                    obtain ⟨k, hk, rfl, rfl, hbw⟩ := hrel
                    rename World => wr
                    have HB := hbw
                    have c0 := cell_of_box (bx_later HB.out B_c.out) 0 rfl
                    have c1 := cell_of_box (bx_later HB.out B_c.out) 1 rfl
                    have c2 := cell_of_box (bx_later HB.out B_c.out) 2 rfl
                    have c3 := cell_of_box (bx_later HB.out B_c.out) 3 rfl
                    have c4 := cell_of_box (bx_later HB.out B_c.out) 4 rfl
                    have p0 := cell_of_box (bx_later HB.out B_p.out) 0 rfl
                    have p1 := cell_of_box (bx_later HB.out B_p.out) 1 rfl
                    have p2 := cell_of_box (bx_later HB.out B_p.out) 2 rfl
                    have p3 := cell_of_box (bx_later HB.out B_p.out) 3 rfl
                    have p4 := cell_of_box (bx_later HB.out B_p.out) 4 rfl
                    have p5 := cell_of_box (bx_later HB.out B_p.out) 5 rfl
                    have p6 := cell_of_box (bx_later HB.out B_p.out) 6 rfl
                    have p7 := cell_of_box (bx_later HB.out B_p.out) 7 rfl
                    have p8 := cell_of_box (bx_later HB.out B_p.out) 8 rfl
                    have p9 := cell_of_box (bx_later HB.out B_p.out) 9 rfl
                    have p10 := cell_of_box (bx_later HB.out B_p.out) 10 rfl
                    have d0 := cell_of_box (bx_later HB.out B_d.out) 0 rfl
                    have d1 := cell_of_box (bx_later HB.out B_d.out) 1 rfl
                    have d2 := cell_of_box (bx_later HB.out B_d.out) 2 rfl
                    have d3 := cell_of_box (bx_later HB.out B_d.out) 3 rfl
                    have d4 := cell_of_box (bx_later HB.out B_d.out) 4 rfl
                    by_cases hlt : k < l1.length
                    · obtain ⟨x, hx⟩ : ∃ x, l1[k] = x := ⟨_, rfl⟩
                      obtain ⟨b1, o1, x1, e0, e1, e2, e3, e4, e5, e6, e7, e8, e9, e10, _⟩ := rd_prt (P1.out.later HB.out) rfl k hlt hx
                      have htk : (l1.take (k + 1)).filter (keepW ⟨pd, pq⟩ z0) = (l1.take k).filter (keepW ⟨pd, pq⟩ z0) ++ if keepW ⟨pd, pq⟩ z0 x then [x] else [] := by
                        rw [List.take_succ_eq_append_getElem hlt, List.filter_append, hx]
                        cases hq : keepW ⟨pd, pq⟩ z0 x <;> simp [hq]
                      have hmem : x ∈ l1 := by rw [← hx]; exact List.getElem_mem hlt
                      obtain ⟨N, hN⟩ : ∃ N, ((l1.take k).filter (keepW ⟨pd, pq⟩ z0)).length = N := ⟨_, rfl⟩
                      have hNk : N ≤ 60 := by rw [← hN]; have h1 := List.length_filter_le (keepW ⟨pd, pq⟩ z0) (l1.take k); have h2 := List.length_take_le k l1; have := LL.out; omega
                      have hyes : keepW ⟨pd, pq⟩ z0 x = true → ((l1.take (k + 1)).filter (keepW ⟨pd, pq⟩ z0)).length = N + 1 := fun h => by rw [htk, h, ← hN]; simp
                      have hno : keepW ⟨pd, pq⟩ z0 x = false → ((l1.take (k + 1)).filter (keepW ⟨pd, pq⟩ z0)).length = N := fun h => by rw [htk, h, ← hN]; simp
                      have hhas := HKEEP.out x hmem
                      have hku : keepW ⟨pd, pq⟩ z0 x = (!decide (x.d = ⟨pd, pq⟩) && !hasV z0 x.d) := rfl
                      have hbx := below_alloc wr (.cells #[.int .i64 x.v.k, .int .i64 x.v.n, .string x.v.s, .int .i64 x.d.dev, .int .i64 x.d.seq, .int .i64 x.at_, .int .i64 x.tm, .int .i64 x.aft.dev, .int .i64 x.aft.seq, .int .i64 x.aat, .bool x.gone] 32)
                      have bq : Bx (wr.alloc (.cells #[.int .i64 x.v.k, .int .i64 x.v.n, .string x.v.s, .int .i64 x.d.dev, .int .i64 x.d.seq, .int .i64 x.at_, .int .i64 x.tm, .int .i64 x.aft.dev, .int .i64 x.aft.seq, .int .i64 x.aat, .bool x.gone] 32)) wr.heap.size #[.int .i64 x.v.k, .int .i64 x.v.n, .string x.v.s, .int .i64 x.d.dev, .int .i64 x.d.seq, .int .i64 x.at_, .int .i64 x.tm, .int .i64 x.aft.dev, .int .i64 x.aft.seq, .int .i64 x.aat, .bool x.gone] 32 := bx_new rfl
                      have HYES := Lib.hid hyes
                      have HNO := Lib.hid hno
                      have HHAS := Lib.hid hhas
                      have HKU := Lib.hid hku
                      have HBX := Lib.hid hbx
                      have BQ := Lib.hid bq
                      rw [hN]
                      clear hx htk hmem hN hyes hno hhas hku hbx bq
                      go_wp2_with fail
                      refine (hasV_p (Z0.out.later (below_then HB.out HBX.out))).mono ?_
                      rintro e w3 ⟨rfl, hb3⟩
                      replace HB := Lib.hid (below_then HB.out (below_then HBX.out hb3))
                      have bq3 := bx_later hb3 BQ.out
                      clear c0 c1 c2 c3 c4 p0 p1 p2 p3 p4 p5 p6 p7 p8 p9 p10 d0 d1 d2 d3 d4 e0 e1 e2 e3 e4 e5 e6 e7 e8 e9 e10 hb3
                      have c0 := cell_of_box (bx_later HB.out B_c.out) 0 rfl
                      have c1 := cell_of_box (bx_later HB.out B_c.out) 1 rfl
                      have c2 := cell_of_box (bx_later HB.out B_c.out) 2 rfl
                      have c3 := cell_of_box (bx_later HB.out B_c.out) 3 rfl
                      have c4 := cell_of_box (bx_later HB.out B_c.out) 4 rfl
                      have p0 := cell_of_box (bx_later HB.out B_p.out) 0 rfl
                      have p1 := cell_of_box (bx_later HB.out B_p.out) 1 rfl
                      have p2 := cell_of_box (bx_later HB.out B_p.out) 2 rfl
                      have p3 := cell_of_box (bx_later HB.out B_p.out) 3 rfl
                      have p4 := cell_of_box (bx_later HB.out B_p.out) 4 rfl
                      have p5 := cell_of_box (bx_later HB.out B_p.out) 5 rfl
                      have p6 := cell_of_box (bx_later HB.out B_p.out) 6 rfl
                      have p7 := cell_of_box (bx_later HB.out B_p.out) 7 rfl
                      have p8 := cell_of_box (bx_later HB.out B_p.out) 8 rfl
                      have p9 := cell_of_box (bx_later HB.out B_p.out) 9 rfl
                      have p10 := cell_of_box (bx_later HB.out B_p.out) 10 rfl
                      have d0 := cell_of_box (bx_later HB.out B_d.out) 0 rfl
                      have d1 := cell_of_box (bx_later HB.out B_d.out) 1 rfl
                      have d2 := cell_of_box (bx_later HB.out B_d.out) 2 rfl
                      have d3 := cell_of_box (bx_later HB.out B_d.out) 3 rfl
                      have d4 := cell_of_box (bx_later HB.out B_d.out) 4 rfl
                      have q3 := cell_of_box bq3 3 rfl
                      have q4 := cell_of_box bq3 4 rfl
                      have BQ3 := Lib.hid bq3
                      obtain ⟨xd, hxd⟩ : ∃ xd, x.d = xd := ⟨_, rfl⟩
                      rw [hxd] at q3 q4 HKU HHAS
                      have hde : (⟨x.d.dev, x.d.seq⟩ : Dt) = xd := by rw [← hxd]
                      rw [hde]
                      obtain ⟨xv, xs⟩ := xd
                      clear bq3 hxd hde
                      have round0 : ∀ (h : keepW ⟨pd, pq⟩ z0 x = false), True := fun _ => trivial
                      clear round0
                      cases hv : hasV z0 ⟨xv, xs⟩
                      all_goals
                        have HV := Lib.hid hv
                        clear hv
                      · by_cases e1 : xv = pd
                        · subst e1
                          by_cases e2 : xs = pq
                          · subst e2
                            have HK0 : Hid (keepW ⟨xv, xs⟩ z0 x = false) := by rw [HKU.out, decide_eq_true rfl]; rfl
                            go_wp2_with fail
                            go_roundw
                            case rel => exact ⟨k + 1, by omega, by go_num, by rw [HNO.out HK0.out], HB.out⟩
                            case measure => simp [intOf]; omega
                          · have b2 : (xs == pq) = false := by simpa using e2
                            have b3 : (xs != pq) = true := by simpa using e2
                            have HK0 : Hid (keepW ⟨xv, pq⟩ z0 x = true) := by rw [HKU.out, decide_eq_false (fun h => e2 (congrArg Dt.seq h)), HV.out]; rfl
                            clear e2
                            go_wp2_with fail
                            refine (has_b true (HHAS.out HK0.out) (PM.out.later HB.out) (by have := HML.out; omega)).mono ?_
                            rintro e w4 ⟨rfl, hb4⟩
                            replace HB := Lib.hid (below_then HB.out hb4)
                            clear hb4 q3 q4 c0 c1 c2 c3 c4 p0 p1 p2 p3 p4 p5 p6 p7 p8 p9 p10 d0 d1 d2 d3 d4
                            go_wp2_with fail
                            go_roundw
                            case rel => exact ⟨k + 1, by omega, by go_num, by rw [HYES.out HK0.out]; go_num, HB.out⟩
                            case measure => simp [intOf]; omega
                        · have b1 : (xv == pd) = false := by simpa using e1
                          have HK0 : Hid (keepW ⟨pd, pq⟩ z0 x = true) := by rw [HKU.out, decide_eq_false (fun h => e1 (congrArg Dt.dev h)), HV.out]; rfl
                          clear e1
                          go_wp2_with fail
                          refine (has_b true (HHAS.out HK0.out) (PM.out.later HB.out) (by have := HML.out; omega)).mono ?_
                          rintro e w4 ⟨rfl, hb4⟩
                          replace HB := Lib.hid (below_then HB.out hb4)
                          clear hb4 q3 q4 c0 c1 c2 c3 c4 p0 p1 p2 p3 p4 p5 p6 p7 p8 p9 p10 d0 d1 d2 d3 d4
                          go_wp2_with fail
                          go_roundw
                          case rel => exact ⟨k + 1, by omega, by go_num, by rw [HYES.out HK0.out]; go_num, HB.out⟩
                          case measure => simp [intOf]; omega
                      · have HK0 : Hid (keepW ⟨pd, pq⟩ z0 x = false) := by rw [HKU.out, HV.out, Bool.not_true, Bool.and_false]; rfl
                        go_wp2_with fail
                        go_roundw
                        case rel => exact ⟨k + 1, by omega, by go_num, by rw [HNO.out HK0.out], HB.out⟩
                        case measure => simp [intOf]; omega
                    · have hkn : k = l1.length := by omega
                      subst hkn
                      have hcn := HCNT.out
                      rw [List.take_of_length_le (Nat.le_refl _)]
                      obtain ⟨N, hN⟩ : ∃ N, (l1.filter (keepW ⟨pd, pq⟩ z0)).length = N := ⟨_, rfl⟩
                      rw [hN] at hcn ⊢
                      have hNk : N ≤ 61 := by have := HML.out; have := LL.out; omega
                      have hmn : ((m.length : Int) == (N : Int) + 1) = true := by simp; omega
                      have hmn2 : (m.length : Int) = (N : Int) + 1 := by omega
                      have HMN := Lib.hid hmn2
                      clear hN hcn hmn2
                      go_wp2_with fail
                      refine (alive_any _).mono ?_
                      rintro e wn ⟨rfl, hb⟩
                      replace HB := Lib.hid (below_then HB.out (by first | exact hb | exact below_alloc_then hb | exact below_alloc_then (below_alloc_then hb)))
                      clear hb c0 c1 c2 c3 c4 p0 p1 p2 p3 p4 p5 p6 p7 p8 p9 p10 d0 d1 d2 d3 d4
                      have c0 := cell_of_box (bx_later HB.out B_c.out) 0 rfl
                      have c1 := cell_of_box (bx_later HB.out B_c.out) 1 rfl
                      have c2 := cell_of_box (bx_later HB.out B_c.out) 2 rfl
                      have c3 := cell_of_box (bx_later HB.out B_c.out) 3 rfl
                      have c4 := cell_of_box (bx_later HB.out B_c.out) 4 rfl
                      have p0 := cell_of_box (bx_later HB.out B_p.out) 0 rfl
                      have p1 := cell_of_box (bx_later HB.out B_p.out) 1 rfl
                      have p2 := cell_of_box (bx_later HB.out B_p.out) 2 rfl
                      have p3 := cell_of_box (bx_later HB.out B_p.out) 3 rfl
                      have p4 := cell_of_box (bx_later HB.out B_p.out) 4 rfl
                      have p5 := cell_of_box (bx_later HB.out B_p.out) 5 rfl
                      have p6 := cell_of_box (bx_later HB.out B_p.out) 6 rfl
                      have p7 := cell_of_box (bx_later HB.out B_p.out) 7 rfl
                      have p8 := cell_of_box (bx_later HB.out B_p.out) 8 rfl
                      have p9 := cell_of_box (bx_later HB.out B_p.out) 9 rfl
                      have p10 := cell_of_box (bx_later HB.out B_p.out) 10 rfl
                      have d0 := cell_of_box (bx_later HB.out B_d.out) 0 rfl
                      have d1 := cell_of_box (bx_later HB.out B_d.out) 1 rfl
                      have d2 := cell_of_box (bx_later HB.out B_d.out) 2 rfl
                      have d3 := cell_of_box (bx_later HB.out B_d.out) 3 rfl
                      have d4 := cell_of_box (bx_later HB.out B_d.out) 4 rfl
                      go_wp2_with fail
                      refine (right_b true HRM.out (PM.out.later HB.out) (by have := HML.out; omega)).mono ?_
                      rintro e wn ⟨rfl, hb⟩
                      replace HB := Lib.hid (below_then HB.out (by first | exact hb | exact below_alloc_then hb | exact below_alloc_then (below_alloc_then hb)))
                      clear hb c0 c1 c2 c3 c4 p0 p1 p2 p3 p4 p5 p6 p7 p8 p9 p10 d0 d1 d2 d3 d4
                      have c0 := cell_of_box (bx_later HB.out B_c.out) 0 rfl
                      have c1 := cell_of_box (bx_later HB.out B_c.out) 1 rfl
                      have c2 := cell_of_box (bx_later HB.out B_c.out) 2 rfl
                      have c3 := cell_of_box (bx_later HB.out B_c.out) 3 rfl
                      have c4 := cell_of_box (bx_later HB.out B_c.out) 4 rfl
                      have p0 := cell_of_box (bx_later HB.out B_p.out) 0 rfl
                      have p1 := cell_of_box (bx_later HB.out B_p.out) 1 rfl
                      have p2 := cell_of_box (bx_later HB.out B_p.out) 2 rfl
                      have p3 := cell_of_box (bx_later HB.out B_p.out) 3 rfl
                      have p4 := cell_of_box (bx_later HB.out B_p.out) 4 rfl
                      have p5 := cell_of_box (bx_later HB.out B_p.out) 5 rfl
                      have p6 := cell_of_box (bx_later HB.out B_p.out) 6 rfl
                      have p7 := cell_of_box (bx_later HB.out B_p.out) 7 rfl
                      have p8 := cell_of_box (bx_later HB.out B_p.out) 8 rfl
                      have p9 := cell_of_box (bx_later HB.out B_p.out) 9 rfl
                      have p10 := cell_of_box (bx_later HB.out B_p.out) 10 rfl
                      have d0 := cell_of_box (bx_later HB.out B_d.out) 0 rfl
                      have d1 := cell_of_box (bx_later HB.out B_d.out) 1 rfl
                      have d2 := cell_of_box (bx_later HB.out B_d.out) 2 rfl
                      have d3 := cell_of_box (bx_later HB.out B_d.out) 3 rfl
                      have d4 := cell_of_box (bx_later HB.out B_d.out) 4 rfl
                      go_wp2_with fail
                      refine (has_b true HHP.out (PM.out.later HB.out) (by have := HML.out; omega)).mono ?_
                      rintro e wn ⟨rfl, hb⟩
                      replace HB := Lib.hid (below_then HB.out (by first | exact hb | exact below_alloc_then hb | exact below_alloc_then (below_alloc_then hb)))
                      clear hb c0 c1 c2 c3 c4 p0 p1 p2 p3 p4 p5 p6 p7 p8 p9 p10 d0 d1 d2 d3 d4
                      have c0 := cell_of_box (bx_later HB.out B_c.out) 0 rfl
                      have c1 := cell_of_box (bx_later HB.out B_c.out) 1 rfl
                      have c2 := cell_of_box (bx_later HB.out B_c.out) 2 rfl
                      have c3 := cell_of_box (bx_later HB.out B_c.out) 3 rfl
                      have c4 := cell_of_box (bx_later HB.out B_c.out) 4 rfl
                      have p0 := cell_of_box (bx_later HB.out B_p.out) 0 rfl
                      have p1 := cell_of_box (bx_later HB.out B_p.out) 1 rfl
                      have p2 := cell_of_box (bx_later HB.out B_p.out) 2 rfl
                      have p3 := cell_of_box (bx_later HB.out B_p.out) 3 rfl
                      have p4 := cell_of_box (bx_later HB.out B_p.out) 4 rfl
                      have p5 := cell_of_box (bx_later HB.out B_p.out) 5 rfl
                      have p6 := cell_of_box (bx_later HB.out B_p.out) 6 rfl
                      have p7 := cell_of_box (bx_later HB.out B_p.out) 7 rfl
                      have p8 := cell_of_box (bx_later HB.out B_p.out) 8 rfl
                      have p9 := cell_of_box (bx_later HB.out B_p.out) 9 rfl
                      have p10 := cell_of_box (bx_later HB.out B_p.out) 10 rfl
                      have d0 := cell_of_box (bx_later HB.out B_d.out) 0 rfl
                      have d1 := cell_of_box (bx_later HB.out B_d.out) 1 rfl
                      have d2 := cell_of_box (bx_later HB.out B_d.out) 2 rfl
                      have d3 := cell_of_box (bx_later HB.out B_d.out) 3 rfl
                      have d4 := cell_of_box (bx_later HB.out B_d.out) 4 rfl
                      go_wp2_with fail
                      go_ret
                      exact ⟨by first | rfl | exact ret_bool (by simp), below_then HB1.out HB.out⟩

set_option maxRecDepth 100000 in
theorem lifted (os : Os) (started : os.Started) (H : Type) (enc : TypeId × Value → H) :
    ReturnsInHanded {} Try.checked os 6 .any (Rows.multiOverSpec.pre6 enc Try.prog Try.f6 Rows.multiOverRow.domain false) (Rows.multiOverSpec.post enc Try.prog Try.f6 false true false false) := by
  refine returnsInHanded_of_change_sized (C := Try.checked) ownKnob_none started (by kernel_rfl) Try.func6
    (ChangeSpec.witness6 (enc := enc) (C := Try.checked) false ⟨#[], #[.agg #[.int .i64 0, .int .i64 0, .int .i64 0, .string ⟨#[]⟩, .slice none 0 0], .agg #[.int .i64 0, .int .i64 0, .string ⟨#[]⟩, .int .i64 0, .int .i64 0, .int .i64 0, .int .i64 0, .int .i64 0, .int .i64 0, .int .i64 0, .bool false], .slice none 0 0], []⟩ 8 (by kernel_rfl) (by kernel_rfl) (by kernel_rfl) (by kernel_rfl)) ?_
  intro W base args ds gs before hval0 hW hcnd hsz0 _
  have hval : ∀ (j : Nat) t v, Try.f6.params[j]? = some t → args[j]? = some v → Value.okWide Try.prog W .any base t v := hval0
  have hW' := hW
  obtain ⟨p, q, hA0, hV, rfl, hfz, hnd⟩ := hW
  have hA : DataW.TrodAll enc Try.prog W 0 (fun _ => true) true Try.f6.params.toList args.toList ds p := hA0
  have hsz : (DataW.weightsEach Try.prog (Try.f6.params.toList ++ Rows.multiOverSpec.plain.varTypes Try.prog) (ds ++ gs)).all (· ≤ reachBytes) = true := hsz0
  rw [Try.params6] at hA hval hsz
  obtain ⟨v0, vs0, d0, ds0, p0, q0, hargs, rfl, rfl, h0, r0r⟩ := trodAll_cons hA
  obtain ⟨v1, vs1, d1, ds1, p1, q1, rfl, rfl, rfl, h1, r1r⟩ := trodAll_cons r0r
  obtain ⟨v2, vs2, d2, ds2, p2, q2, rfl, rfl, rfl, h2, r2r⟩ := trodAll_cons r1r
  obtain ⟨rfl, rfl, rfl⟩ := trodAll_nil r2r
  obtain rfl : args = #[v0, v1, v2] := by cases args; simp_all
  obtain ⟨rfl, rfl⟩ := trodVars_none hV
  have g0 := sized_at hsz (j := 0) rfl rfl
  have g1 := sized_at hsz (j := 1) rfl rfl
  have g2 := sized_at hsz (j := 2) rfl rfl
  obtain ⟨y0_0, y0_1, y0_2, y0_3, rfl, f0_0⟩ := open_cell (hval 0 26 v0 rfl rfl) h0
  obtain ⟨y1_0, rfl⟩ := open_part (hval 1 32 v1 rfl rfl) h1
  obtain ⟨y2_0, f2_0⟩ := open_vec (hval 2 34 v2 rfl rfl) h2
  refine (walk y0_0 y0_1 y0_2 y0_3 y1_0 v2 y2_0 W f0_0 f2_0).mono fun e W' ⟨he, hg⟩ => ⟨_, he, law_post laidOut (by kernel_rfl) rfl Try.underlying4 rfl rfl hW' hg⟩

theorem over : Rows.multiOverRow.holds Try.pinned (OpenSpec.ofChange Rows.multiOverSpec) :=
  OpenClaim.holds_of_wide 6 Try.f6 rfl rfl rfl rfl rfl rfl rfl ⟨rfl, rfl, rfl, rfl, rfl⟩ rfl rfl rfl rfl rfl (by kernel_rfl) Try.func6 (by kernel_rfl)
    (of_decide_eq_true (by kernel_rfl)) (by unfold Func.isWrapper; first | (rw [if_pos (by decide +kernel)]; kernel_rfl) | (rw [if_neg (by decide +kernel)]; exact ⟨rfl, rfl⟩))
    (fun os started H enc _ => lifted os started H enc)

/-- THE STATEMENT. -/
theorem proved : Rows.MultiOverSaid :=
  over
#print axioms proved
end Go.Proofs.Ytagbaejgjhmokaa.multiOver
