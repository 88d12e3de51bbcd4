/-
  The law MultiBeside.
-/
import Derived.Test.YtagbaejgjhmokaaBY
namespace Go.Proofs.Ytagbaejgjhmokaa.multiBeside
open Go.ChangeShapes Go.WideShapes Go.ChangeAt Go.RowKit Go.Sort Go.BigFrame Go.Proofs.Ytagbaejgjhmokaa
open Go.ChangeMaps (open_string shut_string)

set_option maxRecDepth 100000 in
set_option maxHeartbeats 4000000 in
theorem walk (kd1 : Int) (cv1 : Val) (va1 : Value) (l1 : List Prt) (p q : Prt) (vz0 vz1 : Value) (z0 z1 : List Int) (w : World) (ha1 : PRd w va1 l1) (hz0 : Rd w vz0 z0.length (z0.map ic)) (hz1 : Rd w vz1 z1.length (z1.map ic)) :
    Calls Try.prog 7 #[.agg #[.int .i64 kd1, .int .i64 cv1.k, .int .i64 cv1.n, .string cv1.s, va1], .agg #[.int .i64 p.v.k, .int .i64 p.v.n, .string p.v.s, .int .i64 p.d.dev, .int .i64 p.d.seq, .int .i64 p.at_, .int .i64 p.tm, .int .i64 p.aft.dev, .int .i64 p.aft.seq, .int .i64 p.aat, .bool p.gone, .int .i64 q.v.k, .int .i64 q.v.n, .string q.v.s, .int .i64 q.d.dev, .int .i64 q.d.seq, .int .i64 q.at_, .int .i64 q.tm, .int .i64 q.aft.dev, .int .i64 q.aft.seq, .int .i64 q.aat, .bool q.gone], .agg #[vz0, vz1]] w fun e w' => e = .returned (.bool true) ∧ Below w.heap.size w w' := by
  obtain ⟨ck1, cn1, cs1⟩ := cv1
  obtain ⟨ao1, ca1, rfl, -, hcm1, -, -⟩ := id ha1
  unfold maxLen at hcm1
  obtain ⟨zo0, zc0, rfl, -, hzm0, -, -⟩ := id hz0
  unfold maxLen at hzm0
  obtain ⟨zo1, zc1, rfl, -, hzm1, -, -⟩ := id hz1
  unfold maxLen at hzm1
  obtain ⟨⟨pk, pn, ps⟩, ⟨pd, pq⟩, pat, ptm, ⟨pfd, pfq⟩, paa, pg⟩ := p
  obtain ⟨⟨qk, qn, qs⟩, ⟨qd, qq⟩, qat, qtm, ⟨qfd, qfq⟩, qaa, qg⟩ := q
  obtain ⟨w1, hw1⟩ : ∃ w1, ((w.alloc (.cells #[(.int .i64 kd1), (.int .i64 ck1), (.int .i64 cn1), (.string cs1), (.slice ao1 l1.length ca1)] 26)).alloc (.cells #[(.int .i64 pk), (.int .i64 pn), (.string ps), (.int .i64 pd), (.int .i64 pq), (.int .i64 pat), (.int .i64 ptm), (.int .i64 pfd), (.int .i64 pfq), (.int .i64 paa), (.bool pg), (.int .i64 qk), (.int .i64 qn), (.string qs), (.int .i64 qd), (.int .i64 qq), (.int .i64 qat), (.int .i64 qtm), (.int .i64 qfd), (.int .i64 qfq), (.int .i64 qaa), (.bool qg)] 44)).alloc (.cells #[(.slice zo0 z0.length zc0), (.slice zo1 z1.length zc1)] 38) = w1 := ⟨_, rfl⟩
  have hb1 : Below w.heap.size w w1 := by rw [← hw1]; exact below_alloc_then (below_alloc_then (below_alloc _ _))
  have b_c : Bx w1 (w.heap.size) #[(.int .i64 kd1), (.int .i64 ck1), (.int .i64 cn1), (.string cs1), (.slice ao1 l1.length ca1)] 26 := by rw [← hw1]; exact bx_later (below_alloc_then (below_alloc _ _)) (bx_new (by simp))
  have b_r : Bx w1 (w.heap.size + 1) #[(.int .i64 pk), (.int .i64 pn), (.string ps), (.int .i64 pd), (.int .i64 pq), (.int .i64 pat), (.int .i64 ptm), (.int .i64 pfd), (.int .i64 pfq), (.int .i64 paa), (.bool pg), (.int .i64 qk), (.int .i64 qn), (.string qs), (.int .i64 qd), (.int .i64 qq), (.int .i64 qat), (.int .i64 qtm), (.int .i64 qfd), (.int .i64 qfq), (.int .i64 qaa), (.bool qg)] 44 := by rw [← hw1]; exact bx_later (below_alloc _ _) (bx_new (by simp))
  have b_y : Bx w1 (w.heap.size + 2) #[(.slice zo0 z0.length zc0), (.slice zo1 z1.length zc1)] 38 := by rw [← hw1]; exact bx_new (by simp)
  have HW := Lib.hid hw1
  have HB1 := Lib.hid hb1
  have HB := Lib.hid (Below.refl w1.heap.size w1)
  have B_c := Lib.hid b_c
  have B_r := Lib.hid b_r
  have B_y := Lib.hid b_y
  have c0 := cell_of_box (bx_later HB.out B_c.out) 0 rfl
  have c1 := cell_of_box (bx_later HB.out B_c.out) 1 rfl
  have c2 := cell_of_box (bx_later HB.out B_c.out) 2 rfl
  have c3 := cell_of_box (bx_later HB.out B_c.out) 3 rfl
  have c4 := cell_of_box (bx_later HB.out B_c.out) 4 rfl
  have r0 := cell_of_box (bx_later HB.out B_r.out) 0 rfl
  have r1 := cell_of_box (bx_later HB.out B_r.out) 1 rfl
  have r2 := cell_of_box (bx_later HB.out B_r.out) 2 rfl
  have r3 := cell_of_box (bx_later HB.out B_r.out) 3 rfl
  have r4 := cell_of_box (bx_later HB.out B_r.out) 4 rfl
  have r5 := cell_of_box (bx_later HB.out B_r.out) 5 rfl
  have r6 := cell_of_box (bx_later HB.out B_r.out) 6 rfl
  have r7 := cell_of_box (bx_later HB.out B_r.out) 7 rfl
  have r8 := cell_of_box (bx_later HB.out B_r.out) 8 rfl
  have r9 := cell_of_box (bx_later HB.out B_r.out) 9 rfl
  have r10 := cell_of_box (bx_later HB.out B_r.out) 10 rfl
  have r11 := cell_of_box (bx_later HB.out B_r.out) 11 rfl
  have r12 := cell_of_box (bx_later HB.out B_r.out) 12 rfl
  have r13 := cell_of_box (bx_later HB.out B_r.out) 13 rfl
  have r14 := cell_of_box (bx_later HB.out B_r.out) 14 rfl
  have r15 := cell_of_box (bx_later HB.out B_r.out) 15 rfl
  have r16 := cell_of_box (bx_later HB.out B_r.out) 16 rfl
  have r17 := cell_of_box (bx_later HB.out B_r.out) 17 rfl
  have r18 := cell_of_box (bx_later HB.out B_r.out) 18 rfl
  have r19 := cell_of_box (bx_later HB.out B_r.out) 19 rfl
  have r20 := cell_of_box (bx_later HB.out B_r.out) 20 rfl
  have r21 := cell_of_box (bx_later HB.out B_r.out) 21 rfl
  have y0 := cell_of_box (bx_later HB.out B_y.out) 0 rfl
  have y1 := cell_of_box (bx_later HB.out B_y.out) 1 rfl
  clear hw1 hb1 b_c b_r b_y
  have P1 := Lib.hid (ha1.later HB1.out)
  have Z0 := Lib.hid (hz0.later HB1.out)
  have Z1 := Lib.hid (hz1.later HB1.out)
  clear ha1 hz0 hz1
  cases hf0 : decide ((l1.length : Int) ≤ 60)
  all_goals
    have F0 := Lib.hid hf0
  · clear hf0
    go_enter Try.func7, Try.ntmps7
    go_wp2_with fail
    rw [HW.out]
    go_wp2_with fail
    refine (few_p false F0.out (P1.out.later HB.out)).mono ?_
    rintro e wn ⟨rfl, hb⟩
    replace HB := Lib.hid (below_then HB.out (by first | exact hb | exact below_alloc_then hb | exact below_alloc_then (below_alloc_then hb)))
    clear hb c0 c1 c2 c3 c4 r0 r1 r2 r3 r4 r5 r6 r7 r8 r9 r10 r11 r12 r13 r14 r15 r16 r17 r18 r19 r20 r21 y0 y1
    have c0 := cell_of_box (bx_later HB.out B_c.out) 0 rfl
    have c1 := cell_of_box (bx_later HB.out B_c.out) 1 rfl
    have c2 := cell_of_box (bx_later HB.out B_c.out) 2 rfl
    have c3 := cell_of_box (bx_later HB.out B_c.out) 3 rfl
    have c4 := cell_of_box (bx_later HB.out B_c.out) 4 rfl
    have r0 := cell_of_box (bx_later HB.out B_r.out) 0 rfl
    have r1 := cell_of_box (bx_later HB.out B_r.out) 1 rfl
    have r2 := cell_of_box (bx_later HB.out B_r.out) 2 rfl
    have r3 := cell_of_box (bx_later HB.out B_r.out) 3 rfl
    have r4 := cell_of_box (bx_later HB.out B_r.out) 4 rfl
    have r5 := cell_of_box (bx_later HB.out B_r.out) 5 rfl
    have r6 := cell_of_box (bx_later HB.out B_r.out) 6 rfl
    have r7 := cell_of_box (bx_later HB.out B_r.out) 7 rfl
    have r8 := cell_of_box (bx_later HB.out B_r.out) 8 rfl
    have r9 := cell_of_box (bx_later HB.out B_r.out) 9 rfl
    have r10 := cell_of_box (bx_later HB.out B_r.out) 10 rfl
    have r11 := cell_of_box (bx_later HB.out B_r.out) 11 rfl
    have r12 := cell_of_box (bx_later HB.out B_r.out) 12 rfl
    have r13 := cell_of_box (bx_later HB.out B_r.out) 13 rfl
    have r14 := cell_of_box (bx_later HB.out B_r.out) 14 rfl
    have r15 := cell_of_box (bx_later HB.out B_r.out) 15 rfl
    have r16 := cell_of_box (bx_later HB.out B_r.out) 16 rfl
    have r17 := cell_of_box (bx_later HB.out B_r.out) 17 rfl
    have r18 := cell_of_box (bx_later HB.out B_r.out) 18 rfl
    have r19 := cell_of_box (bx_later HB.out B_r.out) 19 rfl
    have r20 := cell_of_box (bx_later HB.out B_r.out) 20 rfl
    have r21 := cell_of_box (bx_later HB.out B_r.out) 21 rfl
    have y0 := cell_of_box (bx_later HB.out B_y.out) 0 rfl
    have y1 := cell_of_box (bx_later HB.out B_y.out) 1 rfl
    go_wp2_with fail
    refine (alive_any _).mono ?_
    rintro e wn ⟨rfl, hb⟩
    replace HB := Lib.hid (below_then HB.out (by first | exact hb | exact below_alloc_then hb | exact below_alloc_then (below_alloc_then hb)))
    clear hb c0 c1 c2 c3 c4 r0 r1 r2 r3 r4 r5 r6 r7 r8 r9 r10 r11 r12 r13 r14 r15 r16 r17 r18 r19 r20 r21 y0 y1
    have c0 := cell_of_box (bx_later HB.out B_c.out) 0 rfl
    have c1 := cell_of_box (bx_later HB.out B_c.out) 1 rfl
    have c2 := cell_of_box (bx_later HB.out B_c.out) 2 rfl
    have c3 := cell_of_box (bx_later HB.out B_c.out) 3 rfl
    have c4 := cell_of_box (bx_later HB.out B_c.out) 4 rfl
    have r0 := cell_of_box (bx_later HB.out B_r.out) 0 rfl
    have r1 := cell_of_box (bx_later HB.out B_r.out) 1 rfl
    have r2 := cell_of_box (bx_later HB.out B_r.out) 2 rfl
    have r3 := cell_of_box (bx_later HB.out B_r.out) 3 rfl
    have r4 := cell_of_box (bx_later HB.out B_r.out) 4 rfl
    have r5 := cell_of_box (bx_later HB.out B_r.out) 5 rfl
    have r6 := cell_of_box (bx_later HB.out B_r.out) 6 rfl
    have r7 := cell_of_box (bx_later HB.out B_r.out) 7 rfl
    have r8 := cell_of_box (bx_later HB.out B_r.out) 8 rfl
    have r9 := cell_of_box (bx_later HB.out B_r.out) 9 rfl
    have r10 := cell_of_box (bx_later HB.out B_r.out) 10 rfl
    have r11 := cell_of_box (bx_later HB.out B_r.out) 11 rfl
    have r12 := cell_of_box (bx_later HB.out B_r.out) 12 rfl
    have r13 := cell_of_box (bx_later HB.out B_r.out) 13 rfl
    have r14 := cell_of_box (bx_later HB.out B_r.out) 14 rfl
    have r15 := cell_of_box (bx_later HB.out B_r.out) 15 rfl
    have r16 := cell_of_box (bx_later HB.out B_r.out) 16 rfl
    have r17 := cell_of_box (bx_later HB.out B_r.out) 17 rfl
    have r18 := cell_of_box (bx_later HB.out B_r.out) 18 rfl
    have r19 := cell_of_box (bx_later HB.out B_r.out) 19 rfl
    have r20 := cell_of_box (bx_later HB.out B_r.out) 20 rfl
    have r21 := cell_of_box (bx_later HB.out B_r.out) 21 rfl
    have y0 := cell_of_box (bx_later HB.out B_y.out) 0 rfl
    have y1 := cell_of_box (bx_later HB.out B_y.out) 1 rfl
    go_wp2_with fail
    go_ret
    exact ⟨by first | rfl | exact ret_bool (by simp), below_then HB1.out HB.out⟩
  · have hl0 : l1.length ≤ 60 := by have := of_decide_eq_true hf0; omega
    clear hf0
    by_cases hlen1 : 100 < z0.length
    · have g1z0 : decide (100 < (z0.length : Int)) = true := decide_eq_true (by omega)
      have g2z0 : decide (100 < z0.length) = true := decide_eq_true (by omega)
      go_enter Try.func7, Try.ntmps7
      go_wp2_with fail
      rw [HW.out]
      go_wp2_with fail
      refine (few_p true F0.out (P1.out.later HB.out)).mono ?_
      rintro e wn ⟨rfl, hb⟩
      replace HB := Lib.hid (below_then HB.out (by first | exact hb | exact below_alloc_then hb | exact below_alloc_then (below_alloc_then hb)))
      clear hb c0 c1 c2 c3 c4 r0 r1 r2 r3 r4 r5 r6 r7 r8 r9 r10 r11 r12 r13 r14 r15 r16 r17 r18 r19 r20 r21 y0 y1
      have c0 := cell_of_box (bx_later HB.out B_c.out) 0 rfl
      have c1 := cell_of_box (bx_later HB.out B_c.out) 1 rfl
      have c2 := cell_of_box (bx_later HB.out B_c.out) 2 rfl
      have c3 := cell_of_box (bx_later HB.out B_c.out) 3 rfl
      have c4 := cell_of_box (bx_later HB.out B_c.out) 4 rfl
      have r0 := cell_of_box (bx_later HB.out B_r.out) 0 rfl
      have r1 := cell_of_box (bx_later HB.out B_r.out) 1 rfl
      have r2 := cell_of_box (bx_later HB.out B_r.out) 2 rfl
      have r3 := cell_of_box (bx_later HB.out B_r.out) 3 rfl
      have r4 := cell_of_box (bx_later HB.out B_r.out) 4 rfl
      have r5 := cell_of_box (bx_later HB.out B_r.out) 5 rfl
      have r6 := cell_of_box (bx_later HB.out B_r.out) 6 rfl
      have r7 := cell_of_box (bx_later HB.out B_r.out) 7 rfl
      have r8 := cell_of_box (bx_later HB.out B_r.out) 8 rfl
      have r9 := cell_of_box (bx_later HB.out B_r.out) 9 rfl
      have r10 := cell_of_box (bx_later HB.out B_r.out) 10 rfl
      have r11 := cell_of_box (bx_later HB.out B_r.out) 11 rfl
      have r12 := cell_of_box (bx_later HB.out B_r.out) 12 rfl
      have r13 := cell_of_box (bx_later HB.out B_r.out) 13 rfl
      have r14 := cell_of_box (bx_later HB.out B_r.out) 14 rfl
      have r15 := cell_of_box (bx_later HB.out B_r.out) 15 rfl
      have r16 := cell_of_box (bx_later HB.out B_r.out) 16 rfl
      have r17 := cell_of_box (bx_later HB.out B_r.out) 17 rfl
      have r18 := cell_of_box (bx_later HB.out B_r.out) 18 rfl
      have r19 := cell_of_box (bx_later HB.out B_r.out) 19 rfl
      have r20 := cell_of_box (bx_later HB.out B_r.out) 20 rfl
      have r21 := cell_of_box (bx_later HB.out B_r.out) 21 rfl
      have y0 := cell_of_box (bx_later HB.out B_y.out) 0 rfl
      have y1 := cell_of_box (bx_later HB.out B_y.out) 1 rfl
      go_wp2_with fail
      refine (alive_any _).mono ?_
      rintro e wn ⟨rfl, hb⟩
      replace HB := Lib.hid (below_then HB.out (by first | exact hb | exact below_alloc_then hb | exact below_alloc_then (below_alloc_then hb)))
      clear hb c0 c1 c2 c3 c4 r0 r1 r2 r3 r4 r5 r6 r7 r8 r9 r10 r11 r12 r13 r14 r15 r16 r17 r18 r19 r20 r21 y0 y1
      have c0 := cell_of_box (bx_later HB.out B_c.out) 0 rfl
      have c1 := cell_of_box (bx_later HB.out B_c.out) 1 rfl
      have c2 := cell_of_box (bx_later HB.out B_c.out) 2 rfl
      have c3 := cell_of_box (bx_later HB.out B_c.out) 3 rfl
      have c4 := cell_of_box (bx_later HB.out B_c.out) 4 rfl
      have r0 := cell_of_box (bx_later HB.out B_r.out) 0 rfl
      have r1 := cell_of_box (bx_later HB.out B_r.out) 1 rfl
      have r2 := cell_of_box (bx_later HB.out B_r.out) 2 rfl
      have r3 := cell_of_box (bx_later HB.out B_r.out) 3 rfl
      have r4 := cell_of_box (bx_later HB.out B_r.out) 4 rfl
      have r5 := cell_of_box (bx_later HB.out B_r.out) 5 rfl
      have r6 := cell_of_box (bx_later HB.out B_r.out) 6 rfl
      have r7 := cell_of_box (bx_later HB.out B_r.out) 7 rfl
      have r8 := cell_of_box (bx_later HB.out B_r.out) 8 rfl
      have r9 := cell_of_box (bx_later HB.out B_r.out) 9 rfl
      have r10 := cell_of_box (bx_later HB.out B_r.out) 10 rfl
      have r11 := cell_of_box (bx_later HB.out B_r.out) 11 rfl
      have r12 := cell_of_box (bx_later HB.out B_r.out) 12 rfl
      have r13 := cell_of_box (bx_later HB.out B_r.out) 13 rfl
      have r14 := cell_of_box (bx_later HB.out B_r.out) 14 rfl
      have r15 := cell_of_box (bx_later HB.out B_r.out) 15 rfl
      have r16 := cell_of_box (bx_later HB.out B_r.out) 16 rfl
      have r17 := cell_of_box (bx_later HB.out B_r.out) 17 rfl
      have r18 := cell_of_box (bx_later HB.out B_r.out) 18 rfl
      have r19 := cell_of_box (bx_later HB.out B_r.out) 19 rfl
      have r20 := cell_of_box (bx_later HB.out B_r.out) 20 rfl
      have r21 := cell_of_box (bx_later HB.out B_r.out) 21 rfl
      have y0 := cell_of_box (bx_later HB.out B_y.out) 0 rfl
      have y1 := cell_of_box (bx_later HB.out B_y.out) 1 rfl
      go_wp2_with fail
      go_ret
      exact ⟨by first | rfl | exact ret_bool (by simp), below_then HB1.out HB.out⟩
    · have g1z0 : decide (100 < (z0.length : Int)) = false := decide_eq_false (by omega)
      have g2z0 : decide (100 < z0.length) = false := decide_eq_false (by omega)
      by_cases hlen2 : 100 < z1.length
      · have g1z1 : decide (100 < (z1.length : Int)) = true := decide_eq_true (by omega)
        have g2z1 : decide (100 < z1.length) = true := decide_eq_true (by omega)
        go_enter Try.func7, Try.ntmps7
        go_wp2_with fail
        rw [HW.out]
        go_wp2_with fail
        refine (few_p true F0.out (P1.out.later HB.out)).mono ?_
        rintro e wn ⟨rfl, hb⟩
        replace HB := Lib.hid (below_then HB.out (by first | exact hb | exact below_alloc_then hb | exact below_alloc_then (below_alloc_then hb)))
        clear hb c0 c1 c2 c3 c4 r0 r1 r2 r3 r4 r5 r6 r7 r8 r9 r10 r11 r12 r13 r14 r15 r16 r17 r18 r19 r20 r21 y0 y1
        have c0 := cell_of_box (bx_later HB.out B_c.out) 0 rfl
        have c1 := cell_of_box (bx_later HB.out B_c.out) 1 rfl
        have c2 := cell_of_box (bx_later HB.out B_c.out) 2 rfl
        have c3 := cell_of_box (bx_later HB.out B_c.out) 3 rfl
        have c4 := cell_of_box (bx_later HB.out B_c.out) 4 rfl
        have r0 := cell_of_box (bx_later HB.out B_r.out) 0 rfl
        have r1 := cell_of_box (bx_later HB.out B_r.out) 1 rfl
        have r2 := cell_of_box (bx_later HB.out B_r.out) 2 rfl
        have r3 := cell_of_box (bx_later HB.out B_r.out) 3 rfl
        have r4 := cell_of_box (bx_later HB.out B_r.out) 4 rfl
        have r5 := cell_of_box (bx_later HB.out B_r.out) 5 rfl
        have r6 := cell_of_box (bx_later HB.out B_r.out) 6 rfl
        have r7 := cell_of_box (bx_later HB.out B_r.out) 7 rfl
        have r8 := cell_of_box (bx_later HB.out B_r.out) 8 rfl
        have r9 := cell_of_box (bx_later HB.out B_r.out) 9 rfl
        have r10 := cell_of_box (bx_later HB.out B_r.out) 10 rfl
        have r11 := cell_of_box (bx_later HB.out B_r.out) 11 rfl
        have r12 := cell_of_box (bx_later HB.out B_r.out) 12 rfl
        have r13 := cell_of_box (bx_later HB.out B_r.out) 13 rfl
        have r14 := cell_of_box (bx_later HB.out B_r.out) 14 rfl
        have r15 := cell_of_box (bx_later HB.out B_r.out) 15 rfl
        have r16 := cell_of_box (bx_later HB.out B_r.out) 16 rfl
        have r17 := cell_of_box (bx_later HB.out B_r.out) 17 rfl
        have r18 := cell_of_box (bx_later HB.out B_r.out) 18 rfl
        have r19 := cell_of_box (bx_later HB.out B_r.out) 19 rfl
        have r20 := cell_of_box (bx_later HB.out B_r.out) 20 rfl
        have r21 := cell_of_box (bx_later HB.out B_r.out) 21 rfl
        have y0 := cell_of_box (bx_later HB.out B_y.out) 0 rfl
        have y1 := cell_of_box (bx_later HB.out B_y.out) 1 rfl
        go_wp2_with fail
        refine (alive_any _).mono ?_
        rintro e wn ⟨rfl, hb⟩
        replace HB := Lib.hid (below_then HB.out (by first | exact hb | exact below_alloc_then hb | exact below_alloc_then (below_alloc_then hb)))
        clear hb c0 c1 c2 c3 c4 r0 r1 r2 r3 r4 r5 r6 r7 r8 r9 r10 r11 r12 r13 r14 r15 r16 r17 r18 r19 r20 r21 y0 y1
        have c0 := cell_of_box (bx_later HB.out B_c.out) 0 rfl
        have c1 := cell_of_box (bx_later HB.out B_c.out) 1 rfl
        have c2 := cell_of_box (bx_later HB.out B_c.out) 2 rfl
        have c3 := cell_of_box (bx_later HB.out B_c.out) 3 rfl
        have c4 := cell_of_box (bx_later HB.out B_c.out) 4 rfl
        have r0 := cell_of_box (bx_later HB.out B_r.out) 0 rfl
        have r1 := cell_of_box (bx_later HB.out B_r.out) 1 rfl
        have r2 := cell_of_box (bx_later HB.out B_r.out) 2 rfl
        have r3 := cell_of_box (bx_later HB.out B_r.out) 3 rfl
        have r4 := cell_of_box (bx_later HB.out B_r.out) 4 rfl
        have r5 := cell_of_box (bx_later HB.out B_r.out) 5 rfl
        have r6 := cell_of_box (bx_later HB.out B_r.out) 6 rfl
        have r7 := cell_of_box (bx_later HB.out B_r.out) 7 rfl
        have r8 := cell_of_box (bx_later HB.out B_r.out) 8 rfl
        have r9 := cell_of_box (bx_later HB.out B_r.out) 9 rfl
        have r10 := cell_of_box (bx_later HB.out B_r.out) 10 rfl
        have r11 := cell_of_box (bx_later HB.out B_r.out) 11 rfl
        have r12 := cell_of_box (bx_later HB.out B_r.out) 12 rfl
        have r13 := cell_of_box (bx_later HB.out B_r.out) 13 rfl
        have r14 := cell_of_box (bx_later HB.out B_r.out) 14 rfl
        have r15 := cell_of_box (bx_later HB.out B_r.out) 15 rfl
        have r16 := cell_of_box (bx_later HB.out B_r.out) 16 rfl
        have r17 := cell_of_box (bx_later HB.out B_r.out) 17 rfl
        have r18 := cell_of_box (bx_later HB.out B_r.out) 18 rfl
        have r19 := cell_of_box (bx_later HB.out B_r.out) 19 rfl
        have r20 := cell_of_box (bx_later HB.out B_r.out) 20 rfl
        have r21 := cell_of_box (bx_later HB.out B_r.out) 21 rfl
        have y0 := cell_of_box (bx_later HB.out B_y.out) 0 rfl
        have y1 := cell_of_box (bx_later HB.out B_y.out) 1 rfl
        go_wp2_with fail
        go_ret
        exact ⟨by first | rfl | exact ret_bool (by simp), below_then HB1.out HB.out⟩
      · have g1z1 : decide (100 < (z1.length : Int)) = false := decide_eq_false (by omega)
        have g2z1 : decide (100 < z1.length) = false := decide_eq_false (by omega)
        cases hr3 : rcB kd1 ⟨ck1, cn1, cs1⟩ l1
        all_goals
          have F3 := Lib.hid hr3
          clear hr3
        · go_enter Try.func7, Try.ntmps7
          go_wp2_with fail
          rw [HW.out]
          go_wp2_with fail
          refine (few_p true F0.out (P1.out.later HB.out)).mono ?_
          rintro e wn ⟨rfl, hb⟩
          replace HB := Lib.hid (below_then HB.out (by first | exact hb | exact below_alloc_then hb | exact below_alloc_then (below_alloc_then hb)))
          clear hb c0 c1 c2 c3 c4 r0 r1 r2 r3 r4 r5 r6 r7 r8 r9 r10 r11 r12 r13 r14 r15 r16 r17 r18 r19 r20 r21 y0 y1
          have c0 := cell_of_box (bx_later HB.out B_c.out) 0 rfl
          have c1 := cell_of_box (bx_later HB.out B_c.out) 1 rfl
          have c2 := cell_of_box (bx_later HB.out B_c.out) 2 rfl
          have c3 := cell_of_box (bx_later HB.out B_c.out) 3 rfl
          have c4 := cell_of_box (bx_later HB.out B_c.out) 4 rfl
          have r0 := cell_of_box (bx_later HB.out B_r.out) 0 rfl
          have r1 := cell_of_box (bx_later HB.out B_r.out) 1 rfl
          have r2 := cell_of_box (bx_later HB.out B_r.out) 2 rfl
          have r3 := cell_of_box (bx_later HB.out B_r.out) 3 rfl
          have r4 := cell_of_box (bx_later HB.out B_r.out) 4 rfl
          have r5 := cell_of_box (bx_later HB.out B_r.out) 5 rfl
          have r6 := cell_of_box (bx_later HB.out B_r.out) 6 rfl
          have r7 := cell_of_box (bx_later HB.out B_r.out) 7 rfl
          have r8 := cell_of_box (bx_later HB.out B_r.out) 8 rfl
          have r9 := cell_of_box (bx_later HB.out B_r.out) 9 rfl
          have r10 := cell_of_box (bx_later HB.out B_r.out) 10 rfl
          have r11 := cell_of_box (bx_later HB.out B_r.out) 11 rfl
          have r12 := cell_of_box (bx_later HB.out B_r.out) 12 rfl
          have r13 := cell_of_box (bx_later HB.out B_r.out) 13 rfl
          have r14 := cell_of_box (bx_later HB.out B_r.out) 14 rfl
          have r15 := cell_of_box (bx_later HB.out B_r.out) 15 rfl
          have r16 := cell_of_box (bx_later HB.out B_r.out) 16 rfl
          have r17 := cell_of_box (bx_later HB.out B_r.out) 17 rfl
          have r18 := cell_of_box (bx_later HB.out B_r.out) 18 rfl
          have r19 := cell_of_box (bx_later HB.out B_r.out) 19 rfl
          have r20 := cell_of_box (bx_later HB.out B_r.out) 20 rfl
          have r21 := cell_of_box (bx_later HB.out B_r.out) 21 rfl
          have y0 := cell_of_box (bx_later HB.out B_y.out) 0 rfl
          have y1 := cell_of_box (bx_later HB.out B_y.out) 1 rfl
          go_wp2_with fail
          refine (right_b false F3.out (P1.out.later HB.out) (by omega)).mono ?_
          rintro e wn ⟨rfl, hb⟩
          replace HB := Lib.hid (below_then HB.out (by first | exact hb | exact below_alloc_then hb | exact below_alloc_then (below_alloc_then hb)))
          clear hb c0 c1 c2 c3 c4 r0 r1 r2 r3 r4 r5 r6 r7 r8 r9 r10 r11 r12 r13 r14 r15 r16 r17 r18 r19 r20 r21 y0 y1
          have c0 := cell_of_box (bx_later HB.out B_c.out) 0 rfl
          have c1 := cell_of_box (bx_later HB.out B_c.out) 1 rfl
          have c2 := cell_of_box (bx_later HB.out B_c.out) 2 rfl
          have c3 := cell_of_box (bx_later HB.out B_c.out) 3 rfl
          have c4 := cell_of_box (bx_later HB.out B_c.out) 4 rfl
          have r0 := cell_of_box (bx_later HB.out B_r.out) 0 rfl
          have r1 := cell_of_box (bx_later HB.out B_r.out) 1 rfl
          have r2 := cell_of_box (bx_later HB.out B_r.out) 2 rfl
          have r3 := cell_of_box (bx_later HB.out B_r.out) 3 rfl
          have r4 := cell_of_box (bx_later HB.out B_r.out) 4 rfl
          have r5 := cell_of_box (bx_later HB.out B_r.out) 5 rfl
          have r6 := cell_of_box (bx_later HB.out B_r.out) 6 rfl
          have r7 := cell_of_box (bx_later HB.out B_r.out) 7 rfl
          have r8 := cell_of_box (bx_later HB.out B_r.out) 8 rfl
          have r9 := cell_of_box (bx_later HB.out B_r.out) 9 rfl
          have r10 := cell_of_box (bx_later HB.out B_r.out) 10 rfl
          have r11 := cell_of_box (bx_later HB.out B_r.out) 11 rfl
          have r12 := cell_of_box (bx_later HB.out B_r.out) 12 rfl
          have r13 := cell_of_box (bx_later HB.out B_r.out) 13 rfl
          have r14 := cell_of_box (bx_later HB.out B_r.out) 14 rfl
          have r15 := cell_of_box (bx_later HB.out B_r.out) 15 rfl
          have r16 := cell_of_box (bx_later HB.out B_r.out) 16 rfl
          have r17 := cell_of_box (bx_later HB.out B_r.out) 17 rfl
          have r18 := cell_of_box (bx_later HB.out B_r.out) 18 rfl
          have r19 := cell_of_box (bx_later HB.out B_r.out) 19 rfl
          have r20 := cell_of_box (bx_later HB.out B_r.out) 20 rfl
          have r21 := cell_of_box (bx_later HB.out B_r.out) 21 rfl
          have y0 := cell_of_box (bx_later HB.out B_y.out) 0 rfl
          have y1 := cell_of_box (bx_later HB.out B_y.out) 1 rfl
          go_wp2_with fail
          refine (alive_any _).mono ?_
          rintro e wn ⟨rfl, hb⟩
          replace HB := Lib.hid (below_then HB.out (by first | exact hb | exact below_alloc_then hb | exact below_alloc_then (below_alloc_then hb)))
          clear hb c0 c1 c2 c3 c4 r0 r1 r2 r3 r4 r5 r6 r7 r8 r9 r10 r11 r12 r13 r14 r15 r16 r17 r18 r19 r20 r21 y0 y1
          have c0 := cell_of_box (bx_later HB.out B_c.out) 0 rfl
          have c1 := cell_of_box (bx_later HB.out B_c.out) 1 rfl
          have c2 := cell_of_box (bx_later HB.out B_c.out) 2 rfl
          have c3 := cell_of_box (bx_later HB.out B_c.out) 3 rfl
          have c4 := cell_of_box (bx_later HB.out B_c.out) 4 rfl
          have r0 := cell_of_box (bx_later HB.out B_r.out) 0 rfl
          have r1 := cell_of_box (bx_later HB.out B_r.out) 1 rfl
          have r2 := cell_of_box (bx_later HB.out B_r.out) 2 rfl
          have r3 := cell_of_box (bx_later HB.out B_r.out) 3 rfl
          have r4 := cell_of_box (bx_later HB.out B_r.out) 4 rfl
          have r5 := cell_of_box (bx_later HB.out B_r.out) 5 rfl
          have r6 := cell_of_box (bx_later HB.out B_r.out) 6 rfl
          have r7 := cell_of_box (bx_later HB.out B_r.out) 7 rfl
          have r8 := cell_of_box (bx_later HB.out B_r.out) 8 rfl
          have r9 := cell_of_box (bx_later HB.out B_r.out) 9 rfl
          have r10 := cell_of_box (bx_later HB.out B_r.out) 10 rfl
          have r11 := cell_of_box (bx_later HB.out B_r.out) 11 rfl
          have r12 := cell_of_box (bx_later HB.out B_r.out) 12 rfl
          have r13 := cell_of_box (bx_later HB.out B_r.out) 13 rfl
          have r14 := cell_of_box (bx_later HB.out B_r.out) 14 rfl
          have r15 := cell_of_box (bx_later HB.out B_r.out) 15 rfl
          have r16 := cell_of_box (bx_later HB.out B_r.out) 16 rfl
          have r17 := cell_of_box (bx_later HB.out B_r.out) 17 rfl
          have r18 := cell_of_box (bx_later HB.out B_r.out) 18 rfl
          have r19 := cell_of_box (bx_later HB.out B_r.out) 19 rfl
          have r20 := cell_of_box (bx_later HB.out B_r.out) 20 rfl
          have r21 := cell_of_box (bx_later HB.out B_r.out) 21 rfl
          have y0 := cell_of_box (bx_later HB.out B_y.out) 0 rfl
          have y1 := cell_of_box (bx_later HB.out B_y.out) 1 rfl
          go_wp2_with fail
          go_ret
          exact ⟨by first | rfl | exact ret_bool (by simp), below_then HB1.out HB.out⟩
        · go_enter Try.func7, Try.ntmps7
          go_wp2_with fail
          rw [HW.out]
          go_wp2_with fail
          refine (few_p true F0.out (P1.out.later HB.out)).mono ?_
          rintro e wn ⟨rfl, hb⟩
          replace HB := Lib.hid (below_then HB.out (by first | exact hb | exact below_alloc_then hb | exact below_alloc_then (below_alloc_then hb)))
          clear hb c0 c1 c2 c3 c4 r0 r1 r2 r3 r4 r5 r6 r7 r8 r9 r10 r11 r12 r13 r14 r15 r16 r17 r18 r19 r20 r21 y0 y1
          have c0 := cell_of_box (bx_later HB.out B_c.out) 0 rfl
          have c1 := cell_of_box (bx_later HB.out B_c.out) 1 rfl
          have c2 := cell_of_box (bx_later HB.out B_c.out) 2 rfl
          have c3 := cell_of_box (bx_later HB.out B_c.out) 3 rfl
          have c4 := cell_of_box (bx_later HB.out B_c.out) 4 rfl
          have r0 := cell_of_box (bx_later HB.out B_r.out) 0 rfl
          have r1 := cell_of_box (bx_later HB.out B_r.out) 1 rfl
          have r2 := cell_of_box (bx_later HB.out B_r.out) 2 rfl
          have r3 := cell_of_box (bx_later HB.out B_r.out) 3 rfl
          have r4 := cell_of_box (bx_later HB.out B_r.out) 4 rfl
          have r5 := cell_of_box (bx_later HB.out B_r.out) 5 rfl
          have r6 := cell_of_box (bx_later HB.out B_r.out) 6 rfl
          have r7 := cell_of_box (bx_later HB.out B_r.out) 7 rfl
          have r8 := cell_of_box (bx_later HB.out B_r.out) 8 rfl
          have r9 := cell_of_box (bx_later HB.out B_r.out) 9 rfl
          have r10 := cell_of_box (bx_later HB.out B_r.out) 10 rfl
          have r11 := cell_of_box (bx_later HB.out B_r.out) 11 rfl
          have r12 := cell_of_box (bx_later HB.out B_r.out) 12 rfl
          have r13 := cell_of_box (bx_later HB.out B_r.out) 13 rfl
          have r14 := cell_of_box (bx_later HB.out B_r.out) 14 rfl
          have r15 := cell_of_box (bx_later HB.out B_r.out) 15 rfl
          have r16 := cell_of_box (bx_later HB.out B_r.out) 16 rfl
          have r17 := cell_of_box (bx_later HB.out B_r.out) 17 rfl
          have r18 := cell_of_box (bx_later HB.out B_r.out) 18 rfl
          have r19 := cell_of_box (bx_later HB.out B_r.out) 19 rfl
          have r20 := cell_of_box (bx_later HB.out B_r.out) 20 rfl
          have r21 := cell_of_box (bx_later HB.out B_r.out) 21 rfl
          have y0 := cell_of_box (bx_later HB.out B_y.out) 0 rfl
          have y1 := cell_of_box (bx_later HB.out B_y.out) 1 rfl
          go_wp2_with fail
          refine (right_b true F3.out (P1.out.later HB.out) (by omega)).mono ?_
          rintro e wn ⟨rfl, hb⟩
          replace HB := Lib.hid (below_then HB.out (by first | exact hb | exact below_alloc_then hb | exact below_alloc_then (below_alloc_then hb)))
          clear hb c0 c1 c2 c3 c4 r0 r1 r2 r3 r4 r5 r6 r7 r8 r9 r10 r11 r12 r13 r14 r15 r16 r17 r18 r19 r20 r21 y0 y1
          have c0 := cell_of_box (bx_later HB.out B_c.out) 0 rfl
          have c1 := cell_of_box (bx_later HB.out B_c.out) 1 rfl
          have c2 := cell_of_box (bx_later HB.out B_c.out) 2 rfl
          have c3 := cell_of_box (bx_later HB.out B_c.out) 3 rfl
          have c4 := cell_of_box (bx_later HB.out B_c.out) 4 rfl
          have r0 := cell_of_box (bx_later HB.out B_r.out) 0 rfl
          have r1 := cell_of_box (bx_later HB.out B_r.out) 1 rfl
          have r2 := cell_of_box (bx_later HB.out B_r.out) 2 rfl
          have r3 := cell_of_box (bx_later HB.out B_r.out) 3 rfl
          have r4 := cell_of_box (bx_later HB.out B_r.out) 4 rfl
          have r5 := cell_of_box (bx_later HB.out B_r.out) 5 rfl
          have r6 := cell_of_box (bx_later HB.out B_r.out) 6 rfl
          have r7 := cell_of_box (bx_later HB.out B_r.out) 7 rfl
          have r8 := cell_of_box (bx_later HB.out B_r.out) 8 rfl
          have r9 := cell_of_box (bx_later HB.out B_r.out) 9 rfl
          have r10 := cell_of_box (bx_later HB.out B_r.out) 10 rfl
          have r11 := cell_of_box (bx_later HB.out B_r.out) 11 rfl
          have r12 := cell_of_box (bx_later HB.out B_r.out) 12 rfl
          have r13 := cell_of_box (bx_later HB.out B_r.out) 13 rfl
          have r14 := cell_of_box (bx_later HB.out B_r.out) 14 rfl
          have r15 := cell_of_box (bx_later HB.out B_r.out) 15 rfl
          have r16 := cell_of_box (bx_later HB.out B_r.out) 16 rfl
          have r17 := cell_of_box (bx_later HB.out B_r.out) 17 rfl
          have r18 := cell_of_box (bx_later HB.out B_r.out) 18 rfl
          have r19 := cell_of_box (bx_later HB.out B_r.out) 19 rfl
          have r20 := cell_of_box (bx_later HB.out B_r.out) 20 rfl
          have r21 := cell_of_box (bx_later HB.out B_r.out) 21 rfl
          have y0 := cell_of_box (bx_later HB.out B_y.out) 0 rfl
          have y1 := cell_of_box (bx_later HB.out B_y.out) 1 rfl
          obtain ⟨m1, hm1⟩ : ∃ m1, writeL l1 ⟨pk, pn, ps⟩ ⟨pd, pq⟩ z0 = m1 := ⟨_, rfl⟩
          obtain ⟨m2, hm2⟩ : ∃ m2, writeL l1 ⟨qk, qn, qs⟩ ⟨pd, pq⟩ z0 = m2 := ⟨_, rfl⟩
          obtain ⟨m5, hm5⟩ : ∃ m5, writeL l1 ⟨qk, qn, qs⟩ ⟨qd, qq⟩ z1 = m5 := ⟨_, rfl⟩
          have hrise := (rcB_iff.1 F3.out).parts.rise
          have hm2' := (write_again hrise ⟨pk, pn, ps⟩ ⟨qk, qn, qs⟩ ⟨pd, pq⟩ z0).trans hm2
          rw [hm1] at hm2'
          have L_m1 : Hid (m1.length ≤ l1.length + 1) := by rw [← hm1]; exact writeL_len _ _ _ _
          have L_m2 : Hid (m2.length ≤ l1.length + 1) := by rw [← hm2]; exact writeL_len _ _ _ _
          have L_m5 : Hid (m5.length ≤ l1.length + 1) := by rw [← hm5]; exact writeL_len _ _ _ _
          have LL : Hid (l1.length ≤ 60) := hl0
          have M_m1 := Lib.hid hm1
          have M_m2 := Lib.hid hm2
          have M_m2' := Lib.hid hm2'
          have M_m5 := Lib.hid hm5
          have RISE := Lib.hid hrise
          clear hm1 hm2 hm5 hrise hm2'
          go_upto_region 3 with fail
          go_cut [7, 8] (fun s7 s8 wx => ∃ g h : Nat, s7 = .pointer (some ⟨g, 0, none⟩) ∧ s8 = .pointer (some ⟨h, 0, none⟩) ∧ Hid (Bx wx g #[(.int .i64 pk), (.int .i64 pn), (.string ps), (.int .i64 pd), (.int .i64 pq), (.int .i64 pat), (.int .i64 ptm), (.int .i64 pfd), (.int .i64 pfq), (.int .i64 paa), (.bool pg)] 32) ∧ Hid (Bx wx h #[(.int .i64 qk), (.int .i64 qn), (.string qs), (.int .i64 qd), (.int .i64 qq), (.int .i64 qat), (.int .i64 qtm), (.int .i64 qfd), (.int .i64 qfq), (.int .i64 qaa), (.bool qg)] 32) ∧ Hid (Ext wn wx))
          case first =>
            have hlt : w.heap.size + 1 < wn.heap.size := World.block_lt_of_cell? _ _ r0
            go_region_held3 (fun w' => Ext wn w' ∧ w'.cell? ⟨w.heap.size + 1, 0, none⟩ = some (.int .i64 pk) ∧ w'.cell? ⟨w.heap.size + 1, 1, none⟩ = some (.int .i64 pn) ∧ w'.cell? ⟨w.heap.size + 1, 2, none⟩ = some (.string ps) ∧ w'.cell? ⟨w.heap.size + 1, 3, none⟩ = some (.int .i64 pd) ∧ w'.cell? ⟨w.heap.size + 1, 4, none⟩ = some (.int .i64 pq) ∧ w'.cell? ⟨w.heap.size + 1, 5, none⟩ = some (.int .i64 pat) ∧ w'.cell? ⟨w.heap.size + 1, 6, none⟩ = some (.int .i64 ptm) ∧ w'.cell? ⟨w.heap.size + 1, 7, none⟩ = some (.int .i64 pfd) ∧ w'.cell? ⟨w.heap.size + 1, 8, none⟩ = some (.int .i64 pfq) ∧ w'.cell? ⟨w.heap.size + 1, 9, none⟩ = some (.int .i64 paa) ∧ w'.cell? ⟨w.heap.size + 1, 10, none⟩ = some (.bool pg) ∧ w'.cell? ⟨w.heap.size + 1, 11, none⟩ = some (.int .i64 qk) ∧ w'.cell? ⟨w.heap.size + 1, 12, none⟩ = some (.int .i64 qn) ∧ w'.cell? ⟨w.heap.size + 1, 13, none⟩ = some (.string qs) ∧ w'.cell? ⟨w.heap.size + 1, 14, none⟩ = some (.int .i64 qd) ∧ w'.cell? ⟨w.heap.size + 1, 15, none⟩ = some (.int .i64 qq) ∧ w'.cell? ⟨w.heap.size + 1, 16, none⟩ = some (.int .i64 qat) ∧ w'.cell? ⟨w.heap.size + 1, 17, none⟩ = some (.int .i64 qtm) ∧ w'.cell? ⟨w.heap.size + 1, 18, none⟩ = some (.int .i64 qfd) ∧ w'.cell? ⟨w.heap.size + 1, 19, none⟩ = some (.int .i64 qfq) ∧ w'.cell? ⟨w.heap.size + 1, 20, none⟩ = some (.int .i64 qaa) ∧ w'.cell? ⟨w.heap.size + 1, 21, none⟩ = some (.bool qg)) (first | exact ⟨(Below.refl _ _).drew, r0, r1, r2, r3, r4, r5, r6, r7, r8, r9, r10, r11, r12, r13, r14, r15, r16, r17, r18, r19, r20, r21⟩ | exact ⟨(by first | exact (Below.alloc (Below.refl _ _) (Nat.le_refl _) _).drew | exact (Below.alloc (Below.alloc (Below.refl _ _) (Nat.le_refl _) _) (by simp) _).drew | exact ((Below.alloc (Below.alloc (Below.refl _ _) (Nat.le_refl _) _) (by simp) _).setCell (by simp) _).drew), cell_later (by first | exact (Below.alloc (Below.refl _ _) (Nat.le_refl _) _).drew | exact (Below.alloc (Below.alloc (Below.refl _ _) (Nat.le_refl _) _) (by simp) _).drew | exact ((Below.alloc (Below.alloc (Below.refl _ _) (Nat.le_refl _) _) (by simp) _).setCell (by simp) _).drew) r0, cell_later (by first | exact (Below.alloc (Below.refl _ _) (Nat.le_refl _) _).drew | exact (Below.alloc (Below.alloc (Below.refl _ _) (Nat.le_refl _) _) (by simp) _).drew | exact ((Below.alloc (Below.alloc (Below.refl _ _) (Nat.le_refl _) _) (by simp) _).setCell (by simp) _).drew) r1, cell_later (by first | exact (Below.alloc (Below.refl _ _) (Nat.le_refl _) _).drew | exact (Below.alloc (Below.alloc (Below.refl _ _) (Nat.le_refl _) _) (by simp) _).drew | exact ((Below.alloc (Below.alloc (Below.refl _ _) (Nat.le_refl _) _) (by simp) _).setCell (by simp) _).drew) r2, cell_later (by first | exact (Below.alloc (Below.refl _ _) (Nat.le_refl _) _).drew | exact (Below.alloc (Below.alloc (Below.refl _ _) (Nat.le_refl _) _) (by simp) _).drew | exact ((Below.alloc (Below.alloc (Below.refl _ _) (Nat.le_refl _) _) (by simp) _).setCell (by simp) _).drew) r3, cell_later (by first | exact (Below.alloc (Below.refl _ _) (Nat.le_refl _) _).drew | exact (Below.alloc (Below.alloc (Below.refl _ _) (Nat.le_refl _) _) (by simp) _).drew | exact ((Below.alloc (Below.alloc (Below.refl _ _) (Nat.le_refl _) _) (by simp) _).setCell (by simp) _).drew) r4, cell_later (by first | exact (Below.alloc (Below.refl _ _) (Nat.le_refl _) _).drew | exact (Below.alloc (Below.alloc (Below.refl _ _) (Nat.le_refl _) _) (by simp) _).drew | exact ((Below.alloc (Below.alloc (Below.refl _ _) (Nat.le_refl _) _) (by simp) _).setCell (by simp) _).drew) r5, cell_later (by first | exact (Below.alloc (Below.refl _ _) (Nat.le_refl _) _).drew | exact (Below.alloc (Below.alloc (Below.refl _ _) (Nat.le_refl _) _) (by simp) _).drew | exact ((Below.alloc (Below.alloc (Below.refl _ _) (Nat.le_refl _) _) (by simp) _).setCell (by simp) _).drew) r6, cell_later (by first | exact (Below.alloc (Below.refl _ _) (Nat.le_refl _) _).drew | exact (Below.alloc (Below.alloc (Below.refl _ _) (Nat.le_refl _) _) (by simp) _).drew | exact ((Below.alloc (Below.alloc (Below.refl _ _) (Nat.le_refl _) _) (by simp) _).setCell (by simp) _).drew) r7, cell_later (by first | exact (Below.alloc (Below.refl _ _) (Nat.le_refl _) _).drew | exact (Below.alloc (Below.alloc (Below.refl _ _) (Nat.le_refl _) _) (by simp) _).drew | exact ((Below.alloc (Below.alloc (Below.refl _ _) (Nat.le_refl _) _) (by simp) _).setCell (by simp) _).drew) r8, cell_later (by first | exact (Below.alloc (Below.refl _ _) (Nat.le_refl _) _).drew | exact (Below.alloc (Below.alloc (Below.refl _ _) (Nat.le_refl _) _) (by simp) _).drew | exact ((Below.alloc (Below.alloc (Below.refl _ _) (Nat.le_refl _) _) (by simp) _).setCell (by simp) _).drew) r9, cell_later (by first | exact (Below.alloc (Below.refl _ _) (Nat.le_refl _) _).drew | exact (Below.alloc (Below.alloc (Below.refl _ _) (Nat.le_refl _) _) (by simp) _).drew | exact ((Below.alloc (Below.alloc (Below.refl _ _) (Nat.le_refl _) _) (by simp) _).setCell (by simp) _).drew) r10, cell_later (by first | exact (Below.alloc (Below.refl _ _) (Nat.le_refl _) _).drew | exact (Below.alloc (Below.alloc (Below.refl _ _) (Nat.le_refl _) _) (by simp) _).drew | exact ((Below.alloc (Below.alloc (Below.refl _ _) (Nat.le_refl _) _) (by simp) _).setCell (by simp) _).drew) r11, cell_later (by first | exact (Below.alloc (Below.refl _ _) (Nat.le_refl _) _).drew | exact (Below.alloc (Below.alloc (Below.refl _ _) (Nat.le_refl _) _) (by simp) _).drew | exact ((Below.alloc (Below.alloc (Below.refl _ _) (Nat.le_refl _) _) (by simp) _).setCell (by simp) _).drew) r12, cell_later (by first | exact (Below.alloc (Below.refl _ _) (Nat.le_refl _) _).drew | exact (Below.alloc (Below.alloc (Below.refl _ _) (Nat.le_refl _) _) (by simp) _).drew | exact ((Below.alloc (Below.alloc (Below.refl _ _) (Nat.le_refl _) _) (by simp) _).setCell (by simp) _).drew) r13, cell_later (by first | exact (Below.alloc (Below.refl _ _) (Nat.le_refl _) _).drew | exact (Below.alloc (Below.alloc (Below.refl _ _) (Nat.le_refl _) _) (by simp) _).drew | exact ((Below.alloc (Below.alloc (Below.refl _ _) (Nat.le_refl _) _) (by simp) _).setCell (by simp) _).drew) r14, cell_later (by first | exact (Below.alloc (Below.refl _ _) (Nat.le_refl _) _).drew | exact (Below.alloc (Below.alloc (Below.refl _ _) (Nat.le_refl _) _) (by simp) _).drew | exact ((Below.alloc (Below.alloc (Below.refl _ _) (Nat.le_refl _) _) (by simp) _).setCell (by simp) _).drew) r15, cell_later (by first | exact (Below.alloc (Below.refl _ _) (Nat.le_refl _) _).drew | exact (Below.alloc (Below.alloc (Below.refl _ _) (Nat.le_refl _) _) (by simp) _).drew | exact ((Below.alloc (Below.alloc (Below.refl _ _) (Nat.le_refl _) _) (by simp) _).setCell (by simp) _).drew) r16, cell_later (by first | exact (Below.alloc (Below.refl _ _) (Nat.le_refl _) _).drew | exact (Below.alloc (Below.alloc (Below.refl _ _) (Nat.le_refl _) _) (by simp) _).drew | exact ((Below.alloc (Below.alloc (Below.refl _ _) (Nat.le_refl _) _) (by simp) _).setCell (by simp) _).drew) r17, cell_later (by first | exact (Below.alloc (Below.refl _ _) (Nat.le_refl _) _).drew | exact (Below.alloc (Below.alloc (Below.refl _ _) (Nat.le_refl _) _) (by simp) _).drew | exact ((Below.alloc (Below.alloc (Below.refl _ _) (Nat.le_refl _) _) (by simp) _).setCell (by simp) _).drew) r18, cell_later (by first | exact (Below.alloc (Below.refl _ _) (Nat.le_refl _) _).drew | exact (Below.alloc (Below.alloc (Below.refl _ _) (Nat.le_refl _) _) (by simp) _).drew | exact ((Below.alloc (Below.alloc (Below.refl _ _) (Nat.le_refl _) _) (by simp) _).setCell (by simp) _).drew) r19, cell_later (by first | exact (Below.alloc (Below.refl _ _) (Nat.le_refl _) _).drew | exact (Below.alloc (Below.alloc (Below.refl _ _) (Nat.le_refl _) _) (by simp) _).drew | exact ((Below.alloc (Below.alloc (Below.refl _ _) (Nat.le_refl _) _) (by simp) _).setCell (by simp) _).drew) r20, cell_later (by first | exact (Below.alloc (Below.refl _ _) (Nat.le_refl _) _).drew | exact (Below.alloc (Below.alloc (Below.refl _ _) (Nat.le_refl _) _) (by simp) _).drew | exact ((Below.alloc (Below.alloc (Below.refl _ _) (Nat.le_refl _) _) (by simp) _).setCell (by simp) _).drew) r21⟩ | go_keep) (fail)
            all_goals
              go_wp2_with fail
              go_meet
              first | exact ⟨_, _, rfl, rfl, (two_new _ _ _ _ _).1, (two_new _ _ _ _ _).2.1, (two_new _ _ _ _ _).2.2⟩ | exact ⟨_, _, rfl, rfl, (two_new _ _ _ _ _).2.1, (two_new _ _ _ _ _).1, (two_new _ _ _ _ _).2.2⟩
          case rest =>
            obtain ⟨gp, gq, rfl, rfl, bp, bq, hbx⟩ := hcut
            have hbn := below_then HB.out hbx.out
            clear c0 c1 c2 c3 c4 r0 r1 r2 r3 r4 r5 r6 r7 r8 r9 r10 r11 r12 r13 r14 r15 r16 r17 r18 r19 r20 r21 y0 y1
            replace B_c := Lib.hid (bx_later hbn B_c.out)
            replace B_y := Lib.hid (bx_later hbn B_y.out)
            replace P1 := Lib.hid (P1.out.later hbn)
            replace Z0 := Lib.hid (Z0.out.later hbn)
            replace Z1 := Lib.hid (Z1.out.later hbn)
            replace HB1 := Lib.hid (below_then HB1.out hbn)
            clear HB hbn
            have HB := Lib.hid (Below.refl wc.heap.size wc)
            have B_p := Lib.hid bp.out
            have B_q := Lib.hid bq.out
            have c0 := cell_of_box (bx_later HB.out B_c.out) 0 rfl
            have c1 := cell_of_box (bx_later HB.out B_c.out) 1 rfl
            have c2 := cell_of_box (bx_later HB.out B_c.out) 2 rfl
            have c3 := cell_of_box (bx_later HB.out B_c.out) 3 rfl
            have c4 := cell_of_box (bx_later HB.out B_c.out) 4 rfl
            have y0 := cell_of_box (bx_later HB.out B_y.out) 0 rfl
            have y1 := cell_of_box (bx_later HB.out B_y.out) 1 rfl
            have p0 := cell_of_box (bx_later HB.out B_p.out) 0 rfl
            have p1 := cell_of_box (bx_later HB.out B_p.out) 1 rfl
            have p2 := cell_of_box (bx_later HB.out B_p.out) 2 rfl
            have p3 := cell_of_box (bx_later HB.out B_p.out) 3 rfl
            have p4 := cell_of_box (bx_later HB.out B_p.out) 4 rfl
            have p5 := cell_of_box (bx_later HB.out B_p.out) 5 rfl
            have p6 := cell_of_box (bx_later HB.out B_p.out) 6 rfl
            have p7 := cell_of_box (bx_later HB.out B_p.out) 7 rfl
            have p8 := cell_of_box (bx_later HB.out B_p.out) 8 rfl
            have p9 := cell_of_box (bx_later HB.out B_p.out) 9 rfl
            have p10 := cell_of_box (bx_later HB.out B_p.out) 10 rfl
            have q0 := cell_of_box (bx_later HB.out B_q.out) 0 rfl
            have q1 := cell_of_box (bx_later HB.out B_q.out) 1 rfl
            have q2 := cell_of_box (bx_later HB.out B_q.out) 2 rfl
            have q3 := cell_of_box (bx_later HB.out B_q.out) 3 rfl
            have q4 := cell_of_box (bx_later HB.out B_q.out) 4 rfl
            have q5 := cell_of_box (bx_later HB.out B_q.out) 5 rfl
            have q6 := cell_of_box (bx_later HB.out B_q.out) 6 rfl
            have q7 := cell_of_box (bx_later HB.out B_q.out) 7 rfl
            have q8 := cell_of_box (bx_later HB.out B_q.out) 8 rfl
            have q9 := cell_of_box (bx_later HB.out B_q.out) 9 rfl
            have q10 := cell_of_box (bx_later HB.out B_q.out) 10 rfl
            clear bp bq hbx
            go_upto_region 4 with fail
            refine wp_region_flow (by kernel_rfl) 16 [(7, ⟨fun v => ∃ a k, v = .agg #[.int .i64 kd1, .int .i64 ck1, .int .i64 cn1, .string cs1, .slice a m1.length k], fun v _ _ w' => ∃ a k, v = .agg #[.int .i64 kd1, .int .i64 ck1, .int .i64 cn1, .string cs1, .slice a m1.length k] ∧ PRd w' (.slice a m1.length k) m1⟩), (14, ⟨fun v => ∃ a k, v = .agg #[.int .i64 kd1, .int .i64 ck1, .int .i64 cn1, .string cs1, .slice a m2.length k], fun v _ _ w' => ∃ a k, v = .agg #[.int .i64 kd1, .int .i64 ck1, .int .i64 cn1, .string cs1, .slice a m2.length k] ∧ OwnP w' wc.heap.size (.slice a m2.length k) m2⟩), (15, ⟨fun v => ∃ g : Nat, v = .pointer (some ⟨g, 0, none⟩), fun v _ _ w' => ∃ g : Nat, v = .pointer (some ⟨g, 0, none⟩) ∧ Bx w' g #[.int .i64 0, .int .i64 0, .int .i64 0, .string ⟨#[]⟩, .slice none 0 0] 26 ∧ wc.heap.size ≤ g⟩)] (by kernel_rfl) ?_ ?_ ?_
            · intro x hx
              simp only [List.mem_cons, List.not_mem_nil, or_false] at hx
              rcases hx with rfl | rfl | rfl
              · exact ⟨_, none, 0, rfl⟩
              · exact ⟨_, none, 0, rfl⟩
              · exact ⟨_, 0, rfl⟩
            · intro x hx v lo hi w w' h hb
              simp only [List.mem_cons, List.not_mem_nil, or_false] at hx
              rcases hx with rfl | rfl | rfl
              · obtain ⟨a, k, rfl, ho⟩ := h
                exact ⟨a, k, rfl, ho.later hb⟩
              · obtain ⟨a, k, rfl, ho⟩ := h
                exact ⟨a, k, rfl, own_later ho hb⟩
              · obtain ⟨g, rfl, h1, h2⟩ := h
                exact ⟨g, rfl, bx_later hb h1, h2⟩
            · intro lo hi
              have kc0 := cell_regrown c0
              have kc1 := cell_regrown c1
              have kc2 := cell_regrown c2
              have kc3 := cell_regrown c3
              have kc4 := cell_regrown c4
              have ky0 := cell_regrown y0
              have ky1 := cell_regrown y1
              have kp0 := cell_regrown p0
              have kp1 := cell_regrown p1
              have kp2 := cell_regrown p2
              have kp3 := cell_regrown p3
              have kp4 := cell_regrown p4
              have kp5 := cell_regrown p5
              have kp6 := cell_regrown p6
              have kp7 := cell_regrown p7
              have kp8 := cell_regrown p8
              have kp9 := cell_regrown p9
              have kp10 := cell_regrown p10
              have kq0 := cell_regrown q0
              have kq1 := cell_regrown q1
              have kq2 := cell_regrown q2
              have kq3 := cell_regrown q3
              have kq4 := cell_regrown q4
              have kq5 := cell_regrown q5
              have kq6 := cell_regrown q6
              have kq7 := cell_regrown q7
              have kq8 := cell_regrown q8
              have kq9 := cell_regrown q9
              have kq10 := cell_regrown q10
              refine flowW_plain rfl ?_
              go_big_quiet_step (fail)
              refine wpQuiet_nil ?_
              refine flowW_plain rfl ?_
              go_big_quiet_step (fail)
              refine wpQuiet_nil ?_
              refine flowW_plain rfl ?_
              go_big_quiet_step (fail)
              refine wpQuiet_nil ?_
              refine flowW_plain rfl ?_
              go_big_quiet_step (fail)
              refine wpQuiet_nil ?_
              refine flowW_plain rfl ?_
              go_big_quiet_step (fail)
              refine wpQuiet_nil ?_
              refine flowW_plain rfl ?_
              go_big_quiet_step (fail)
              refine wpQuiet_nil ?_
              refine flowW_plain rfl ?_
              go_big_quiet_step (fail)
              refine wpQuiet_nil ?_
              refine flowW_call rfl rfl ?_ ?_
              · intro W hW hF K hK
                clear kc0 kc1 kc2 kc3 kc4 ky0 ky1 kp0 kp1 kp2 kp3 kp4 kp5 kp6 kp7 kp8 kp9 kp10 kq0 kq1 kq2 kq3 kq4 kq5 kq6 kq7 kq8 kq9 kq10
                go_wp2_with fail
                refine (write_p (P1.out.later (below_then HB.out hW)) (Z0.out.later (below_then HB.out hW)) (by have := LL.out; have := L_m1.out; have := L_m2.out; have := L_m5.out; omega) M_m1.out).mono ?_
                rintro e wq ⟨a, k, rfl, ho, hbq⟩
                go_wp2_with fail
                exact hK _ _ ⟨a, k, rfl⟩ ⟨a, k, rfl, ho⟩ hbq
              rintro v ⟨a7, k7, rfl⟩ K hK
              go_simp
              refine hK _ ?_
              clear hK K
              refine flowW_plain rfl ?_
              go_big_quiet_step (fail)
              refine wpQuiet_nil ?_
              refine flowW_plain rfl ?_
              go_big_quiet_step (fail)
              refine wpQuiet_nil ?_
              refine flowW_plain rfl ?_
              go_big_quiet_step (fail)
              refine wpQuiet_nil ?_
              refine flowW_plain rfl ?_
              go_big_quiet_step (fail)
              refine wpQuiet_nil ?_
              refine flowW_plain rfl ?_
              go_big_quiet_step (fail)
              refine wpQuiet_nil ?_
              refine flowW_plain rfl ?_
              go_big_quiet_step (fail)
              refine wpQuiet_nil ?_
              refine flowW_call rfl rfl ?_ ?_
              · intro W hW hF K hK
                clear kc0 kc1 kc2 kc3 kc4 ky0 ky1 kp0 kp1 kp2 kp3 kp4 kp5 kp6 kp7 kp8 kp9 kp10 kq0 kq1 kq2 kq3 kq4 kq5 kq6 kq7 kq8 kq9 kq10
                obtain ⟨_, _, he7, h7⟩ := hF 7 rfl
                cases he7
                go_wp2_with fail
                refine (write_o h7 (Z0.out.later (below_then HB.out hW)) (by have := LL.out; have := L_m1.out; have := L_m2.out; have := L_m5.out; omega) M_m2'.out).mono ?_
                rintro e wq ⟨a, k, rfl, ho, hbq⟩
                go_wp2_with fail
                exact hK _ _ ⟨a, k, rfl⟩ ⟨a, k, rfl, own_monoP ho hW.size⟩ hbq
              rintro v ⟨a14, k14, rfl⟩ K hK
              go_simp
              refine hK _ ?_
              clear hK K
              refine flowW_call rfl rfl ?_ ?_
              · intro W hW hF K hK
                clear kc0 kc1 kc2 kc3 kc4 ky0 ky1 kp0 kp1 kp2 kp3 kp4 kp5 kp6 kp7 kp8 kp9 kp10 kq0 kq1 kq2 kq3 kq4 kq5 kq6 kq7 kq8 kq9 kq10
                go_wp2_with fail
                exact hK _ _ ⟨_, rfl⟩ ⟨_, rfl, bx_new rfl, hW.size⟩ (below_alloc _ _)
              rintro v ⟨g15, rfl⟩ K hK
              go_simp
              refine hK _ ?_
              clear hK K
              refine flowW_end fun wz hwz hF hD => ?_
              clear kc0 kc1 kc2 kc3 kc4 ky0 ky1 kp0 kp1 kp2 kp3 kp4 kp5 kp6 kp7 kp8 kp9 kp10 kq0 kq1 kq2 kq3 kq4 kq5 kq6 kq7 kq8 kq9 kq10
              simp only [List.drop_succ_cons, List.drop_zero]
              obtain ⟨_, _, he, ho⟩ := hF 14
              cases he
              obtain ⟨_, he, bg, hg⟩ := hF 15
              cases he
              refine wpList_store_box rfl _ _ rfl rfl rfl (by kernel_rfl) bg rfl rfl rfl rfl ?_
              have hbn := below_row (below_then HB.out hwz) (Nat.le_trans HB.out.size hg) #[(.int .i64 kd1), (.int .i64 ck1), (.int .i64 cn1), (.string cs1), (.slice a14 m2.length k14)]
              have bn := bx_row bg #[(.int .i64 kd1), (.int .i64 ck1), (.int .i64 cn1), (.string cs1), (.slice a14 m2.length k14)]
              have hn := Rd.of_own (own_row ho bg rfl #[(.int .i64 kd1), (.int .i64 ck1), (.int .i64 cn1), (.string cs1), (.slice a14 m2.length k14)])
              clear ho
              have HBN := Lib.hid hbn
              have BN := Lib.hid bn
              have HN := Lib.hid hn
              clear hn
              clear hbn bn bg hF c0 c1 c2 c3 c4 y0 y1 p0 p1 p2 p3 p4 p5 p6 p7 p8 p9 p10 q0 q1 q2 q3 q4 q5 q6 q7 q8 q9 q10
              go_upto_region 5 with fail
              replace B_c := Lib.hid (bx_later HBN.out B_c.out)
              replace B_y := Lib.hid (bx_later HBN.out B_y.out)
              replace B_p := Lib.hid (bx_later HBN.out B_p.out)
              replace B_q := Lib.hid (bx_later HBN.out B_q.out)
              replace P1 := Lib.hid (P1.out.later HBN.out)
              replace Z0 := Lib.hid (Z0.out.later HBN.out)
              replace Z1 := Lib.hid (Z1.out.later HBN.out)
              replace HB1 := Lib.hid (below_then HB1.out HBN.out)
              clear HBN HB hwz hg
              generalize wz.setRow g15 #[(.int .i64 kd1), (.int .i64 ck1), (.int .i64 cn1), (.string cs1), (.slice a14 m2.length k14)] = w2 at *
              have HB := Lib.hid (Below.refl w2.heap.size w2)
              have B_g := BN
              clear BN
              have P_g := HN
              clear HN
              have c0 := cell_of_box (bx_later HB.out B_c.out) 0 rfl
              have c1 := cell_of_box (bx_later HB.out B_c.out) 1 rfl
              have c2 := cell_of_box (bx_later HB.out B_c.out) 2 rfl
              have c3 := cell_of_box (bx_later HB.out B_c.out) 3 rfl
              have c4 := cell_of_box (bx_later HB.out B_c.out) 4 rfl
              have y0 := cell_of_box (bx_later HB.out B_y.out) 0 rfl
              have y1 := cell_of_box (bx_later HB.out B_y.out) 1 rfl
              have p0 := cell_of_box (bx_later HB.out B_p.out) 0 rfl
              have p1 := cell_of_box (bx_later HB.out B_p.out) 1 rfl
              have p2 := cell_of_box (bx_later HB.out B_p.out) 2 rfl
              have p3 := cell_of_box (bx_later HB.out B_p.out) 3 rfl
              have p4 := cell_of_box (bx_later HB.out B_p.out) 4 rfl
              have p5 := cell_of_box (bx_later HB.out B_p.out) 5 rfl
              have p6 := cell_of_box (bx_later HB.out B_p.out) 6 rfl
              have p7 := cell_of_box (bx_later HB.out B_p.out) 7 rfl
              have p8 := cell_of_box (bx_later HB.out B_p.out) 8 rfl
              have p9 := cell_of_box (bx_later HB.out B_p.out) 9 rfl
              have p10 := cell_of_box (bx_later HB.out B_p.out) 10 rfl
              have q0 := cell_of_box (bx_later HB.out B_q.out) 0 rfl
              have q1 := cell_of_box (bx_later HB.out B_q.out) 1 rfl
              have q2 := cell_of_box (bx_later HB.out B_q.out) 2 rfl
              have q3 := cell_of_box (bx_later HB.out B_q.out) 3 rfl
              have q4 := cell_of_box (bx_later HB.out B_q.out) 4 rfl
              have q5 := cell_of_box (bx_later HB.out B_q.out) 5 rfl
              have q6 := cell_of_box (bx_later HB.out B_q.out) 6 rfl
              have q7 := cell_of_box (bx_later HB.out B_q.out) 7 rfl
              have q8 := cell_of_box (bx_later HB.out B_q.out) 8 rfl
              have q9 := cell_of_box (bx_later HB.out B_q.out) 9 rfl
              have q10 := cell_of_box (bx_later HB.out B_q.out) 10 rfl
              have g0 := cell_of_box (bx_later HB.out B_g.out) 0 rfl
              have g1 := cell_of_box (bx_later HB.out B_g.out) 1 rfl
              have g2 := cell_of_box (bx_later HB.out B_g.out) 2 rfl
              have g3 := cell_of_box (bx_later HB.out B_g.out) 3 rfl
              have g4 := cell_of_box (bx_later HB.out B_g.out) 4 rfl
              refine wp_region_flow (by kernel_rfl) 11 [(8, ⟨fun v => ∃ a k, v = .agg #[.int .i64 kd1, .int .i64 ck1, .int .i64 cn1, .string cs1, .slice a m2.length k], fun v _ _ w' => ∃ a k, v = .agg #[.int .i64 kd1, .int .i64 ck1, .int .i64 cn1, .string cs1, .slice a m2.length k] ∧ PRd w' (.slice a m2.length k) m2⟩), (9, ⟨fun v => v = .bool true, fun _ _ _ _ => True⟩)] (by kernel_rfl) ?_ ?_ ?_
              · intro x hx
                simp only [List.mem_cons, List.not_mem_nil, or_false] at hx
                rcases hx with rfl | rfl
                · exact ⟨_, none, 0, rfl⟩
                · exact ⟨_, rfl⟩
              · intro x hx v lo hi w w' h hb
                simp only [List.mem_cons, List.not_mem_nil, or_false] at hx
                rcases hx with rfl | rfl
                · obtain ⟨a, k, rfl, ho⟩ := h
                  exact ⟨a, k, rfl, ho.later hb⟩
                · exact trivial
              · intro lo hi
                have kc0 := cell_regrown c0
                have kc1 := cell_regrown c1
                have kc2 := cell_regrown c2
                have kc3 := cell_regrown c3
                have kc4 := cell_regrown c4
                have ky0 := cell_regrown y0
                have ky1 := cell_regrown y1
                have kp0 := cell_regrown p0
                have kp1 := cell_regrown p1
                have kp2 := cell_regrown p2
                have kp3 := cell_regrown p3
                have kp4 := cell_regrown p4
                have kp5 := cell_regrown p5
                have kp6 := cell_regrown p6
                have kp7 := cell_regrown p7
                have kp8 := cell_regrown p8
                have kp9 := cell_regrown p9
                have kp10 := cell_regrown p10
                have kq0 := cell_regrown q0
                have kq1 := cell_regrown q1
                have kq2 := cell_regrown q2
                have kq3 := cell_regrown q3
                have kq4 := cell_regrown q4
                have kq5 := cell_regrown q5
                have kq6 := cell_regrown q6
                have kq7 := cell_regrown q7
                have kq8 := cell_regrown q8
                have kq9 := cell_regrown q9
                have kq10 := cell_regrown q10
                have kg0 := cell_regrown g0
                have kg1 := cell_regrown g1
                have kg2 := cell_regrown g2
                have kg3 := cell_regrown g3
                have kg4 := cell_regrown g4
                refine flowW_plain rfl ?_
                go_big_quiet_step (fail)
                refine wpQuiet_nil ?_
                refine flowW_plain rfl ?_
                go_big_quiet_step (fail)
                refine wpQuiet_nil ?_
                refine flowW_plain rfl ?_
                go_big_quiet_step (fail)
                refine wpQuiet_nil ?_
                refine flowW_plain rfl ?_
                go_big_quiet_step (fail)
                refine wpQuiet_nil ?_
                refine flowW_plain rfl ?_
                go_big_quiet_step (fail)
                refine wpQuiet_nil ?_
                refine flowW_plain rfl ?_
                go_big_quiet_step (fail)
                refine wpQuiet_nil ?_
                refine flowW_plain rfl ?_
                go_big_quiet_step (fail)
                refine wpQuiet_nil ?_
                refine flowW_plain rfl ?_
                go_big_quiet_step (fail)
                refine wpQuiet_nil ?_
                refine flowW_call rfl rfl ?_ ?_
                · intro W hW hF K hK
                  clear kc0 kc1 kc2 kc3 kc4 ky0 ky1 kp0 kp1 kp2 kp3 kp4 kp5 kp6 kp7 kp8 kp9 kp10 kq0 kq1 kq2 kq3 kq4 kq5 kq6 kq7 kq8 kq9 kq10 kg0 kg1 kg2 kg3 kg4
                  go_wp2_with fail
                  refine (write_p (P1.out.later (below_then HB.out hW)) (Z0.out.later (below_then HB.out hW)) (by have := LL.out; have := L_m1.out; have := L_m2.out; have := L_m5.out; omega) M_m2.out).mono ?_
                  rintro e wq ⟨a, k, rfl, ho, hbq⟩
                  go_wp2_with fail
                  exact hK _ _ ⟨a, k, rfl⟩ ⟨a, k, rfl, ho⟩ hbq
                rintro v ⟨a8, k8, rfl⟩ K hK
                go_simp
                refine hK _ ?_
                clear hK K
                refine flowW_call rfl rfl ?_ ?_
                · intro W hW hF K hK
                  clear kc0 kc1 kc2 kc3 kc4 ky0 ky1 kp0 kp1 kp2 kp3 kp4 kp5 kp6 kp7 kp8 kp9 kp10 kq0 kq1 kq2 kq3 kq4 kq5 kq6 kq7 kq8 kq9 kq10 kg0 kg1 kg2 kg3 kg4
                  obtain ⟨_, _, he8, h8⟩ := hF 8 rfl
                  cases he8
                  go_wp2_with fail
                  refine (same_p m2 (P_g.out.later (below_then HB.out hW)) h8 (by have := LL.out; have := L_m1.out; have := L_m2.out; have := L_m5.out; omega)).mono ?_
                  rintro e wq ⟨rfl, hbq⟩
                  go_wp2_with fail
                  exact hK _ _ rfl trivial hbq
                rintro v rfl K hK
                go_simp
                refine hK _ ?_
                clear hK K
                refine flowW_plain rfl ?_
                go_big_quiet_step (fail)
                refine wpQuiet_nil ?_
                refine flowW_end fun wz hwz hF hD => ?_
                clear kc0 kc1 kc2 kc3 kc4 ky0 ky1 kp0 kp1 kp2 kp3 kp4 kp5 kp6 kp7 kp8 kp9 kp10 kq0 kq1 kq2 kq3 kq4 kq5 kq6 kq7 kq8 kq9 kq10 kg0 kg1 kg2 kg3 kg4
                simp only [List.drop_succ_cons, List.drop_zero]
                replace HB := Lib.hid (below_then HB.out hwz)
                clear hwz hF c0 c1 c2 c3 c4 y0 y1 p0 p1 p2 p3 p4 p5 p6 p7 p8 p9 p10 q0 q1 q2 q3 q4 q5 q6 q7 q8 q9 q10 g0 g1 g2 g3 g4
                have c0 := cell_of_box (bx_later HB.out B_c.out) 0 rfl
                have c1 := cell_of_box (bx_later HB.out B_c.out) 1 rfl
                have c2 := cell_of_box (bx_later HB.out B_c.out) 2 rfl
                have c3 := cell_of_box (bx_later HB.out B_c.out) 3 rfl
                have c4 := cell_of_box (bx_later HB.out B_c.out) 4 rfl
                have y0 := cell_of_box (bx_later HB.out B_y.out) 0 rfl
                have y1 := cell_of_box (bx_later HB.out B_y.out) 1 rfl
                have p0 := cell_of_box (bx_later HB.out B_p.out) 0 rfl
                have p1 := cell_of_box (bx_later HB.out B_p.out) 1 rfl
                have p2 := cell_of_box (bx_later HB.out B_p.out) 2 rfl
                have p3 := cell_of_box (bx_later HB.out B_p.out) 3 rfl
                have p4 := cell_of_box (bx_later HB.out B_p.out) 4 rfl
                have p5 := cell_of_box (bx_later HB.out B_p.out) 5 rfl
                have p6 := cell_of_box (bx_later HB.out B_p.out) 6 rfl
                have p7 := cell_of_box (bx_later HB.out B_p.out) 7 rfl
                have p8 := cell_of_box (bx_later HB.out B_p.out) 8 rfl
                have p9 := cell_of_box (bx_later HB.out B_p.out) 9 rfl
                have p10 := cell_of_box (bx_later HB.out B_p.out) 10 rfl
                have q0 := cell_of_box (bx_later HB.out B_q.out) 0 rfl
                have q1 := cell_of_box (bx_later HB.out B_q.out) 1 rfl
                have q2 := cell_of_box (bx_later HB.out B_q.out) 2 rfl
                have q3 := cell_of_box (bx_later HB.out B_q.out) 3 rfl
                have q4 := cell_of_box (bx_later HB.out B_q.out) 4 rfl
                have q5 := cell_of_box (bx_later HB.out B_q.out) 5 rfl
                have q6 := cell_of_box (bx_later HB.out B_q.out) 6 rfl
                have q7 := cell_of_box (bx_later HB.out B_q.out) 7 rfl
                have q8 := cell_of_box (bx_later HB.out B_q.out) 8 rfl
                have q9 := cell_of_box (bx_later HB.out B_q.out) 9 rfl
                have q10 := cell_of_box (bx_later HB.out B_q.out) 10 rfl
                have g0 := cell_of_box (bx_later HB.out B_g.out) 0 rfl
                have g1 := cell_of_box (bx_later HB.out B_g.out) 1 rfl
                have g2 := cell_of_box (bx_later HB.out B_g.out) 2 rfl
                have g3 := cell_of_box (bx_later HB.out B_g.out) 3 rfl
                have g4 := cell_of_box (bx_later HB.out B_g.out) 4 rfl
                by_cases e1 : pd = qd
                · subst e1
                  by_cases e2 : pq = qq
                  · subst e2
                    go_wp2_with fail
                    refine (alive_any _).mono ?_
                    rintro e wn ⟨rfl, hb⟩
                    replace HB := Lib.hid (below_then HB.out (by first | exact hb | exact below_alloc_then hb | exact below_alloc_then (below_alloc_then hb)))
                    clear hb c0 c1 c2 c3 c4 y0 y1 p0 p1 p2 p3 p4 p5 p6 p7 p8 p9 p10 q0 q1 q2 q3 q4 q5 q6 q7 q8 q9 q10 g0 g1 g2 g3 g4
                    have c0 := cell_of_box (bx_later HB.out B_c.out) 0 rfl
                    have c1 := cell_of_box (bx_later HB.out B_c.out) 1 rfl
                    have c2 := cell_of_box (bx_later HB.out B_c.out) 2 rfl
                    have c3 := cell_of_box (bx_later HB.out B_c.out) 3 rfl
                    have c4 := cell_of_box (bx_later HB.out B_c.out) 4 rfl
                    have y0 := cell_of_box (bx_later HB.out B_y.out) 0 rfl
                    have y1 := cell_of_box (bx_later HB.out B_y.out) 1 rfl
                    have p0 := cell_of_box (bx_later HB.out B_p.out) 0 rfl
                    have p1 := cell_of_box (bx_later HB.out B_p.out) 1 rfl
                    have p2 := cell_of_box (bx_later HB.out B_p.out) 2 rfl
                    have p3 := cell_of_box (bx_later HB.out B_p.out) 3 rfl
                    have p4 := cell_of_box (bx_later HB.out B_p.out) 4 rfl
                    have p5 := cell_of_box (bx_later HB.out B_p.out) 5 rfl
                    have p6 := cell_of_box (bx_later HB.out B_p.out) 6 rfl
                    have p7 := cell_of_box (bx_later HB.out B_p.out) 7 rfl
                    have p8 := cell_of_box (bx_later HB.out B_p.out) 8 rfl
                    have p9 := cell_of_box (bx_later HB.out B_p.out) 9 rfl
                    have p10 := cell_of_box (bx_later HB.out B_p.out) 10 rfl
                    have q0 := cell_of_box (bx_later HB.out B_q.out) 0 rfl
                    have q1 := cell_of_box (bx_later HB.out B_q.out) 1 rfl
                    have q2 := cell_of_box (bx_later HB.out B_q.out) 2 rfl
                    have q3 := cell_of_box (bx_later HB.out B_q.out) 3 rfl
                    have q4 := cell_of_box (bx_later HB.out B_q.out) 4 rfl
                    have q5 := cell_of_box (bx_later HB.out B_q.out) 5 rfl
                    have q6 := cell_of_box (bx_later HB.out B_q.out) 6 rfl
                    have q7 := cell_of_box (bx_later HB.out B_q.out) 7 rfl
                    have q8 := cell_of_box (bx_later HB.out B_q.out) 8 rfl
                    have q9 := cell_of_box (bx_later HB.out B_q.out) 9 rfl
                    have q10 := cell_of_box (bx_later HB.out B_q.out) 10 rfl
                    have g0 := cell_of_box (bx_later HB.out B_g.out) 0 rfl
                    have g1 := cell_of_box (bx_later HB.out B_g.out) 1 rfl
                    have g2 := cell_of_box (bx_later HB.out B_g.out) 2 rfl
                    have g3 := cell_of_box (bx_later HB.out B_g.out) 3 rfl
                    have g4 := cell_of_box (bx_later HB.out B_g.out) 4 rfl
                    go_wp2_with fail
                    go_ret
                    exact ⟨by first | rfl | exact ret_bool (by simp), below_then HB1.out HB.out⟩
                  · have b2 : (pq == qq) = false := by simpa using e2
                    have NE : Hid ((⟨pd, pq⟩ : Dt) ≠ ⟨pd, qq⟩) := fun h => e2 (congrArg Dt.seq h)
                    clear e2
                    cases hv1 : hasV z0 ⟨pd, qq⟩
                    all_goals
                      have HV1 := Lib.hid hv1
                      clear hv1
                    · go_wp2_with fail
                      refine (hasV_b false HV1.out (Z0.out.later HB.out)).mono ?_
                      rintro e wn ⟨rfl, hb⟩
                      replace HB := Lib.hid (below_then HB.out (by first | exact hb | exact below_alloc_then hb | exact below_alloc_then (below_alloc_then hb)))
                      clear hb c0 c1 c2 c3 c4 y0 y1 p0 p1 p2 p3 p4 p5 p6 p7 p8 p9 p10 q0 q1 q2 q3 q4 q5 q6 q7 q8 q9 q10 g0 g1 g2 g3 g4
                      have c0 := cell_of_box (bx_later HB.out B_c.out) 0 rfl
                      have c1 := cell_of_box (bx_later HB.out B_c.out) 1 rfl
                      have c2 := cell_of_box (bx_later HB.out B_c.out) 2 rfl
                      have c3 := cell_of_box (bx_later HB.out B_c.out) 3 rfl
                      have c4 := cell_of_box (bx_later HB.out B_c.out) 4 rfl
                      have y0 := cell_of_box (bx_later HB.out B_y.out) 0 rfl
                      have y1 := cell_of_box (bx_later HB.out B_y.out) 1 rfl
                      have p0 := cell_of_box (bx_later HB.out B_p.out) 0 rfl
                      have p1 := cell_of_box (bx_later HB.out B_p.out) 1 rfl
                      have p2 := cell_of_box (bx_later HB.out B_p.out) 2 rfl
                      have p3 := cell_of_box (bx_later HB.out B_p.out) 3 rfl
                      have p4 := cell_of_box (bx_later HB.out B_p.out) 4 rfl
                      have p5 := cell_of_box (bx_later HB.out B_p.out) 5 rfl
                      have p6 := cell_of_box (bx_later HB.out B_p.out) 6 rfl
                      have p7 := cell_of_box (bx_later HB.out B_p.out) 7 rfl
                      have p8 := cell_of_box (bx_later HB.out B_p.out) 8 rfl
                      have p9 := cell_of_box (bx_later HB.out B_p.out) 9 rfl
                      have p10 := cell_of_box (bx_later HB.out B_p.out) 10 rfl
                      have q0 := cell_of_box (bx_later HB.out B_q.out) 0 rfl
                      have q1 := cell_of_box (bx_later HB.out B_q.out) 1 rfl
                      have q2 := cell_of_box (bx_later HB.out B_q.out) 2 rfl
                      have q3 := cell_of_box (bx_later HB.out B_q.out) 3 rfl
                      have q4 := cell_of_box (bx_later HB.out B_q.out) 4 rfl
                      have q5 := cell_of_box (bx_later HB.out B_q.out) 5 rfl
                      have q6 := cell_of_box (bx_later HB.out B_q.out) 6 rfl
                      have q7 := cell_of_box (bx_later HB.out B_q.out) 7 rfl
                      have q8 := cell_of_box (bx_later HB.out B_q.out) 8 rfl
                      have q9 := cell_of_box (bx_later HB.out B_q.out) 9 rfl
                      have q10 := cell_of_box (bx_later HB.out B_q.out) 10 rfl
                      have g0 := cell_of_box (bx_later HB.out B_g.out) 0 rfl
                      have g1 := cell_of_box (bx_later HB.out B_g.out) 1 rfl
                      have g2 := cell_of_box (bx_later HB.out B_g.out) 2 rfl
                      have g3 := cell_of_box (bx_later HB.out B_g.out) 3 rfl
                      have g4 := cell_of_box (bx_later HB.out B_g.out) 4 rfl
                      cases hv2 : hasV z1 ⟨pd, pq⟩
                      all_goals
                        have HV2 := Lib.hid hv2
                        clear hv2
                      · go_wp2_with fail
                        refine (hasV_b false HV2.out (Z1.out.later HB.out)).mono ?_
                        rintro e wn ⟨rfl, hb⟩
                        replace HB := Lib.hid (below_then HB.out (by first | exact hb | exact below_alloc_then hb | exact below_alloc_then (below_alloc_then hb)))
                        clear hb c0 c1 c2 c3 c4 y0 y1 p0 p1 p2 p3 p4 p5 p6 p7 p8 p9 p10 q0 q1 q2 q3 q4 q5 q6 q7 q8 q9 q10 g0 g1 g2 g3 g4
                        have c0 := cell_of_box (bx_later HB.out B_c.out) 0 rfl
                        have c1 := cell_of_box (bx_later HB.out B_c.out) 1 rfl
                        have c2 := cell_of_box (bx_later HB.out B_c.out) 2 rfl
                        have c3 := cell_of_box (bx_later HB.out B_c.out) 3 rfl
                        have c4 := cell_of_box (bx_later HB.out B_c.out) 4 rfl
                        have y0 := cell_of_box (bx_later HB.out B_y.out) 0 rfl
                        have y1 := cell_of_box (bx_later HB.out B_y.out) 1 rfl
                        have p0 := cell_of_box (bx_later HB.out B_p.out) 0 rfl
                        have p1 := cell_of_box (bx_later HB.out B_p.out) 1 rfl
                        have p2 := cell_of_box (bx_later HB.out B_p.out) 2 rfl
                        have p3 := cell_of_box (bx_later HB.out B_p.out) 3 rfl
                        have p4 := cell_of_box (bx_later HB.out B_p.out) 4 rfl
                        have p5 := cell_of_box (bx_later HB.out B_p.out) 5 rfl
                        have p6 := cell_of_box (bx_later HB.out B_p.out) 6 rfl
                        have p7 := cell_of_box (bx_later HB.out B_p.out) 7 rfl
                        have p8 := cell_of_box (bx_later HB.out B_p.out) 8 rfl
                        have p9 := cell_of_box (bx_later HB.out B_p.out) 9 rfl
                        have p10 := cell_of_box (bx_later HB.out B_p.out) 10 rfl
                        have q0 := cell_of_box (bx_later HB.out B_q.out) 0 rfl
                        have q1 := cell_of_box (bx_later HB.out B_q.out) 1 rfl
                        have q2 := cell_of_box (bx_later HB.out B_q.out) 2 rfl
                        have q3 := cell_of_box (bx_later HB.out B_q.out) 3 rfl
                        have q4 := cell_of_box (bx_later HB.out B_q.out) 4 rfl
                        have q5 := cell_of_box (bx_later HB.out B_q.out) 5 rfl
                        have q6 := cell_of_box (bx_later HB.out B_q.out) 6 rfl
                        have q7 := cell_of_box (bx_later HB.out B_q.out) 7 rfl
                        have q8 := cell_of_box (bx_later HB.out B_q.out) 8 rfl
                        have q9 := cell_of_box (bx_later HB.out B_q.out) 9 rfl
                        have q10 := cell_of_box (bx_later HB.out B_q.out) 10 rfl
                        have g0 := cell_of_box (bx_later HB.out B_g.out) 0 rfl
                        have g1 := cell_of_box (bx_later HB.out B_g.out) 1 rfl
                        have g2 := cell_of_box (bx_later HB.out B_g.out) 2 rfl
                        have g3 := cell_of_box (bx_later HB.out B_g.out) 3 rfl
                        have g4 := cell_of_box (bx_later HB.out B_g.out) 4 rfl
                        have hw := write_swap RISE.out ⟨pk, pn, ps⟩ ⟨qk, qn, qs⟩ NE.out HV1.out HV2.out
                        rw [show writeL l1 ⟨pk, pn, ps⟩ ⟨pd, pq⟩ z0 = m1 from M_m1.out, show writeL l1 ⟨qk, qn, qs⟩ ⟨pd, qq⟩ z1 = m5 from M_m5.out] at hw
                        obtain ⟨m4, hm4⟩ : ∃ m4, writeL m1 ⟨qk, qn, qs⟩ ⟨pd, qq⟩ z1 = m4 := ⟨_, rfl⟩
                        have hp1 : hasP m4 ⟨pd, pq⟩ = true := by rw [← hm4, hw]; exact hasP_write.2 (.inl rfl)
                        have hp2 : hasP m4 ⟨pd, qq⟩ = true := by rw [← hm4]; exact hasP_write.2 (.inl rfl)
                        have hml : m4.length ≤ 100 := by rw [← hm4]; have := writeL_len m1 ⟨qk, qn, qs⟩ ⟨pd, qq⟩ z1; have := L_m1.out; have := LL.out; omega
                        have M_m4 := Lib.hid hm4
                        have M_m4' := Lib.hid (hw.symm.trans hm4)
                        have HP1 := Lib.hid hp1
                        have HP2 := Lib.hid hp2
                        have L_m4 := Lib.hid hml
                        clear hw hm4 hp1 hp2 hml
                        go_upto_region 9 with fail
                        refine wp_region_flow (by kernel_rfl) 16 [(7, ⟨fun v => ∃ a k, v = .agg #[.int .i64 kd1, .int .i64 ck1, .int .i64 cn1, .string cs1, .slice a m1.length k], fun v _ _ w' => ∃ a k, v = .agg #[.int .i64 kd1, .int .i64 ck1, .int .i64 cn1, .string cs1, .slice a m1.length k] ∧ PRd w' (.slice a m1.length k) m1⟩), (14, ⟨fun v => ∃ a k, v = .agg #[.int .i64 kd1, .int .i64 ck1, .int .i64 cn1, .string cs1, .slice a m4.length k], fun v _ _ w' => ∃ a k, v = .agg #[.int .i64 kd1, .int .i64 ck1, .int .i64 cn1, .string cs1, .slice a m4.length k] ∧ OwnP w' wn.heap.size (.slice a m4.length k) m4⟩), (15, ⟨fun v => ∃ g : Nat, v = .pointer (some ⟨g, 0, none⟩), fun v _ _ w' => ∃ g : Nat, v = .pointer (some ⟨g, 0, none⟩) ∧ Bx w' g #[.int .i64 0, .int .i64 0, .int .i64 0, .string ⟨#[]⟩, .slice none 0 0] 26 ∧ wn.heap.size ≤ g⟩)] (by kernel_rfl) ?_ ?_ ?_
                        · intro x hx
                          simp only [List.mem_cons, List.not_mem_nil, or_false] at hx
                          rcases hx with rfl | rfl | rfl
                          · exact ⟨_, none, 0, rfl⟩
                          · exact ⟨_, none, 0, rfl⟩
                          · exact ⟨_, 0, rfl⟩
                        · intro x hx v lo hi w w' h hb
                          simp only [List.mem_cons, List.not_mem_nil, or_false] at hx
                          rcases hx with rfl | rfl | rfl
                          · obtain ⟨a, k, rfl, ho⟩ := h
                            exact ⟨a, k, rfl, ho.later hb⟩
                          · obtain ⟨a, k, rfl, ho⟩ := h
                            exact ⟨a, k, rfl, own_later ho hb⟩
                          · obtain ⟨g, rfl, h1, h2⟩ := h
                            exact ⟨g, rfl, bx_later hb h1, h2⟩
                        · intro lo hi
                          have kc0 := cell_regrown c0
                          have kc1 := cell_regrown c1
                          have kc2 := cell_regrown c2
                          have kc3 := cell_regrown c3
                          have kc4 := cell_regrown c4
                          have ky0 := cell_regrown y0
                          have ky1 := cell_regrown y1
                          have kp0 := cell_regrown p0
                          have kp1 := cell_regrown p1
                          have kp2 := cell_regrown p2
                          have kp3 := cell_regrown p3
                          have kp4 := cell_regrown p4
                          have kp5 := cell_regrown p5
                          have kp6 := cell_regrown p6
                          have kp7 := cell_regrown p7
                          have kp8 := cell_regrown p8
                          have kp9 := cell_regrown p9
                          have kp10 := cell_regrown p10
                          have kq0 := cell_regrown q0
                          have kq1 := cell_regrown q1
                          have kq2 := cell_regrown q2
                          have kq3 := cell_regrown q3
                          have kq4 := cell_regrown q4
                          have kq5 := cell_regrown q5
                          have kq6 := cell_regrown q6
                          have kq7 := cell_regrown q7
                          have kq8 := cell_regrown q8
                          have kq9 := cell_regrown q9
                          have kq10 := cell_regrown q10
                          have kg0 := cell_regrown g0
                          have kg1 := cell_regrown g1
                          have kg2 := cell_regrown g2
                          have kg3 := cell_regrown g3
                          have kg4 := cell_regrown g4
                          refine flowW_plain rfl ?_
                          go_big_quiet_step (fail)
                          refine wpQuiet_nil ?_
                          refine flowW_plain rfl ?_
                          go_big_quiet_step (fail)
                          refine wpQuiet_nil ?_
                          refine flowW_plain rfl ?_
                          go_big_quiet_step (fail)
                          refine wpQuiet_nil ?_
                          refine flowW_plain rfl ?_
                          go_big_quiet_step (fail)
                          refine wpQuiet_nil ?_
                          refine flowW_plain rfl ?_
                          go_big_quiet_step (fail)
                          refine wpQuiet_nil ?_
                          refine flowW_plain rfl ?_
                          go_big_quiet_step (fail)
                          refine wpQuiet_nil ?_
                          refine flowW_plain rfl ?_
                          go_big_quiet_step (fail)
                          refine wpQuiet_nil ?_
                          refine flowW_call rfl rfl ?_ ?_
                          · intro W hW hF K hK
                            clear kc0 kc1 kc2 kc3 kc4 ky0 ky1 kp0 kp1 kp2 kp3 kp4 kp5 kp6 kp7 kp8 kp9 kp10 kq0 kq1 kq2 kq3 kq4 kq5 kq6 kq7 kq8 kq9 kq10 kg0 kg1 kg2 kg3 kg4
                            go_wp2_with fail
                            refine (write_p (P1.out.later (below_then HB.out hW)) (Z0.out.later (below_then HB.out hW)) (by have := LL.out; have := L_m1.out; have := L_m2.out; have := L_m5.out; omega) M_m1.out).mono ?_
                            rintro e wq ⟨a, k, rfl, ho, hbq⟩
                            go_wp2_with fail
                            exact hK _ _ ⟨a, k, rfl⟩ ⟨a, k, rfl, ho⟩ hbq
                          rintro v ⟨a7, k7, rfl⟩ K hK
                          go_simp
                          refine hK _ ?_
                          clear hK K
                          refine flowW_plain rfl ?_
                          go_big_quiet_step (fail)
                          refine wpQuiet_nil ?_
                          refine flowW_plain rfl ?_
                          go_big_quiet_step (fail)
                          refine wpQuiet_nil ?_
                          refine flowW_plain rfl ?_
                          go_big_quiet_step (fail)
                          refine wpQuiet_nil ?_
                          refine flowW_plain rfl ?_
                          go_big_quiet_step (fail)
                          refine wpQuiet_nil ?_
                          refine flowW_plain rfl ?_
                          go_big_quiet_step (fail)
                          refine wpQuiet_nil ?_
                          refine flowW_plain rfl ?_
                          go_big_quiet_step (fail)
                          refine wpQuiet_nil ?_
                          refine flowW_call rfl rfl ?_ ?_
                          · intro W hW hF K hK
                            clear kc0 kc1 kc2 kc3 kc4 ky0 ky1 kp0 kp1 kp2 kp3 kp4 kp5 kp6 kp7 kp8 kp9 kp10 kq0 kq1 kq2 kq3 kq4 kq5 kq6 kq7 kq8 kq9 kq10 kg0 kg1 kg2 kg3 kg4
                            obtain ⟨_, _, he7, h7⟩ := hF 7 rfl
                            cases he7
                            go_wp2_with fail
                            refine (write_o h7 (Z1.out.later (below_then HB.out hW)) (by have := LL.out; have := L_m1.out; have := L_m2.out; have := L_m5.out; omega) M_m4.out).mono ?_
                            rintro e wq ⟨a, k, rfl, ho, hbq⟩
                            go_wp2_with fail
                            exact hK _ _ ⟨a, k, rfl⟩ ⟨a, k, rfl, own_monoP ho hW.size⟩ hbq
                          rintro v ⟨a14, k14, rfl⟩ K hK
                          go_simp
                          refine hK _ ?_
                          clear hK K
                          refine flowW_call rfl rfl ?_ ?_
                          · intro W hW hF K hK
                            clear kc0 kc1 kc2 kc3 kc4 ky0 ky1 kp0 kp1 kp2 kp3 kp4 kp5 kp6 kp7 kp8 kp9 kp10 kq0 kq1 kq2 kq3 kq4 kq5 kq6 kq7 kq8 kq9 kq10 kg0 kg1 kg2 kg3 kg4
                            go_wp2_with fail
                            exact hK _ _ ⟨_, rfl⟩ ⟨_, rfl, bx_new rfl, hW.size⟩ (below_alloc _ _)
                          rintro v ⟨g15, rfl⟩ K hK
                          go_simp
                          refine hK _ ?_
                          clear hK K
                          refine flowW_end fun wz hwz hF hD => ?_
                          clear kc0 kc1 kc2 kc3 kc4 ky0 ky1 kp0 kp1 kp2 kp3 kp4 kp5 kp6 kp7 kp8 kp9 kp10 kq0 kq1 kq2 kq3 kq4 kq5 kq6 kq7 kq8 kq9 kq10 kg0 kg1 kg2 kg3 kg4
                          simp only [List.drop_succ_cons, List.drop_zero]
                          obtain ⟨_, _, he, ho⟩ := hF 14
                          cases he
                          obtain ⟨_, he, bg, hg⟩ := hF 15
                          cases he
                          refine wpList_store_box rfl _ _ rfl rfl rfl (by kernel_rfl) bg rfl rfl rfl rfl ?_
                          have hbn := below_row (below_then HB.out hwz) (Nat.le_trans HB.out.size hg) #[(.int .i64 kd1), (.int .i64 ck1), (.int .i64 cn1), (.string cs1), (.slice a14 m4.length k14)]
                          have bn := bx_row bg #[(.int .i64 kd1), (.int .i64 ck1), (.int .i64 cn1), (.string cs1), (.slice a14 m4.length k14)]
                          have hn := Rd.of_own (own_row ho bg rfl #[(.int .i64 kd1), (.int .i64 ck1), (.int .i64 cn1), (.string cs1), (.slice a14 m4.length k14)])
                          clear ho
                          have HBN := Lib.hid hbn
                          have BN := Lib.hid bn
                          have HN := Lib.hid hn
                          clear hn
                          clear hbn bn bg hF c0 c1 c2 c3 c4 y0 y1 p0 p1 p2 p3 p4 p5 p6 p7 p8 p9 p10 q0 q1 q2 q3 q4 q5 q6 q7 q8 q9 q10 g0 g1 g2 g3 g4
                          go_upto_region 10 with fail
                          replace B_c := Lib.hid (bx_later HBN.out B_c.out)
                          replace B_y := Lib.hid (bx_later HBN.out B_y.out)
                          replace B_p := Lib.hid (bx_later HBN.out B_p.out)
                          replace B_q := Lib.hid (bx_later HBN.out B_q.out)
                          replace B_g := Lib.hid (bx_later HBN.out B_g.out)
                          replace P1 := Lib.hid (P1.out.later HBN.out)
                          replace Z0 := Lib.hid (Z0.out.later HBN.out)
                          replace Z1 := Lib.hid (Z1.out.later HBN.out)
                          replace P_g := Lib.hid (P_g.out.later HBN.out)
                          replace HB1 := Lib.hid (below_then HB1.out HBN.out)
                          clear HBN HB hwz hg
                          generalize wz.setRow g15 #[(.int .i64 kd1), (.int .i64 ck1), (.int .i64 cn1), (.string cs1), (.slice a14 m4.length k14)] = w3 at *
                          have HB := Lib.hid (Below.refl w3.heap.size w3)
                          have B_o := BN
                          clear BN
                          have P_o := HN
                          clear HN
                          have c0 := cell_of_box (bx_later HB.out B_c.out) 0 rfl
                          have c1 := cell_of_box (bx_later HB.out B_c.out) 1 rfl
                          have c2 := cell_of_box (bx_later HB.out B_c.out) 2 rfl
                          have c3 := cell_of_box (bx_later HB.out B_c.out) 3 rfl
                          have c4 := cell_of_box (bx_later HB.out B_c.out) 4 rfl
                          have y0 := cell_of_box (bx_later HB.out B_y.out) 0 rfl
                          have y1 := cell_of_box (bx_later HB.out B_y.out) 1 rfl
                          have p0 := cell_of_box (bx_later HB.out B_p.out) 0 rfl
                          have p1 := cell_of_box (bx_later HB.out B_p.out) 1 rfl
                          have p2 := cell_of_box (bx_later HB.out B_p.out) 2 rfl
                          have p3 := cell_of_box (bx_later HB.out B_p.out) 3 rfl
                          have p4 := cell_of_box (bx_later HB.out B_p.out) 4 rfl
                          have p5 := cell_of_box (bx_later HB.out B_p.out) 5 rfl
                          have p6 := cell_of_box (bx_later HB.out B_p.out) 6 rfl
                          have p7 := cell_of_box (bx_later HB.out B_p.out) 7 rfl
                          have p8 := cell_of_box (bx_later HB.out B_p.out) 8 rfl
                          have p9 := cell_of_box (bx_later HB.out B_p.out) 9 rfl
                          have p10 := cell_of_box (bx_later HB.out B_p.out) 10 rfl
                          have q0 := cell_of_box (bx_later HB.out B_q.out) 0 rfl
                          have q1 := cell_of_box (bx_later HB.out B_q.out) 1 rfl
                          have q2 := cell_of_box (bx_later HB.out B_q.out) 2 rfl
                          have q3 := cell_of_box (bx_later HB.out B_q.out) 3 rfl
                          have q4 := cell_of_box (bx_later HB.out B_q.out) 4 rfl
                          have q5 := cell_of_box (bx_later HB.out B_q.out) 5 rfl
                          have q6 := cell_of_box (bx_later HB.out B_q.out) 6 rfl
                          have q7 := cell_of_box (bx_later HB.out B_q.out) 7 rfl
                          have q8 := cell_of_box (bx_later HB.out B_q.out) 8 rfl
                          have q9 := cell_of_box (bx_later HB.out B_q.out) 9 rfl
                          have q10 := cell_of_box (bx_later HB.out B_q.out) 10 rfl
                          have g0 := cell_of_box (bx_later HB.out B_g.out) 0 rfl
                          have g1 := cell_of_box (bx_later HB.out B_g.out) 1 rfl
                          have g2 := cell_of_box (bx_later HB.out B_g.out) 2 rfl
                          have g3 := cell_of_box (bx_later HB.out B_g.out) 3 rfl
                          have g4 := cell_of_box (bx_later HB.out B_g.out) 4 rfl
                          have o0 := cell_of_box (bx_later HB.out B_o.out) 0 rfl
                          have o1 := cell_of_box (bx_later HB.out B_o.out) 1 rfl
                          have o2 := cell_of_box (bx_later HB.out B_o.out) 2 rfl
                          have o3 := cell_of_box (bx_later HB.out B_o.out) 3 rfl
                          have o4 := cell_of_box (bx_later HB.out B_o.out) 4 rfl
                          refine wp_region_flow (by kernel_rfl) 16 [(7, ⟨fun v => ∃ a k, v = .agg #[.int .i64 kd1, .int .i64 ck1, .int .i64 cn1, .string cs1, .slice a m5.length k], fun v _ _ w' => ∃ a k, v = .agg #[.int .i64 kd1, .int .i64 ck1, .int .i64 cn1, .string cs1, .slice a m5.length k] ∧ PRd w' (.slice a m5.length k) m5⟩), (14, ⟨fun v => ∃ a k, v = .agg #[.int .i64 kd1, .int .i64 ck1, .int .i64 cn1, .string cs1, .slice a m4.length k], fun v _ _ w' => ∃ a k, v = .agg #[.int .i64 kd1, .int .i64 ck1, .int .i64 cn1, .string cs1, .slice a m4.length k] ∧ OwnP w' w3.heap.size (.slice a m4.length k) m4⟩), (15, ⟨fun v => ∃ g : Nat, v = .pointer (some ⟨g, 0, none⟩), fun v _ _ w' => ∃ g : Nat, v = .pointer (some ⟨g, 0, none⟩) ∧ Bx w' g #[.int .i64 0, .int .i64 0, .int .i64 0, .string ⟨#[]⟩, .slice none 0 0] 26 ∧ w3.heap.size ≤ g⟩)] (by kernel_rfl) ?_ ?_ ?_
                          · intro x hx
                            simp only [List.mem_cons, List.not_mem_nil, or_false] at hx
                            rcases hx with rfl | rfl | rfl
                            · exact ⟨_, none, 0, rfl⟩
                            · exact ⟨_, none, 0, rfl⟩
                            · exact ⟨_, 0, rfl⟩
                          · intro x hx v lo hi w w' h hb
                            simp only [List.mem_cons, List.not_mem_nil, or_false] at hx
                            rcases hx with rfl | rfl | rfl
                            · obtain ⟨a, k, rfl, ho⟩ := h
                              exact ⟨a, k, rfl, ho.later hb⟩
                            · obtain ⟨a, k, rfl, ho⟩ := h
                              exact ⟨a, k, rfl, own_later ho hb⟩
                            · obtain ⟨g, rfl, h1, h2⟩ := h
                              exact ⟨g, rfl, bx_later hb h1, h2⟩
                          · intro lo hi
                            have kc0 := cell_regrown c0
                            have kc1 := cell_regrown c1
                            have kc2 := cell_regrown c2
                            have kc3 := cell_regrown c3
                            have kc4 := cell_regrown c4
                            have ky0 := cell_regrown y0
                            have ky1 := cell_regrown y1
                            have kp0 := cell_regrown p0
                            have kp1 := cell_regrown p1
                            have kp2 := cell_regrown p2
                            have kp3 := cell_regrown p3
                            have kp4 := cell_regrown p4
                            have kp5 := cell_regrown p5
                            have kp6 := cell_regrown p6
                            have kp7 := cell_regrown p7
                            have kp8 := cell_regrown p8
                            have kp9 := cell_regrown p9
                            have kp10 := cell_regrown p10
                            have kq0 := cell_regrown q0
                            have kq1 := cell_regrown q1
                            have kq2 := cell_regrown q2
                            have kq3 := cell_regrown q3
                            have kq4 := cell_regrown q4
                            have kq5 := cell_regrown q5
                            have kq6 := cell_regrown q6
                            have kq7 := cell_regrown q7
                            have kq8 := cell_regrown q8
                            have kq9 := cell_regrown q9
                            have kq10 := cell_regrown q10
                            have kg0 := cell_regrown g0
                            have kg1 := cell_regrown g1
                            have kg2 := cell_regrown g2
                            have kg3 := cell_regrown g3
                            have kg4 := cell_regrown g4
                            have ko0 := cell_regrown o0
                            have ko1 := cell_regrown o1
                            have ko2 := cell_regrown o2
                            have ko3 := cell_regrown o3
                            have ko4 := cell_regrown o4
                            refine flowW_plain rfl ?_
                            go_big_quiet_step (fail)
                            refine wpQuiet_nil ?_
                            refine flowW_plain rfl ?_
                            go_big_quiet_step (fail)
                            refine wpQuiet_nil ?_
                            refine flowW_plain rfl ?_
                            go_big_quiet_step (fail)
                            refine wpQuiet_nil ?_
                            refine flowW_plain rfl ?_
                            go_big_quiet_step (fail)
                            refine wpQuiet_nil ?_
                            refine flowW_plain rfl ?_
                            go_big_quiet_step (fail)
                            refine wpQuiet_nil ?_
                            refine flowW_plain rfl ?_
                            go_big_quiet_step (fail)
                            refine wpQuiet_nil ?_
                            refine flowW_plain rfl ?_
                            go_big_quiet_step (fail)
                            refine wpQuiet_nil ?_
                            refine flowW_call rfl rfl ?_ ?_
                            · intro W hW hF K hK
                              clear kc0 kc1 kc2 kc3 kc4 ky0 ky1 kp0 kp1 kp2 kp3 kp4 kp5 kp6 kp7 kp8 kp9 kp10 kq0 kq1 kq2 kq3 kq4 kq5 kq6 kq7 kq8 kq9 kq10 kg0 kg1 kg2 kg3 kg4 ko0 ko1 ko2 ko3 ko4
                              go_wp2_with fail
                              refine (write_p (P1.out.later (below_then HB.out hW)) (Z1.out.later (below_then HB.out hW)) (by have := LL.out; have := L_m1.out; have := L_m2.out; have := L_m5.out; omega) M_m5.out).mono ?_
                              rintro e wq ⟨a, k, rfl, ho, hbq⟩
                              go_wp2_with fail
                              exact hK _ _ ⟨a, k, rfl⟩ ⟨a, k, rfl, ho⟩ hbq
                            rintro v ⟨a7, k7, rfl⟩ K hK
                            go_simp
                            refine hK _ ?_
                            clear hK K
                            refine flowW_plain rfl ?_
                            go_big_quiet_step (fail)
                            refine wpQuiet_nil ?_
                            refine flowW_plain rfl ?_
                            go_big_quiet_step (fail)
                            refine wpQuiet_nil ?_
                            refine flowW_plain rfl ?_
                            go_big_quiet_step (fail)
                            refine wpQuiet_nil ?_
                            refine flowW_plain rfl ?_
                            go_big_quiet_step (fail)
                            refine wpQuiet_nil ?_
                            refine flowW_plain rfl ?_
                            go_big_quiet_step (fail)
                            refine wpQuiet_nil ?_
                            refine flowW_plain rfl ?_
                            go_big_quiet_step (fail)
                            refine wpQuiet_nil ?_
                            refine flowW_call rfl rfl ?_ ?_
                            · intro W hW hF K hK
                              clear kc0 kc1 kc2 kc3 kc4 ky0 ky1 kp0 kp1 kp2 kp3 kp4 kp5 kp6 kp7 kp8 kp9 kp10 kq0 kq1 kq2 kq3 kq4 kq5 kq6 kq7 kq8 kq9 kq10 kg0 kg1 kg2 kg3 kg4 ko0 ko1 ko2 ko3 ko4
                              obtain ⟨_, _, he7, h7⟩ := hF 7 rfl
                              cases he7
                              go_wp2_with fail
                              refine (write_o h7 (Z0.out.later (below_then HB.out hW)) (by have := LL.out; have := L_m1.out; have := L_m2.out; have := L_m5.out; omega) M_m4'.out).mono ?_
                              rintro e wq ⟨a, k, rfl, ho, hbq⟩
                              go_wp2_with fail
                              exact hK _ _ ⟨a, k, rfl⟩ ⟨a, k, rfl, own_monoP ho hW.size⟩ hbq
                            rintro v ⟨a14, k14, rfl⟩ K hK
                            go_simp
                            refine hK _ ?_
                            clear hK K
                            refine flowW_call rfl rfl ?_ ?_
                            · intro W hW hF K hK
                              clear kc0 kc1 kc2 kc3 kc4 ky0 ky1 kp0 kp1 kp2 kp3 kp4 kp5 kp6 kp7 kp8 kp9 kp10 kq0 kq1 kq2 kq3 kq4 kq5 kq6 kq7 kq8 kq9 kq10 kg0 kg1 kg2 kg3 kg4 ko0 ko1 ko2 ko3 ko4
                              go_wp2_with fail
                              exact hK _ _ ⟨_, rfl⟩ ⟨_, rfl, bx_new rfl, hW.size⟩ (below_alloc _ _)
                            rintro v ⟨g15, rfl⟩ K hK
                            go_simp
                            refine hK _ ?_
                            clear hK K
                            refine flowW_end fun wz hwz hF hD => ?_
                            clear kc0 kc1 kc2 kc3 kc4 ky0 ky1 kp0 kp1 kp2 kp3 kp4 kp5 kp6 kp7 kp8 kp9 kp10 kq0 kq1 kq2 kq3 kq4 kq5 kq6 kq7 kq8 kq9 kq10 kg0 kg1 kg2 kg3 kg4 ko0 ko1 ko2 ko3 ko4
                            simp only [List.drop_succ_cons, List.drop_zero]
                            obtain ⟨_, _, he, ho⟩ := hF 14
                            cases he
                            obtain ⟨_, he, bg, hg⟩ := hF 15
                            cases he
                            refine wpList_store_box rfl _ _ rfl rfl rfl (by kernel_rfl) bg rfl rfl rfl rfl ?_
                            have hbn := below_row (below_then HB.out hwz) (Nat.le_trans HB.out.size hg) #[(.int .i64 kd1), (.int .i64 ck1), (.int .i64 cn1), (.string cs1), (.slice a14 m4.length k14)]
                            have bn := bx_row bg #[(.int .i64 kd1), (.int .i64 ck1), (.int .i64 cn1), (.string cs1), (.slice a14 m4.length k14)]
                            have hn := Rd.of_own (own_row ho bg rfl #[(.int .i64 kd1), (.int .i64 ck1), (.int .i64 cn1), (.string cs1), (.slice a14 m4.length k14)])
                            clear ho
                            have HBN := Lib.hid hbn
                            have BN := Lib.hid bn
                            have HN := Lib.hid hn
                            clear hn
                            clear hbn bn bg hF c0 c1 c2 c3 c4 y0 y1 p0 p1 p2 p3 p4 p5 p6 p7 p8 p9 p10 q0 q1 q2 q3 q4 q5 q6 q7 q8 q9 q10 g0 g1 g2 g3 g4 o0 o1 o2 o3 o4
                            go_upto_region 11 with fail
                            replace B_c := Lib.hid (bx_later HBN.out B_c.out)
                            replace B_y := Lib.hid (bx_later HBN.out B_y.out)
                            replace B_p := Lib.hid (bx_later HBN.out B_p.out)
                            replace B_q := Lib.hid (bx_later HBN.out B_q.out)
                            replace B_g := Lib.hid (bx_later HBN.out B_g.out)
                            replace B_o := Lib.hid (bx_later HBN.out B_o.out)
                            replace P1 := Lib.hid (P1.out.later HBN.out)
                            replace Z0 := Lib.hid (Z0.out.later HBN.out)
                            replace Z1 := Lib.hid (Z1.out.later HBN.out)
                            replace P_g := Lib.hid (P_g.out.later HBN.out)
                            replace P_o := Lib.hid (P_o.out.later HBN.out)
                            replace HB1 := Lib.hid (below_then HB1.out HBN.out)
                            clear HBN HB hwz hg
                            generalize wz.setRow g15 #[(.int .i64 kd1), (.int .i64 ck1), (.int .i64 cn1), (.string cs1), (.slice a14 m4.length k14)] = w4 at *
                            have HB := Lib.hid (Below.refl w4.heap.size w4)
                            have B_u := BN
                            clear BN
                            have P_u := HN
                            clear HN
                            have c0 := cell_of_box (bx_later HB.out B_c.out) 0 rfl
                            have c1 := cell_of_box (bx_later HB.out B_c.out) 1 rfl
                            have c2 := cell_of_box (bx_later HB.out B_c.out) 2 rfl
                            have c3 := cell_of_box (bx_later HB.out B_c.out) 3 rfl
                            have c4 := cell_of_box (bx_later HB.out B_c.out) 4 rfl
                            have y0 := cell_of_box (bx_later HB.out B_y.out) 0 rfl
                            have y1 := cell_of_box (bx_later HB.out B_y.out) 1 rfl
                            have p0 := cell_of_box (bx_later HB.out B_p.out) 0 rfl
                            have p1 := cell_of_box (bx_later HB.out B_p.out) 1 rfl
                            have p2 := cell_of_box (bx_later HB.out B_p.out) 2 rfl
                            have p3 := cell_of_box (bx_later HB.out B_p.out) 3 rfl
                            have p4 := cell_of_box (bx_later HB.out B_p.out) 4 rfl
                            have p5 := cell_of_box (bx_later HB.out B_p.out) 5 rfl
                            have p6 := cell_of_box (bx_later HB.out B_p.out) 6 rfl
                            have p7 := cell_of_box (bx_later HB.out B_p.out) 7 rfl
                            have p8 := cell_of_box (bx_later HB.out B_p.out) 8 rfl
                            have p9 := cell_of_box (bx_later HB.out B_p.out) 9 rfl
                            have p10 := cell_of_box (bx_later HB.out B_p.out) 10 rfl
                            have q0 := cell_of_box (bx_later HB.out B_q.out) 0 rfl
                            have q1 := cell_of_box (bx_later HB.out B_q.out) 1 rfl
                            have q2 := cell_of_box (bx_later HB.out B_q.out) 2 rfl
                            have q3 := cell_of_box (bx_later HB.out B_q.out) 3 rfl
                            have q4 := cell_of_box (bx_later HB.out B_q.out) 4 rfl
                            have q5 := cell_of_box (bx_later HB.out B_q.out) 5 rfl
                            have q6 := cell_of_box (bx_later HB.out B_q.out) 6 rfl
                            have q7 := cell_of_box (bx_later HB.out B_q.out) 7 rfl
                            have q8 := cell_of_box (bx_later HB.out B_q.out) 8 rfl
                            have q9 := cell_of_box (bx_later HB.out B_q.out) 9 rfl
                            have q10 := cell_of_box (bx_later HB.out B_q.out) 10 rfl
                            have g0 := cell_of_box (bx_later HB.out B_g.out) 0 rfl
                            have g1 := cell_of_box (bx_later HB.out B_g.out) 1 rfl
                            have g2 := cell_of_box (bx_later HB.out B_g.out) 2 rfl
                            have g3 := cell_of_box (bx_later HB.out B_g.out) 3 rfl
                            have g4 := cell_of_box (bx_later HB.out B_g.out) 4 rfl
                            have o0 := cell_of_box (bx_later HB.out B_o.out) 0 rfl
                            have o1 := cell_of_box (bx_later HB.out B_o.out) 1 rfl
                            have o2 := cell_of_box (bx_later HB.out B_o.out) 2 rfl
                            have o3 := cell_of_box (bx_later HB.out B_o.out) 3 rfl
                            have o4 := cell_of_box (bx_later HB.out B_o.out) 4 rfl
                            have u0 := cell_of_box (bx_later HB.out B_u.out) 0 rfl
                            have u1 := cell_of_box (bx_later HB.out B_u.out) 1 rfl
                            have u2 := cell_of_box (bx_later HB.out B_u.out) 2 rfl
                            have u3 := cell_of_box (bx_later HB.out B_u.out) 3 rfl
                            have u4 := cell_of_box (bx_later HB.out B_u.out) 4 rfl
                            go_wp2_with fail
                            refine (alive_any _).mono ?_
                            rintro e wn ⟨rfl, hb⟩
                            replace HB := Lib.hid (below_then HB.out (by first | exact hb | exact below_alloc_then hb | exact below_alloc_then (below_alloc_then hb)))
                            clear hb c0 c1 c2 c3 c4 y0 y1 p0 p1 p2 p3 p4 p5 p6 p7 p8 p9 p10 q0 q1 q2 q3 q4 q5 q6 q7 q8 q9 q10 g0 g1 g2 g3 g4 o0 o1 o2 o3 o4 u0 u1 u2 u3 u4
                            have c0 := cell_of_box (bx_later HB.out B_c.out) 0 rfl
                            have c1 := cell_of_box (bx_later HB.out B_c.out) 1 rfl
                            have c2 := cell_of_box (bx_later HB.out B_c.out) 2 rfl
                            have c3 := cell_of_box (bx_later HB.out B_c.out) 3 rfl
                            have c4 := cell_of_box (bx_later HB.out B_c.out) 4 rfl
                            have y0 := cell_of_box (bx_later HB.out B_y.out) 0 rfl
                            have y1 := cell_of_box (bx_later HB.out B_y.out) 1 rfl
                            have p0 := cell_of_box (bx_later HB.out B_p.out) 0 rfl
                            have p1 := cell_of_box (bx_later HB.out B_p.out) 1 rfl
                            have p2 := cell_of_box (bx_later HB.out B_p.out) 2 rfl
                            have p3 := cell_of_box (bx_later HB.out B_p.out) 3 rfl
                            have p4 := cell_of_box (bx_later HB.out B_p.out) 4 rfl
                            have p5 := cell_of_box (bx_later HB.out B_p.out) 5 rfl
                            have p6 := cell_of_box (bx_later HB.out B_p.out) 6 rfl
                            have p7 := cell_of_box (bx_later HB.out B_p.out) 7 rfl
                            have p8 := cell_of_box (bx_later HB.out B_p.out) 8 rfl
                            have p9 := cell_of_box (bx_later HB.out B_p.out) 9 rfl
                            have p10 := cell_of_box (bx_later HB.out B_p.out) 10 rfl
                            have q0 := cell_of_box (bx_later HB.out B_q.out) 0 rfl
                            have q1 := cell_of_box (bx_later HB.out B_q.out) 1 rfl
                            have q2 := cell_of_box (bx_later HB.out B_q.out) 2 rfl
                            have q3 := cell_of_box (bx_later HB.out B_q.out) 3 rfl
                            have q4 := cell_of_box (bx_later HB.out B_q.out) 4 rfl
                            have q5 := cell_of_box (bx_later HB.out B_q.out) 5 rfl
                            have q6 := cell_of_box (bx_later HB.out B_q.out) 6 rfl
                            have q7 := cell_of_box (bx_later HB.out B_q.out) 7 rfl
                            have q8 := cell_of_box (bx_later HB.out B_q.out) 8 rfl
                            have q9 := cell_of_box (bx_later HB.out B_q.out) 9 rfl
                            have q10 := cell_of_box (bx_later HB.out B_q.out) 10 rfl
                            have g0 := cell_of_box (bx_later HB.out B_g.out) 0 rfl
                            have g1 := cell_of_box (bx_later HB.out B_g.out) 1 rfl
                            have g2 := cell_of_box (bx_later HB.out B_g.out) 2 rfl
                            have g3 := cell_of_box (bx_later HB.out B_g.out) 3 rfl
                            have g4 := cell_of_box (bx_later HB.out B_g.out) 4 rfl
                            have o0 := cell_of_box (bx_later HB.out B_o.out) 0 rfl
                            have o1 := cell_of_box (bx_later HB.out B_o.out) 1 rfl
                            have o2 := cell_of_box (bx_later HB.out B_o.out) 2 rfl
                            have o3 := cell_of_box (bx_later HB.out B_o.out) 3 rfl
                            have o4 := cell_of_box (bx_later HB.out B_o.out) 4 rfl
                            have u0 := cell_of_box (bx_later HB.out B_u.out) 0 rfl
                            have u1 := cell_of_box (bx_later HB.out B_u.out) 1 rfl
                            have u2 := cell_of_box (bx_later HB.out B_u.out) 2 rfl
                            have u3 := cell_of_box (bx_later HB.out B_u.out) 3 rfl
                            have u4 := cell_of_box (bx_later HB.out B_u.out) 4 rfl
                            go_wp2_with fail
                            refine (same_p m4 (P_o.out.later HB.out) (P_u.out.later HB.out) (by have := L_m4.out; omega)).mono ?_
                            rintro e wn ⟨rfl, hb⟩
                            replace HB := Lib.hid (below_then HB.out (by first | exact hb | exact below_alloc_then hb | exact below_alloc_then (below_alloc_then hb)))
                            clear hb c0 c1 c2 c3 c4 y0 y1 p0 p1 p2 p3 p4 p5 p6 p7 p8 p9 p10 q0 q1 q2 q3 q4 q5 q6 q7 q8 q9 q10 g0 g1 g2 g3 g4 o0 o1 o2 o3 o4 u0 u1 u2 u3 u4
                            have c0 := cell_of_box (bx_later HB.out B_c.out) 0 rfl
                            have c1 := cell_of_box (bx_later HB.out B_c.out) 1 rfl
                            have c2 := cell_of_box (bx_later HB.out B_c.out) 2 rfl
                            have c3 := cell_of_box (bx_later HB.out B_c.out) 3 rfl
                            have c4 := cell_of_box (bx_later HB.out B_c.out) 4 rfl
                            have y0 := cell_of_box (bx_later HB.out B_y.out) 0 rfl
                            have y1 := cell_of_box (bx_later HB.out B_y.out) 1 rfl
                            have p0 := cell_of_box (bx_later HB.out B_p.out) 0 rfl
                            have p1 := cell_of_box (bx_later HB.out B_p.out) 1 rfl
                            have p2 := cell_of_box (bx_later HB.out B_p.out) 2 rfl
                            have p3 := cell_of_box (bx_later HB.out B_p.out) 3 rfl
                            have p4 := cell_of_box (bx_later HB.out B_p.out) 4 rfl
                            have p5 := cell_of_box (bx_later HB.out B_p.out) 5 rfl
                            have p6 := cell_of_box (bx_later HB.out B_p.out) 6 rfl
                            have p7 := cell_of_box (bx_later HB.out B_p.out) 7 rfl
                            have p8 := cell_of_box (bx_later HB.out B_p.out) 8 rfl
                            have p9 := cell_of_box (bx_later HB.out B_p.out) 9 rfl
                            have p10 := cell_of_box (bx_later HB.out B_p.out) 10 rfl
                            have q0 := cell_of_box (bx_later HB.out B_q.out) 0 rfl
                            have q1 := cell_of_box (bx_later HB.out B_q.out) 1 rfl
                            have q2 := cell_of_box (bx_later HB.out B_q.out) 2 rfl
                            have q3 := cell_of_box (bx_later HB.out B_q.out) 3 rfl
                            have q4 := cell_of_box (bx_later HB.out B_q.out) 4 rfl
                            have q5 := cell_of_box (bx_later HB.out B_q.out) 5 rfl
                            have q6 := cell_of_box (bx_later HB.out B_q.out) 6 rfl
                            have q7 := cell_of_box (bx_later HB.out B_q.out) 7 rfl
                            have q8 := cell_of_box (bx_later HB.out B_q.out) 8 rfl
                            have q9 := cell_of_box (bx_later HB.out B_q.out) 9 rfl
                            have q10 := cell_of_box (bx_later HB.out B_q.out) 10 rfl
                            have g0 := cell_of_box (bx_later HB.out B_g.out) 0 rfl
                            have g1 := cell_of_box (bx_later HB.out B_g.out) 1 rfl
                            have g2 := cell_of_box (bx_later HB.out B_g.out) 2 rfl
                            have g3 := cell_of_box (bx_later HB.out B_g.out) 3 rfl
                            have g4 := cell_of_box (bx_later HB.out B_g.out) 4 rfl
                            have o0 := cell_of_box (bx_later HB.out B_o.out) 0 rfl
                            have o1 := cell_of_box (bx_later HB.out B_o.out) 1 rfl
                            have o2 := cell_of_box (bx_later HB.out B_o.out) 2 rfl
                            have o3 := cell_of_box (bx_later HB.out B_o.out) 3 rfl
                            have o4 := cell_of_box (bx_later HB.out B_o.out) 4 rfl
                            have u0 := cell_of_box (bx_later HB.out B_u.out) 0 rfl
                            have u1 := cell_of_box (bx_later HB.out B_u.out) 1 rfl
                            have u2 := cell_of_box (bx_later HB.out B_u.out) 2 rfl
                            have u3 := cell_of_box (bx_later HB.out B_u.out) 3 rfl
                            have u4 := cell_of_box (bx_later HB.out B_u.out) 4 rfl
                            go_wp2_with fail
                            refine (has_b true HP1.out (P_o.out.later HB.out) (by have := L_m4.out; omega)).mono ?_
                            rintro e wn ⟨rfl, hb⟩
                            replace HB := Lib.hid (below_then HB.out (by first | exact hb | exact below_alloc_then hb | exact below_alloc_then (below_alloc_then hb)))
                            clear hb c0 c1 c2 c3 c4 y0 y1 p0 p1 p2 p3 p4 p5 p6 p7 p8 p9 p10 q0 q1 q2 q3 q4 q5 q6 q7 q8 q9 q10 g0 g1 g2 g3 g4 o0 o1 o2 o3 o4 u0 u1 u2 u3 u4
                            have c0 := cell_of_box (bx_later HB.out B_c.out) 0 rfl
                            have c1 := cell_of_box (bx_later HB.out B_c.out) 1 rfl
                            have c2 := cell_of_box (bx_later HB.out B_c.out) 2 rfl
                            have c3 := cell_of_box (bx_later HB.out B_c.out) 3 rfl
                            have c4 := cell_of_box (bx_later HB.out B_c.out) 4 rfl
                            have y0 := cell_of_box (bx_later HB.out B_y.out) 0 rfl
                            have y1 := cell_of_box (bx_later HB.out B_y.out) 1 rfl
                            have p0 := cell_of_box (bx_later HB.out B_p.out) 0 rfl
                            have p1 := cell_of_box (bx_later HB.out B_p.out) 1 rfl
                            have p2 := cell_of_box (bx_later HB.out B_p.out) 2 rfl
                            have p3 := cell_of_box (bx_later HB.out B_p.out) 3 rfl
                            have p4 := cell_of_box (bx_later HB.out B_p.out) 4 rfl
                            have p5 := cell_of_box (bx_later HB.out B_p.out) 5 rfl
                            have p6 := cell_of_box (bx_later HB.out B_p.out) 6 rfl
                            have p7 := cell_of_box (bx_later HB.out B_p.out) 7 rfl
                            have p8 := cell_of_box (bx_later HB.out B_p.out) 8 rfl
                            have p9 := cell_of_box (bx_later HB.out B_p.out) 9 rfl
                            have p10 := cell_of_box (bx_later HB.out B_p.out) 10 rfl
                            have q0 := cell_of_box (bx_later HB.out B_q.out) 0 rfl
                            have q1 := cell_of_box (bx_later HB.out B_q.out) 1 rfl
                            have q2 := cell_of_box (bx_later HB.out B_q.out) 2 rfl
                            have q3 := cell_of_box (bx_later HB.out B_q.out) 3 rfl
                            have q4 := cell_of_box (bx_later HB.out B_q.out) 4 rfl
                            have q5 := cell_of_box (bx_later HB.out B_q.out) 5 rfl
                            have q6 := cell_of_box (bx_later HB.out B_q.out) 6 rfl
                            have q7 := cell_of_box (bx_later HB.out B_q.out) 7 rfl
                            have q8 := cell_of_box (bx_later HB.out B_q.out) 8 rfl
                            have q9 := cell_of_box (bx_later HB.out B_q.out) 9 rfl
                            have q10 := cell_of_box (bx_later HB.out B_q.out) 10 rfl
                            have g0 := cell_of_box (bx_later HB.out B_g.out) 0 rfl
                            have g1 := cell_of_box (bx_later HB.out B_g.out) 1 rfl
                            have g2 := cell_of_box (bx_later HB.out B_g.out) 2 rfl
                            have g3 := cell_of_box (bx_later HB.out B_g.out) 3 rfl
                            have g4 := cell_of_box (bx_later HB.out B_g.out) 4 rfl
                            have o0 := cell_of_box (bx_later HB.out B_o.out) 0 rfl
                            have o1 := cell_of_box (bx_later HB.out B_o.out) 1 rfl
                            have o2 := cell_of_box (bx_later HB.out B_o.out) 2 rfl
                            have o3 := cell_of_box (bx_later HB.out B_o.out) 3 rfl
                            have o4 := cell_of_box (bx_later HB.out B_o.out) 4 rfl
                            have u0 := cell_of_box (bx_later HB.out B_u.out) 0 rfl
                            have u1 := cell_of_box (bx_later HB.out B_u.out) 1 rfl
                            have u2 := cell_of_box (bx_later HB.out B_u.out) 2 rfl
                            have u3 := cell_of_box (bx_later HB.out B_u.out) 3 rfl
                            have u4 := cell_of_box (bx_later HB.out B_u.out) 4 rfl
                            go_wp2_with fail
                            refine (has_b true HP2.out (P_o.out.later HB.out) (by have := L_m4.out; omega)).mono ?_
                            rintro e wn ⟨rfl, hb⟩
                            replace HB := Lib.hid (below_then HB.out (by first | exact hb | exact below_alloc_then hb | exact below_alloc_then (below_alloc_then hb)))
                            clear hb c0 c1 c2 c3 c4 y0 y1 p0 p1 p2 p3 p4 p5 p6 p7 p8 p9 p10 q0 q1 q2 q3 q4 q5 q6 q7 q8 q9 q10 g0 g1 g2 g3 g4 o0 o1 o2 o3 o4 u0 u1 u2 u3 u4
                            have c0 := cell_of_box (bx_later HB.out B_c.out) 0 rfl
                            have c1 := cell_of_box (bx_later HB.out B_c.out) 1 rfl
                            have c2 := cell_of_box (bx_later HB.out B_c.out) 2 rfl
                            have c3 := cell_of_box (bx_later HB.out B_c.out) 3 rfl
                            have c4 := cell_of_box (bx_later HB.out B_c.out) 4 rfl
                            have y0 := cell_of_box (bx_later HB.out B_y.out) 0 rfl
                            have y1 := cell_of_box (bx_later HB.out B_y.out) 1 rfl
                            have p0 := cell_of_box (bx_later HB.out B_p.out) 0 rfl
                            have p1 := cell_of_box (bx_later HB.out B_p.out) 1 rfl
                            have p2 := cell_of_box (bx_later HB.out B_p.out) 2 rfl
                            have p3 := cell_of_box (bx_later HB.out B_p.out) 3 rfl
                            have p4 := cell_of_box (bx_later HB.out B_p.out) 4 rfl
                            have p5 := cell_of_box (bx_later HB.out B_p.out) 5 rfl
                            have p6 := cell_of_box (bx_later HB.out B_p.out) 6 rfl
                            have p7 := cell_of_box (bx_later HB.out B_p.out) 7 rfl
                            have p8 := cell_of_box (bx_later HB.out B_p.out) 8 rfl
                            have p9 := cell_of_box (bx_later HB.out B_p.out) 9 rfl
                            have p10 := cell_of_box (bx_later HB.out B_p.out) 10 rfl
                            have q0 := cell_of_box (bx_later HB.out B_q.out) 0 rfl
                            have q1 := cell_of_box (bx_later HB.out B_q.out) 1 rfl
                            have q2 := cell_of_box (bx_later HB.out B_q.out) 2 rfl
                            have q3 := cell_of_box (bx_later HB.out B_q.out) 3 rfl
                            have q4 := cell_of_box (bx_later HB.out B_q.out) 4 rfl
                            have q5 := cell_of_box (bx_later HB.out B_q.out) 5 rfl
                            have q6 := cell_of_box (bx_later HB.out B_q.out) 6 rfl
                            have q7 := cell_of_box (bx_later HB.out B_q.out) 7 rfl
                            have q8 := cell_of_box (bx_later HB.out B_q.out) 8 rfl
                            have q9 := cell_of_box (bx_later HB.out B_q.out) 9 rfl
                            have q10 := cell_of_box (bx_later HB.out B_q.out) 10 rfl
                            have g0 := cell_of_box (bx_later HB.out B_g.out) 0 rfl
                            have g1 := cell_of_box (bx_later HB.out B_g.out) 1 rfl
                            have g2 := cell_of_box (bx_later HB.out B_g.out) 2 rfl
                            have g3 := cell_of_box (bx_later HB.out B_g.out) 3 rfl
                            have g4 := cell_of_box (bx_later HB.out B_g.out) 4 rfl
                            have o0 := cell_of_box (bx_later HB.out B_o.out) 0 rfl
                            have o1 := cell_of_box (bx_later HB.out B_o.out) 1 rfl
                            have o2 := cell_of_box (bx_later HB.out B_o.out) 2 rfl
                            have o3 := cell_of_box (bx_later HB.out B_o.out) 3 rfl
                            have o4 := cell_of_box (bx_later HB.out B_o.out) 4 rfl
                            have u0 := cell_of_box (bx_later HB.out B_u.out) 0 rfl
                            have u1 := cell_of_box (bx_later HB.out B_u.out) 1 rfl
                            have u2 := cell_of_box (bx_later HB.out B_u.out) 2 rfl
                            have u3 := cell_of_box (bx_later HB.out B_u.out) 3 rfl
                            have u4 := cell_of_box (bx_later HB.out B_u.out) 4 rfl
                            go_wp2_with fail
                            go_ret
                            exact ⟨by first | rfl | exact ret_bool (by simp), below_then HB1.out HB.out⟩
                      · go_wp2_with fail
                        refine (hasV_b true HV2.out (Z1.out.later HB.out)).mono ?_
                        rintro e wn ⟨rfl, hb⟩
                        replace HB := Lib.hid (below_then HB.out (by first | exact hb | exact below_alloc_then hb | exact below_alloc_then (below_alloc_then hb)))
                        clear hb c0 c1 c2 c3 c4 y0 y1 p0 p1 p2 p3 p4 p5 p6 p7 p8 p9 p10 q0 q1 q2 q3 q4 q5 q6 q7 q8 q9 q10 g0 g1 g2 g3 g4
                        have c0 := cell_of_box (bx_later HB.out B_c.out) 0 rfl
                        have c1 := cell_of_box (bx_later HB.out B_c.out) 1 rfl
                        have c2 := cell_of_box (bx_later HB.out B_c.out) 2 rfl
                        have c3 := cell_of_box (bx_later HB.out B_c.out) 3 rfl
                        have c4 := cell_of_box (bx_later HB.out B_c.out) 4 rfl
                        have y0 := cell_of_box (bx_later HB.out B_y.out) 0 rfl
                        have y1 := cell_of_box (bx_later HB.out B_y.out) 1 rfl
                        have p0 := cell_of_box (bx_later HB.out B_p.out) 0 rfl
                        have p1 := cell_of_box (bx_later HB.out B_p.out) 1 rfl
                        have p2 := cell_of_box (bx_later HB.out B_p.out) 2 rfl
                        have p3 := cell_of_box (bx_later HB.out B_p.out) 3 rfl
                        have p4 := cell_of_box (bx_later HB.out B_p.out) 4 rfl
                        have p5 := cell_of_box (bx_later HB.out B_p.out) 5 rfl
                        have p6 := cell_of_box (bx_later HB.out B_p.out) 6 rfl
                        have p7 := cell_of_box (bx_later HB.out B_p.out) 7 rfl
                        have p8 := cell_of_box (bx_later HB.out B_p.out) 8 rfl
                        have p9 := cell_of_box (bx_later HB.out B_p.out) 9 rfl
                        have p10 := cell_of_box (bx_later HB.out B_p.out) 10 rfl
                        have q0 := cell_of_box (bx_later HB.out B_q.out) 0 rfl
                        have q1 := cell_of_box (bx_later HB.out B_q.out) 1 rfl
                        have q2 := cell_of_box (bx_later HB.out B_q.out) 2 rfl
                        have q3 := cell_of_box (bx_later HB.out B_q.out) 3 rfl
                        have q4 := cell_of_box (bx_later HB.out B_q.out) 4 rfl
                        have q5 := cell_of_box (bx_later HB.out B_q.out) 5 rfl
                        have q6 := cell_of_box (bx_later HB.out B_q.out) 6 rfl
                        have q7 := cell_of_box (bx_later HB.out B_q.out) 7 rfl
                        have q8 := cell_of_box (bx_later HB.out B_q.out) 8 rfl
                        have q9 := cell_of_box (bx_later HB.out B_q.out) 9 rfl
                        have q10 := cell_of_box (bx_later HB.out B_q.out) 10 rfl
                        have g0 := cell_of_box (bx_later HB.out B_g.out) 0 rfl
                        have g1 := cell_of_box (bx_later HB.out B_g.out) 1 rfl
                        have g2 := cell_of_box (bx_later HB.out B_g.out) 2 rfl
                        have g3 := cell_of_box (bx_later HB.out B_g.out) 3 rfl
                        have g4 := cell_of_box (bx_later HB.out B_g.out) 4 rfl
                        go_wp2_with fail
                        refine (alive_any _).mono ?_
                        rintro e wn ⟨rfl, hb⟩
                        replace HB := Lib.hid (below_then HB.out (by first | exact hb | exact below_alloc_then hb | exact below_alloc_then (below_alloc_then hb)))
                        clear hb c0 c1 c2 c3 c4 y0 y1 p0 p1 p2 p3 p4 p5 p6 p7 p8 p9 p10 q0 q1 q2 q3 q4 q5 q6 q7 q8 q9 q10 g0 g1 g2 g3 g4
                        have c0 := cell_of_box (bx_later HB.out B_c.out) 0 rfl
                        have c1 := cell_of_box (bx_later HB.out B_c.out) 1 rfl
                        have c2 := cell_of_box (bx_later HB.out B_c.out) 2 rfl
                        have c3 := cell_of_box (bx_later HB.out B_c.out) 3 rfl
                        have c4 := cell_of_box (bx_later HB.out B_c.out) 4 rfl
                        have y0 := cell_of_box (bx_later HB.out B_y.out) 0 rfl
                        have y1 := cell_of_box (bx_later HB.out B_y.out) 1 rfl
                        have p0 := cell_of_box (bx_later HB.out B_p.out) 0 rfl
                        have p1 := cell_of_box (bx_later HB.out B_p.out) 1 rfl
                        have p2 := cell_of_box (bx_later HB.out B_p.out) 2 rfl
                        have p3 := cell_of_box (bx_later HB.out B_p.out) 3 rfl
                        have p4 := cell_of_box (bx_later HB.out B_p.out) 4 rfl
                        have p5 := cell_of_box (bx_later HB.out B_p.out) 5 rfl
                        have p6 := cell_of_box (bx_later HB.out B_p.out) 6 rfl
                        have p7 := cell_of_box (bx_later HB.out B_p.out) 7 rfl
                        have p8 := cell_of_box (bx_later HB.out B_p.out) 8 rfl
                        have p9 := cell_of_box (bx_later HB.out B_p.out) 9 rfl
                        have p10 := cell_of_box (bx_later HB.out B_p.out) 10 rfl
                        have q0 := cell_of_box (bx_later HB.out B_q.out) 0 rfl
                        have q1 := cell_of_box (bx_later HB.out B_q.out) 1 rfl
                        have q2 := cell_of_box (bx_later HB.out B_q.out) 2 rfl
                        have q3 := cell_of_box (bx_later HB.out B_q.out) 3 rfl
                        have q4 := cell_of_box (bx_later HB.out B_q.out) 4 rfl
                        have q5 := cell_of_box (bx_later HB.out B_q.out) 5 rfl
                        have q6 := cell_of_box (bx_later HB.out B_q.out) 6 rfl
                        have q7 := cell_of_box (bx_later HB.out B_q.out) 7 rfl
                        have q8 := cell_of_box (bx_later HB.out B_q.out) 8 rfl
                        have q9 := cell_of_box (bx_later HB.out B_q.out) 9 rfl
                        have q10 := cell_of_box (bx_later HB.out B_q.out) 10 rfl
                        have g0 := cell_of_box (bx_later HB.out B_g.out) 0 rfl
                        have g1 := cell_of_box (bx_later HB.out B_g.out) 1 rfl
                        have g2 := cell_of_box (bx_later HB.out B_g.out) 2 rfl
                        have g3 := cell_of_box (bx_later HB.out B_g.out) 3 rfl
                        have g4 := cell_of_box (bx_later HB.out B_g.out) 4 rfl
                        go_wp2_with fail
                        go_ret
                        exact ⟨by first | rfl | exact ret_bool (by simp), below_then HB1.out HB.out⟩
                    · go_wp2_with fail
                      refine (hasV_b true HV1.out (Z0.out.later HB.out)).mono ?_
                      rintro e wn ⟨rfl, hb⟩
                      replace HB := Lib.hid (below_then HB.out (by first | exact hb | exact below_alloc_then hb | exact below_alloc_then (below_alloc_then hb)))
                      clear hb c0 c1 c2 c3 c4 y0 y1 p0 p1 p2 p3 p4 p5 p6 p7 p8 p9 p10 q0 q1 q2 q3 q4 q5 q6 q7 q8 q9 q10 g0 g1 g2 g3 g4
                      have c0 := cell_of_box (bx_later HB.out B_c.out) 0 rfl
                      have c1 := cell_of_box (bx_later HB.out B_c.out) 1 rfl
                      have c2 := cell_of_box (bx_later HB.out B_c.out) 2 rfl
                      have c3 := cell_of_box (bx_later HB.out B_c.out) 3 rfl
                      have c4 := cell_of_box (bx_later HB.out B_c.out) 4 rfl
                      have y0 := cell_of_box (bx_later HB.out B_y.out) 0 rfl
                      have y1 := cell_of_box (bx_later HB.out B_y.out) 1 rfl
                      have p0 := cell_of_box (bx_later HB.out B_p.out) 0 rfl
                      have p1 := cell_of_box (bx_later HB.out B_p.out) 1 rfl
                      have p2 := cell_of_box (bx_later HB.out B_p.out) 2 rfl
                      have p3 := cell_of_box (bx_later HB.out B_p.out) 3 rfl
                      have p4 := cell_of_box (bx_later HB.out B_p.out) 4 rfl
                      have p5 := cell_of_box (bx_later HB.out B_p.out) 5 rfl
                      have p6 := cell_of_box (bx_later HB.out B_p.out) 6 rfl
                      have p7 := cell_of_box (bx_later HB.out B_p.out) 7 rfl
                      have p8 := cell_of_box (bx_later HB.out B_p.out) 8 rfl
                      have p9 := cell_of_box (bx_later HB.out B_p.out) 9 rfl
                      have p10 := cell_of_box (bx_later HB.out B_p.out) 10 rfl
                      have q0 := cell_of_box (bx_later HB.out B_q.out) 0 rfl
                      have q1 := cell_of_box (bx_later HB.out B_q.out) 1 rfl
                      have q2 := cell_of_box (bx_later HB.out B_q.out) 2 rfl
                      have q3 := cell_of_box (bx_later HB.out B_q.out) 3 rfl
                      have q4 := cell_of_box (bx_later HB.out B_q.out) 4 rfl
                      have q5 := cell_of_box (bx_later HB.out B_q.out) 5 rfl
                      have q6 := cell_of_box (bx_later HB.out B_q.out) 6 rfl
                      have q7 := cell_of_box (bx_later HB.out B_q.out) 7 rfl
                      have q8 := cell_of_box (bx_later HB.out B_q.out) 8 rfl
                      have q9 := cell_of_box (bx_later HB.out B_q.out) 9 rfl
                      have q10 := cell_of_box (bx_later HB.out B_q.out) 10 rfl
                      have g0 := cell_of_box (bx_later HB.out B_g.out) 0 rfl
                      have g1 := cell_of_box (bx_later HB.out B_g.out) 1 rfl
                      have g2 := cell_of_box (bx_later HB.out B_g.out) 2 rfl
                      have g3 := cell_of_box (bx_later HB.out B_g.out) 3 rfl
                      have g4 := cell_of_box (bx_later HB.out B_g.out) 4 rfl
                      go_wp2_with fail
                      refine (alive_any _).mono ?_
                      rintro e wn ⟨rfl, hb⟩
                      replace HB := Lib.hid (below_then HB.out (by first | exact hb | exact below_alloc_then hb | exact below_alloc_then (below_alloc_then hb)))
                      clear hb c0 c1 c2 c3 c4 y0 y1 p0 p1 p2 p3 p4 p5 p6 p7 p8 p9 p10 q0 q1 q2 q3 q4 q5 q6 q7 q8 q9 q10 g0 g1 g2 g3 g4
                      have c0 := cell_of_box (bx_later HB.out B_c.out) 0 rfl
                      have c1 := cell_of_box (bx_later HB.out B_c.out) 1 rfl
                      have c2 := cell_of_box (bx_later HB.out B_c.out) 2 rfl
                      have c3 := cell_of_box (bx_later HB.out B_c.out) 3 rfl
                      have c4 := cell_of_box (bx_later HB.out B_c.out) 4 rfl
                      have y0 := cell_of_box (bx_later HB.out B_y.out) 0 rfl
                      have y1 := cell_of_box (bx_later HB.out B_y.out) 1 rfl
                      have p0 := cell_of_box (bx_later HB.out B_p.out) 0 rfl
                      have p1 := cell_of_box (bx_later HB.out B_p.out) 1 rfl
                      have p2 := cell_of_box (bx_later HB.out B_p.out) 2 rfl
                      have p3 := cell_of_box (bx_later HB.out B_p.out) 3 rfl
                      have p4 := cell_of_box (bx_later HB.out B_p.out) 4 rfl
                      have p5 := cell_of_box (bx_later HB.out B_p.out) 5 rfl
                      have p6 := cell_of_box (bx_later HB.out B_p.out) 6 rfl
                      have p7 := cell_of_box (bx_later HB.out B_p.out) 7 rfl
                      have p8 := cell_of_box (bx_later HB.out B_p.out) 8 rfl
                      have p9 := cell_of_box (bx_later HB.out B_p.out) 9 rfl
                      have p10 := cell_of_box (bx_later HB.out B_p.out) 10 rfl
                      have q0 := cell_of_box (bx_later HB.out B_q.out) 0 rfl
                      have q1 := cell_of_box (bx_later HB.out B_q.out) 1 rfl
                      have q2 := cell_of_box (bx_later HB.out B_q.out) 2 rfl
                      have q3 := cell_of_box (bx_later HB.out B_q.out) 3 rfl
                      have q4 := cell_of_box (bx_later HB.out B_q.out) 4 rfl
                      have q5 := cell_of_box (bx_later HB.out B_q.out) 5 rfl
                      have q6 := cell_of_box (bx_later HB.out B_q.out) 6 rfl
                      have q7 := cell_of_box (bx_later HB.out B_q.out) 7 rfl
                      have q8 := cell_of_box (bx_later HB.out B_q.out) 8 rfl
                      have q9 := cell_of_box (bx_later HB.out B_q.out) 9 rfl
                      have q10 := cell_of_box (bx_later HB.out B_q.out) 10 rfl
                      have g0 := cell_of_box (bx_later HB.out B_g.out) 0 rfl
                      have g1 := cell_of_box (bx_later HB.out B_g.out) 1 rfl
                      have g2 := cell_of_box (bx_later HB.out B_g.out) 2 rfl
                      have g3 := cell_of_box (bx_later HB.out B_g.out) 3 rfl
                      have g4 := cell_of_box (bx_later HB.out B_g.out) 4 rfl
                      go_wp2_with fail
                      go_ret
                      exact ⟨by first | rfl | exact ret_bool (by simp), below_then HB1.out HB.out⟩
                · have b1 : (pd == qd) = false := by simpa using e1
                  have NE : Hid ((⟨pd, pq⟩ : Dt) ≠ ⟨qd, qq⟩) := fun h => e1 (congrArg Dt.dev h)
                  clear e1
                  cases hv1 : hasV z0 ⟨qd, qq⟩
                  all_goals
                    have HV1 := Lib.hid hv1
                    clear hv1
                  · go_wp2_with fail
                    refine (hasV_b false HV1.out (Z0.out.later HB.out)).mono ?_
                    rintro e wn ⟨rfl, hb⟩
                    replace HB := Lib.hid (below_then HB.out (by first | exact hb | exact below_alloc_then hb | exact below_alloc_then (below_alloc_then hb)))
                    clear hb c0 c1 c2 c3 c4 y0 y1 p0 p1 p2 p3 p4 p5 p6 p7 p8 p9 p10 q0 q1 q2 q3 q4 q5 q6 q7 q8 q9 q10 g0 g1 g2 g3 g4
                    have c0 := cell_of_box (bx_later HB.out B_c.out) 0 rfl
                    have c1 := cell_of_box (bx_later HB.out B_c.out) 1 rfl
                    have c2 := cell_of_box (bx_later HB.out B_c.out) 2 rfl
                    have c3 := cell_of_box (bx_later HB.out B_c.out) 3 rfl
                    have c4 := cell_of_box (bx_later HB.out B_c.out) 4 rfl
                    have y0 := cell_of_box (bx_later HB.out B_y.out) 0 rfl
                    have y1 := cell_of_box (bx_later HB.out B_y.out) 1 rfl
                    have p0 := cell_of_box (bx_later HB.out B_p.out) 0 rfl
                    have p1 := cell_of_box (bx_later HB.out B_p.out) 1 rfl
                    have p2 := cell_of_box (bx_later HB.out B_p.out) 2 rfl
                    have p3 := cell_of_box (bx_later HB.out B_p.out) 3 rfl
                    have p4 := cell_of_box (bx_later HB.out B_p.out) 4 rfl
                    have p5 := cell_of_box (bx_later HB.out B_p.out) 5 rfl
                    have p6 := cell_of_box (bx_later HB.out B_p.out) 6 rfl
                    have p7 := cell_of_box (bx_later HB.out B_p.out) 7 rfl
                    have p8 := cell_of_box (bx_later HB.out B_p.out) 8 rfl
                    have p9 := cell_of_box (bx_later HB.out B_p.out) 9 rfl
                    have p10 := cell_of_box (bx_later HB.out B_p.out) 10 rfl
                    have q0 := cell_of_box (bx_later HB.out B_q.out) 0 rfl
                    have q1 := cell_of_box (bx_later HB.out B_q.out) 1 rfl
                    have q2 := cell_of_box (bx_later HB.out B_q.out) 2 rfl
                    have q3 := cell_of_box (bx_later HB.out B_q.out) 3 rfl
                    have q4 := cell_of_box (bx_later HB.out B_q.out) 4 rfl
                    have q5 := cell_of_box (bx_later HB.out B_q.out) 5 rfl
                    have q6 := cell_of_box (bx_later HB.out B_q.out) 6 rfl
                    have q7 := cell_of_box (bx_later HB.out B_q.out) 7 rfl
                    have q8 := cell_of_box (bx_later HB.out B_q.out) 8 rfl
                    have q9 := cell_of_box (bx_later HB.out B_q.out) 9 rfl
                    have q10 := cell_of_box (bx_later HB.out B_q.out) 10 rfl
                    have g0 := cell_of_box (bx_later HB.out B_g.out) 0 rfl
                    have g1 := cell_of_box (bx_later HB.out B_g.out) 1 rfl
                    have g2 := cell_of_box (bx_later HB.out B_g.out) 2 rfl
                    have g3 := cell_of_box (bx_later HB.out B_g.out) 3 rfl
                    have g4 := cell_of_box (bx_later HB.out B_g.out) 4 rfl
                    cases hv2 : hasV z1 ⟨pd, pq⟩
                    all_goals
                      have HV2 := Lib.hid hv2
                      clear hv2
                    · go_wp2_with fail
                      refine (hasV_b false HV2.out (Z1.out.later HB.out)).mono ?_
                      rintro e wn ⟨rfl, hb⟩
                      replace HB := Lib.hid (below_then HB.out (by first | exact hb | exact below_alloc_then hb | exact below_alloc_then (below_alloc_then hb)))
                      clear hb c0 c1 c2 c3 c4 y0 y1 p0 p1 p2 p3 p4 p5 p6 p7 p8 p9 p10 q0 q1 q2 q3 q4 q5 q6 q7 q8 q9 q10 g0 g1 g2 g3 g4
                      have c0 := cell_of_box (bx_later HB.out B_c.out) 0 rfl
                      have c1 := cell_of_box (bx_later HB.out B_c.out) 1 rfl
                      have c2 := cell_of_box (bx_later HB.out B_c.out) 2 rfl
                      have c3 := cell_of_box (bx_later HB.out B_c.out) 3 rfl
                      have c4 := cell_of_box (bx_later HB.out B_c.out) 4 rfl
                      have y0 := cell_of_box (bx_later HB.out B_y.out) 0 rfl
                      have y1 := cell_of_box (bx_later HB.out B_y.out) 1 rfl
                      have p0 := cell_of_box (bx_later HB.out B_p.out) 0 rfl
                      have p1 := cell_of_box (bx_later HB.out B_p.out) 1 rfl
                      have p2 := cell_of_box (bx_later HB.out B_p.out) 2 rfl
                      have p3 := cell_of_box (bx_later HB.out B_p.out) 3 rfl
                      have p4 := cell_of_box (bx_later HB.out B_p.out) 4 rfl
                      have p5 := cell_of_box (bx_later HB.out B_p.out) 5 rfl
                      have p6 := cell_of_box (bx_later HB.out B_p.out) 6 rfl
                      have p7 := cell_of_box (bx_later HB.out B_p.out) 7 rfl
                      have p8 := cell_of_box (bx_later HB.out B_p.out) 8 rfl
                      have p9 := cell_of_box (bx_later HB.out B_p.out) 9 rfl
                      have p10 := cell_of_box (bx_later HB.out B_p.out) 10 rfl
                      have q0 := cell_of_box (bx_later HB.out B_q.out) 0 rfl
                      have q1 := cell_of_box (bx_later HB.out B_q.out) 1 rfl
                      have q2 := cell_of_box (bx_later HB.out B_q.out) 2 rfl
                      have q3 := cell_of_box (bx_later HB.out B_q.out) 3 rfl
                      have q4 := cell_of_box (bx_later HB.out B_q.out) 4 rfl
                      have q5 := cell_of_box (bx_later HB.out B_q.out) 5 rfl
                      have q6 := cell_of_box (bx_later HB.out B_q.out) 6 rfl
                      have q7 := cell_of_box (bx_later HB.out B_q.out) 7 rfl
                      have q8 := cell_of_box (bx_later HB.out B_q.out) 8 rfl
                      have q9 := cell_of_box (bx_later HB.out B_q.out) 9 rfl
                      have q10 := cell_of_box (bx_later HB.out B_q.out) 10 rfl
                      have g0 := cell_of_box (bx_later HB.out B_g.out) 0 rfl
                      have g1 := cell_of_box (bx_later HB.out B_g.out) 1 rfl
                      have g2 := cell_of_box (bx_later HB.out B_g.out) 2 rfl
                      have g3 := cell_of_box (bx_later HB.out B_g.out) 3 rfl
                      have g4 := cell_of_box (bx_later HB.out B_g.out) 4 rfl
                      have hw := write_swap RISE.out ⟨pk, pn, ps⟩ ⟨qk, qn, qs⟩ NE.out HV1.out HV2.out
                      rw [show writeL l1 ⟨pk, pn, ps⟩ ⟨pd, pq⟩ z0 = m1 from M_m1.out, show writeL l1 ⟨qk, qn, qs⟩ ⟨qd, qq⟩ z1 = m5 from M_m5.out] at hw
                      obtain ⟨m4, hm4⟩ : ∃ m4, writeL m1 ⟨qk, qn, qs⟩ ⟨qd, qq⟩ z1 = m4 := ⟨_, rfl⟩
                      have hp1 : hasP m4 ⟨pd, pq⟩ = true := by rw [← hm4, hw]; exact hasP_write.2 (.inl rfl)
                      have hp2 : hasP m4 ⟨qd, qq⟩ = true := by rw [← hm4]; exact hasP_write.2 (.inl rfl)
                      have hml : m4.length ≤ 100 := by rw [← hm4]; have := writeL_len m1 ⟨qk, qn, qs⟩ ⟨qd, qq⟩ z1; have := L_m1.out; have := LL.out; omega
                      have M_m4 := Lib.hid hm4
                      have M_m4' := Lib.hid (hw.symm.trans hm4)
                      have HP1 := Lib.hid hp1
                      have HP2 := Lib.hid hp2
                      have L_m4 := Lib.hid hml
                      clear hw hm4 hp1 hp2 hml
                      go_upto_region 9 with fail
                      refine wp_region_flow (by kernel_rfl) 16 [(7, ⟨fun v => ∃ a k, v = .agg #[.int .i64 kd1, .int .i64 ck1, .int .i64 cn1, .string cs1, .slice a m1.length k], fun v _ _ w' => ∃ a k, v = .agg #[.int .i64 kd1, .int .i64 ck1, .int .i64 cn1, .string cs1, .slice a m1.length k] ∧ PRd w' (.slice a m1.length k) m1⟩), (14, ⟨fun v => ∃ a k, v = .agg #[.int .i64 kd1, .int .i64 ck1, .int .i64 cn1, .string cs1, .slice a m4.length k], fun v _ _ w' => ∃ a k, v = .agg #[.int .i64 kd1, .int .i64 ck1, .int .i64 cn1, .string cs1, .slice a m4.length k] ∧ OwnP w' wn.heap.size (.slice a m4.length k) m4⟩), (15, ⟨fun v => ∃ g : Nat, v = .pointer (some ⟨g, 0, none⟩), fun v _ _ w' => ∃ g : Nat, v = .pointer (some ⟨g, 0, none⟩) ∧ Bx w' g #[.int .i64 0, .int .i64 0, .int .i64 0, .string ⟨#[]⟩, .slice none 0 0] 26 ∧ wn.heap.size ≤ g⟩)] (by kernel_rfl) ?_ ?_ ?_
                      · intro x hx
                        simp only [List.mem_cons, List.not_mem_nil, or_false] at hx
                        rcases hx with rfl | rfl | rfl
                        · exact ⟨_, none, 0, rfl⟩
                        · exact ⟨_, none, 0, rfl⟩
                        · exact ⟨_, 0, rfl⟩
                      · intro x hx v lo hi w w' h hb
                        simp only [List.mem_cons, List.not_mem_nil, or_false] at hx
                        rcases hx with rfl | rfl | rfl
                        · obtain ⟨a, k, rfl, ho⟩ := h
                          exact ⟨a, k, rfl, ho.later hb⟩
                        · obtain ⟨a, k, rfl, ho⟩ := h
                          exact ⟨a, k, rfl, own_later ho hb⟩
                        · obtain ⟨g, rfl, h1, h2⟩ := h
                          exact ⟨g, rfl, bx_later hb h1, h2⟩
                      · intro lo hi
                        have kc0 := cell_regrown c0
                        have kc1 := cell_regrown c1
                        have kc2 := cell_regrown c2
                        have kc3 := cell_regrown c3
                        have kc4 := cell_regrown c4
                        have ky0 := cell_regrown y0
                        have ky1 := cell_regrown y1
                        have kp0 := cell_regrown p0
                        have kp1 := cell_regrown p1
                        have kp2 := cell_regrown p2
                        have kp3 := cell_regrown p3
                        have kp4 := cell_regrown p4
                        have kp5 := cell_regrown p5
                        have kp6 := cell_regrown p6
                        have kp7 := cell_regrown p7
                        have kp8 := cell_regrown p8
                        have kp9 := cell_regrown p9
                        have kp10 := cell_regrown p10
                        have kq0 := cell_regrown q0
                        have kq1 := cell_regrown q1
                        have kq2 := cell_regrown q2
                        have kq3 := cell_regrown q3
                        have kq4 := cell_regrown q4
                        have kq5 := cell_regrown q5
                        have kq6 := cell_regrown q6
                        have kq7 := cell_regrown q7
                        have kq8 := cell_regrown q8
                        have kq9 := cell_regrown q9
                        have kq10 := cell_regrown q10
                        have kg0 := cell_regrown g0
                        have kg1 := cell_regrown g1
                        have kg2 := cell_regrown g2
                        have kg3 := cell_regrown g3
                        have kg4 := cell_regrown g4
                        refine flowW_plain rfl ?_
                        go_big_quiet_step (fail)
                        refine wpQuiet_nil ?_
                        refine flowW_plain rfl ?_
                        go_big_quiet_step (fail)
                        refine wpQuiet_nil ?_
                        refine flowW_plain rfl ?_
                        go_big_quiet_step (fail)
                        refine wpQuiet_nil ?_
                        refine flowW_plain rfl ?_
                        go_big_quiet_step (fail)
                        refine wpQuiet_nil ?_
                        refine flowW_plain rfl ?_
                        go_big_quiet_step (fail)
                        refine wpQuiet_nil ?_
                        refine flowW_plain rfl ?_
                        go_big_quiet_step (fail)
                        refine wpQuiet_nil ?_
                        refine flowW_plain rfl ?_
                        go_big_quiet_step (fail)
                        refine wpQuiet_nil ?_
                        refine flowW_call rfl rfl ?_ ?_
                        · intro W hW hF K hK
                          clear kc0 kc1 kc2 kc3 kc4 ky0 ky1 kp0 kp1 kp2 kp3 kp4 kp5 kp6 kp7 kp8 kp9 kp10 kq0 kq1 kq2 kq3 kq4 kq5 kq6 kq7 kq8 kq9 kq10 kg0 kg1 kg2 kg3 kg4
                          go_wp2_with fail
                          refine (write_p (P1.out.later (below_then HB.out hW)) (Z0.out.later (below_then HB.out hW)) (by have := LL.out; have := L_m1.out; have := L_m2.out; have := L_m5.out; omega) M_m1.out).mono ?_
                          rintro e wq ⟨a, k, rfl, ho, hbq⟩
                          go_wp2_with fail
                          exact hK _ _ ⟨a, k, rfl⟩ ⟨a, k, rfl, ho⟩ hbq
                        rintro v ⟨a7, k7, rfl⟩ K hK
                        go_simp
                        refine hK _ ?_
                        clear hK K
                        refine flowW_plain rfl ?_
                        go_big_quiet_step (fail)
                        refine wpQuiet_nil ?_
                        refine flowW_plain rfl ?_
                        go_big_quiet_step (fail)
                        refine wpQuiet_nil ?_
                        refine flowW_plain rfl ?_
                        go_big_quiet_step (fail)
                        refine wpQuiet_nil ?_
                        refine flowW_plain rfl ?_
                        go_big_quiet_step (fail)
                        refine wpQuiet_nil ?_
                        refine flowW_plain rfl ?_
                        go_big_quiet_step (fail)
                        refine wpQuiet_nil ?_
                        refine flowW_plain rfl ?_
                        go_big_quiet_step (fail)
                        refine wpQuiet_nil ?_
                        refine flowW_call rfl rfl ?_ ?_
                        · intro W hW hF K hK
                          clear kc0 kc1 kc2 kc3 kc4 ky0 ky1 kp0 kp1 kp2 kp3 kp4 kp5 kp6 kp7 kp8 kp9 kp10 kq0 kq1 kq2 kq3 kq4 kq5 kq6 kq7 kq8 kq9 kq10 kg0 kg1 kg2 kg3 kg4
                          obtain ⟨_, _, he7, h7⟩ := hF 7 rfl
                          cases he7
                          go_wp2_with fail
                          refine (write_o h7 (Z1.out.later (below_then HB.out hW)) (by have := LL.out; have := L_m1.out; have := L_m2.out; have := L_m5.out; omega) M_m4.out).mono ?_
                          rintro e wq ⟨a, k, rfl, ho, hbq⟩
                          go_wp2_with fail
                          exact hK _ _ ⟨a, k, rfl⟩ ⟨a, k, rfl, own_monoP ho hW.size⟩ hbq
                        rintro v ⟨a14, k14, rfl⟩ K hK
                        go_simp
                        refine hK _ ?_
                        clear hK K
                        refine flowW_call rfl rfl ?_ ?_
                        · intro W hW hF K hK
                          clear kc0 kc1 kc2 kc3 kc4 ky0 ky1 kp0 kp1 kp2 kp3 kp4 kp5 kp6 kp7 kp8 kp9 kp10 kq0 kq1 kq2 kq3 kq4 kq5 kq6 kq7 kq8 kq9 kq10 kg0 kg1 kg2 kg3 kg4
                          go_wp2_with fail
                          exact hK _ _ ⟨_, rfl⟩ ⟨_, rfl, bx_new rfl, hW.size⟩ (below_alloc _ _)
                        rintro v ⟨g15, rfl⟩ K hK
                        go_simp
                        refine hK _ ?_
                        clear hK K
                        refine flowW_end fun wz hwz hF hD => ?_
                        clear kc0 kc1 kc2 kc3 kc4 ky0 ky1 kp0 kp1 kp2 kp3 kp4 kp5 kp6 kp7 kp8 kp9 kp10 kq0 kq1 kq2 kq3 kq4 kq5 kq6 kq7 kq8 kq9 kq10 kg0 kg1 kg2 kg3 kg4
                        simp only [List.drop_succ_cons, List.drop_zero]
                        obtain ⟨_, _, he, ho⟩ := hF 14
                        cases he
                        obtain ⟨_, he, bg, hg⟩ := hF 15
                        cases he
                        refine wpList_store_box rfl _ _ rfl rfl rfl (by kernel_rfl) bg rfl rfl rfl rfl ?_
                        have hbn := below_row (below_then HB.out hwz) (Nat.le_trans HB.out.size hg) #[(.int .i64 kd1), (.int .i64 ck1), (.int .i64 cn1), (.string cs1), (.slice a14 m4.length k14)]
                        have bn := bx_row bg #[(.int .i64 kd1), (.int .i64 ck1), (.int .i64 cn1), (.string cs1), (.slice a14 m4.length k14)]
                        have hn := Rd.of_own (own_row ho bg rfl #[(.int .i64 kd1), (.int .i64 ck1), (.int .i64 cn1), (.string cs1), (.slice a14 m4.length k14)])
                        clear ho
                        have HBN := Lib.hid hbn
                        have BN := Lib.hid bn
                        have HN := Lib.hid hn
                        clear hn
                        clear hbn bn bg hF c0 c1 c2 c3 c4 y0 y1 p0 p1 p2 p3 p4 p5 p6 p7 p8 p9 p10 q0 q1 q2 q3 q4 q5 q6 q7 q8 q9 q10 g0 g1 g2 g3 g4
                        go_upto_region 10 with fail
                        replace B_c := Lib.hid (bx_later HBN.out B_c.out)
                        replace B_y := Lib.hid (bx_later HBN.out B_y.out)
                        replace B_p := Lib.hid (bx_later HBN.out B_p.out)
                        replace B_q := Lib.hid (bx_later HBN.out B_q.out)
                        replace B_g := Lib.hid (bx_later HBN.out B_g.out)
                        replace P1 := Lib.hid (P1.out.later HBN.out)
                        replace Z0 := Lib.hid (Z0.out.later HBN.out)
                        replace Z1 := Lib.hid (Z1.out.later HBN.out)
                        replace P_g := Lib.hid (P_g.out.later HBN.out)
                        replace HB1 := Lib.hid (below_then HB1.out HBN.out)
                        clear HBN HB hwz hg
                        generalize wz.setRow g15 #[(.int .i64 kd1), (.int .i64 ck1), (.int .i64 cn1), (.string cs1), (.slice a14 m4.length k14)] = w3 at *
                        have HB := Lib.hid (Below.refl w3.heap.size w3)
                        have B_o := BN
                        clear BN
                        have P_o := HN
                        clear HN
                        have c0 := cell_of_box (bx_later HB.out B_c.out) 0 rfl
                        have c1 := cell_of_box (bx_later HB.out B_c.out) 1 rfl
                        have c2 := cell_of_box (bx_later HB.out B_c.out) 2 rfl
                        have c3 := cell_of_box (bx_later HB.out B_c.out) 3 rfl
                        have c4 := cell_of_box (bx_later HB.out B_c.out) 4 rfl
                        have y0 := cell_of_box (bx_later HB.out B_y.out) 0 rfl
                        have y1 := cell_of_box (bx_later HB.out B_y.out) 1 rfl
                        have p0 := cell_of_box (bx_later HB.out B_p.out) 0 rfl
                        have p1 := cell_of_box (bx_later HB.out B_p.out) 1 rfl
                        have p2 := cell_of_box (bx_later HB.out B_p.out) 2 rfl
                        have p3 := cell_of_box (bx_later HB.out B_p.out) 3 rfl
                        have p4 := cell_of_box (bx_later HB.out B_p.out) 4 rfl
                        have p5 := cell_of_box (bx_later HB.out B_p.out) 5 rfl
                        have p6 := cell_of_box (bx_later HB.out B_p.out) 6 rfl
                        have p7 := cell_of_box (bx_later HB.out B_p.out) 7 rfl
                        have p8 := cell_of_box (bx_later HB.out B_p.out) 8 rfl
                        have p9 := cell_of_box (bx_later HB.out B_p.out) 9 rfl
                        have p10 := cell_of_box (bx_later HB.out B_p.out) 10 rfl
                        have q0 := cell_of_box (bx_later HB.out B_q.out) 0 rfl
                        have q1 := cell_of_box (bx_later HB.out B_q.out) 1 rfl
                        have q2 := cell_of_box (bx_later HB.out B_q.out) 2 rfl
                        have q3 := cell_of_box (bx_later HB.out B_q.out) 3 rfl
                        have q4 := cell_of_box (bx_later HB.out B_q.out) 4 rfl
                        have q5 := cell_of_box (bx_later HB.out B_q.out) 5 rfl
                        have q6 := cell_of_box (bx_later HB.out B_q.out) 6 rfl
                        have q7 := cell_of_box (bx_later HB.out B_q.out) 7 rfl
                        have q8 := cell_of_box (bx_later HB.out B_q.out) 8 rfl
                        have q9 := cell_of_box (bx_later HB.out B_q.out) 9 rfl
                        have q10 := cell_of_box (bx_later HB.out B_q.out) 10 rfl
                        have g0 := cell_of_box (bx_later HB.out B_g.out) 0 rfl
                        have g1 := cell_of_box (bx_later HB.out B_g.out) 1 rfl
                        have g2 := cell_of_box (bx_later HB.out B_g.out) 2 rfl
                        have g3 := cell_of_box (bx_later HB.out B_g.out) 3 rfl
                        have g4 := cell_of_box (bx_later HB.out B_g.out) 4 rfl
                        have o0 := cell_of_box (bx_later HB.out B_o.out) 0 rfl
                        have o1 := cell_of_box (bx_later HB.out B_o.out) 1 rfl
                        have o2 := cell_of_box (bx_later HB.out B_o.out) 2 rfl
                        have o3 := cell_of_box (bx_later HB.out B_o.out) 3 rfl
                        have o4 := cell_of_box (bx_later HB.out B_o.out) 4 rfl
                        refine wp_region_flow (by kernel_rfl) 16 [(7, ⟨fun v => ∃ a k, v = .agg #[.int .i64 kd1, .int .i64 ck1, .int .i64 cn1, .string cs1, .slice a m5.length k], fun v _ _ w' => ∃ a k, v = .agg #[.int .i64 kd1, .int .i64 ck1, .int .i64 cn1, .string cs1, .slice a m5.length k] ∧ PRd w' (.slice a m5.length k) m5⟩), (14, ⟨fun v => ∃ a k, v = .agg #[.int .i64 kd1, .int .i64 ck1, .int .i64 cn1, .string cs1, .slice a m4.length k], fun v _ _ w' => ∃ a k, v = .agg #[.int .i64 kd1, .int .i64 ck1, .int .i64 cn1, .string cs1, .slice a m4.length k] ∧ OwnP w' w3.heap.size (.slice a m4.length k) m4⟩), (15, ⟨fun v => ∃ g : Nat, v = .pointer (some ⟨g, 0, none⟩), fun v _ _ w' => ∃ g : Nat, v = .pointer (some ⟨g, 0, none⟩) ∧ Bx w' g #[.int .i64 0, .int .i64 0, .int .i64 0, .string ⟨#[]⟩, .slice none 0 0] 26 ∧ w3.heap.size ≤ g⟩)] (by kernel_rfl) ?_ ?_ ?_
                        · intro x hx
                          simp only [List.mem_cons, List.not_mem_nil, or_false] at hx
                          rcases hx with rfl | rfl | rfl
                          · exact ⟨_, none, 0, rfl⟩
                          · exact ⟨_, none, 0, rfl⟩
                          · exact ⟨_, 0, rfl⟩
                        · intro x hx v lo hi w w' h hb
                          simp only [List.mem_cons, List.not_mem_nil, or_false] at hx
                          rcases hx with rfl | rfl | rfl
                          · obtain ⟨a, k, rfl, ho⟩ := h
                            exact ⟨a, k, rfl, ho.later hb⟩
                          · obtain ⟨a, k, rfl, ho⟩ := h
                            exact ⟨a, k, rfl, own_later ho hb⟩
                          · obtain ⟨g, rfl, h1, h2⟩ := h
                            exact ⟨g, rfl, bx_later hb h1, h2⟩
                        · intro lo hi
                          have kc0 := cell_regrown c0
                          have kc1 := cell_regrown c1
                          have kc2 := cell_regrown c2
                          have kc3 := cell_regrown c3
                          have kc4 := cell_regrown c4
                          have ky0 := cell_regrown y0
                          have ky1 := cell_regrown y1
                          have kp0 := cell_regrown p0
                          have kp1 := cell_regrown p1
                          have kp2 := cell_regrown p2
                          have kp3 := cell_regrown p3
                          have kp4 := cell_regrown p4
                          have kp5 := cell_regrown p5
                          have kp6 := cell_regrown p6
                          have kp7 := cell_regrown p7
                          have kp8 := cell_regrown p8
                          have kp9 := cell_regrown p9
                          have kp10 := cell_regrown p10
                          have kq0 := cell_regrown q0
                          have kq1 := cell_regrown q1
                          have kq2 := cell_regrown q2
                          have kq3 := cell_regrown q3
                          have kq4 := cell_regrown q4
                          have kq5 := cell_regrown q5
                          have kq6 := cell_regrown q6
                          have kq7 := cell_regrown q7
                          have kq8 := cell_regrown q8
                          have kq9 := cell_regrown q9
                          have kq10 := cell_regrown q10
                          have kg0 := cell_regrown g0
                          have kg1 := cell_regrown g1
                          have kg2 := cell_regrown g2
                          have kg3 := cell_regrown g3
                          have kg4 := cell_regrown g4
                          have ko0 := cell_regrown o0
                          have ko1 := cell_regrown o1
                          have ko2 := cell_regrown o2
                          have ko3 := cell_regrown o3
                          have ko4 := cell_regrown o4
                          refine flowW_plain rfl ?_
                          go_big_quiet_step (fail)
                          refine wpQuiet_nil ?_
                          refine flowW_plain rfl ?_
                          go_big_quiet_step (fail)
                          refine wpQuiet_nil ?_
                          refine flowW_plain rfl ?_
                          go_big_quiet_step (fail)
                          refine wpQuiet_nil ?_
                          refine flowW_plain rfl ?_
                          go_big_quiet_step (fail)
                          refine wpQuiet_nil ?_
                          refine flowW_plain rfl ?_
                          go_big_quiet_step (fail)
                          refine wpQuiet_nil ?_
                          refine flowW_plain rfl ?_
                          go_big_quiet_step (fail)
                          refine wpQuiet_nil ?_
                          refine flowW_plain rfl ?_
                          go_big_quiet_step (fail)
                          refine wpQuiet_nil ?_
                          refine flowW_call rfl rfl ?_ ?_
                          · intro W hW hF K hK
                            clear kc0 kc1 kc2 kc3 kc4 ky0 ky1 kp0 kp1 kp2 kp3 kp4 kp5 kp6 kp7 kp8 kp9 kp10 kq0 kq1 kq2 kq3 kq4 kq5 kq6 kq7 kq8 kq9 kq10 kg0 kg1 kg2 kg3 kg4 ko0 ko1 ko2 ko3 ko4
                            go_wp2_with fail
                            refine (write_p (P1.out.later (below_then HB.out hW)) (Z1.out.later (below_then HB.out hW)) (by have := LL.out; have := L_m1.out; have := L_m2.out; have := L_m5.out; omega) M_m5.out).mono ?_
                            rintro e wq ⟨a, k, rfl, ho, hbq⟩
                            go_wp2_with fail
                            exact hK _ _ ⟨a, k, rfl⟩ ⟨a, k, rfl, ho⟩ hbq
                          rintro v ⟨a7, k7, rfl⟩ K hK
                          go_simp
                          refine hK _ ?_
                          clear hK K
                          refine flowW_plain rfl ?_
                          go_big_quiet_step (fail)
                          refine wpQuiet_nil ?_
                          refine flowW_plain rfl ?_
                          go_big_quiet_step (fail)
                          refine wpQuiet_nil ?_
                          refine flowW_plain rfl ?_
                          go_big_quiet_step (fail)
                          refine wpQuiet_nil ?_
                          refine flowW_plain rfl ?_
                          go_big_quiet_step (fail)
                          refine wpQuiet_nil ?_
                          refine flowW_plain rfl ?_
                          go_big_quiet_step (fail)
                          refine wpQuiet_nil ?_
                          refine flowW_plain rfl ?_
                          go_big_quiet_step (fail)
                          refine wpQuiet_nil ?_
                          refine flowW_call rfl rfl ?_ ?_
                          · intro W hW hF K hK
                            clear kc0 kc1 kc2 kc3 kc4 ky0 ky1 kp0 kp1 kp2 kp3 kp4 kp5 kp6 kp7 kp8 kp9 kp10 kq0 kq1 kq2 kq3 kq4 kq5 kq6 kq7 kq8 kq9 kq10 kg0 kg1 kg2 kg3 kg4 ko0 ko1 ko2 ko3 ko4
                            obtain ⟨_, _, he7, h7⟩ := hF 7 rfl
                            cases he7
                            go_wp2_with fail
                            refine (write_o h7 (Z0.out.later (below_then HB.out hW)) (by have := LL.out; have := L_m1.out; have := L_m2.out; have := L_m5.out; omega) M_m4'.out).mono ?_
                            rintro e wq ⟨a, k, rfl, ho, hbq⟩
                            go_wp2_with fail
                            exact hK _ _ ⟨a, k, rfl⟩ ⟨a, k, rfl, own_monoP ho hW.size⟩ hbq
                          rintro v ⟨a14, k14, rfl⟩ K hK
                          go_simp
                          refine hK _ ?_
                          clear hK K
                          refine flowW_call rfl rfl ?_ ?_
                          · intro W hW hF K hK
                            clear kc0 kc1 kc2 kc3 kc4 ky0 ky1 kp0 kp1 kp2 kp3 kp4 kp5 kp6 kp7 kp8 kp9 kp10 kq0 kq1 kq2 kq3 kq4 kq5 kq6 kq7 kq8 kq9 kq10 kg0 kg1 kg2 kg3 kg4 ko0 ko1 ko2 ko3 ko4
                            go_wp2_with fail
                            exact hK _ _ ⟨_, rfl⟩ ⟨_, rfl, bx_new rfl, hW.size⟩ (below_alloc _ _)
                          rintro v ⟨g15, rfl⟩ K hK
                          go_simp
                          refine hK _ ?_
                          clear hK K
                          refine flowW_end fun wz hwz hF hD => ?_
                          clear kc0 kc1 kc2 kc3 kc4 ky0 ky1 kp0 kp1 kp2 kp3 kp4 kp5 kp6 kp7 kp8 kp9 kp10 kq0 kq1 kq2 kq3 kq4 kq5 kq6 kq7 kq8 kq9 kq10 kg0 kg1 kg2 kg3 kg4 ko0 ko1 ko2 ko3 ko4
                          simp only [List.drop_succ_cons, List.drop_zero]
                          obtain ⟨_, _, he, ho⟩ := hF 14
                          cases he
                          obtain ⟨_, he, bg, hg⟩ := hF 15
                          cases he
                          refine wpList_store_box rfl _ _ rfl rfl rfl (by kernel_rfl) bg rfl rfl rfl rfl ?_
                          have hbn := below_row (below_then HB.out hwz) (Nat.le_trans HB.out.size hg) #[(.int .i64 kd1), (.int .i64 ck1), (.int .i64 cn1), (.string cs1), (.slice a14 m4.length k14)]
                          have bn := bx_row bg #[(.int .i64 kd1), (.int .i64 ck1), (.int .i64 cn1), (.string cs1), (.slice a14 m4.length k14)]
                          have hn := Rd.of_own (own_row ho bg rfl #[(.int .i64 kd1), (.int .i64 ck1), (.int .i64 cn1), (.string cs1), (.slice a14 m4.length k14)])
                          clear ho
                          have HBN := Lib.hid hbn
                          have BN := Lib.hid bn
                          have HN := Lib.hid hn
                          clear hn
                          clear hbn bn bg hF c0 c1 c2 c3 c4 y0 y1 p0 p1 p2 p3 p4 p5 p6 p7 p8 p9 p10 q0 q1 q2 q3 q4 q5 q6 q7 q8 q9 q10 g0 g1 g2 g3 g4 o0 o1 o2 o3 o4
                          go_upto_region 11 with fail
                          replace B_c := Lib.hid (bx_later HBN.out B_c.out)
                          replace B_y := Lib.hid (bx_later HBN.out B_y.out)
                          replace B_p := Lib.hid (bx_later HBN.out B_p.out)
                          replace B_q := Lib.hid (bx_later HBN.out B_q.out)
                          replace B_g := Lib.hid (bx_later HBN.out B_g.out)
                          replace B_o := Lib.hid (bx_later HBN.out B_o.out)
                          replace P1 := Lib.hid (P1.out.later HBN.out)
                          replace Z0 := Lib.hid (Z0.out.later HBN.out)
                          replace Z1 := Lib.hid (Z1.out.later HBN.out)
                          replace P_g := Lib.hid (P_g.out.later HBN.out)
                          replace P_o := Lib.hid (P_o.out.later HBN.out)
                          replace HB1 := Lib.hid (below_then HB1.out HBN.out)
                          clear HBN HB hwz hg
                          generalize wz.setRow g15 #[(.int .i64 kd1), (.int .i64 ck1), (.int .i64 cn1), (.string cs1), (.slice a14 m4.length k14)] = w4 at *
                          have HB := Lib.hid (Below.refl w4.heap.size w4)
                          have B_u := BN
                          clear BN
                          have P_u := HN
                          clear HN
                          have c0 := cell_of_box (bx_later HB.out B_c.out) 0 rfl
                          have c1 := cell_of_box (bx_later HB.out B_c.out) 1 rfl
                          have c2 := cell_of_box (bx_later HB.out B_c.out) 2 rfl
                          have c3 := cell_of_box (bx_later HB.out B_c.out) 3 rfl
                          have c4 := cell_of_box (bx_later HB.out B_c.out) 4 rfl
                          have y0 := cell_of_box (bx_later HB.out B_y.out) 0 rfl
                          have y1 := cell_of_box (bx_later HB.out B_y.out) 1 rfl
                          have p0 := cell_of_box (bx_later HB.out B_p.out) 0 rfl
                          have p1 := cell_of_box (bx_later HB.out B_p.out) 1 rfl
                          have p2 := cell_of_box (bx_later HB.out B_p.out) 2 rfl
                          have p3 := cell_of_box (bx_later HB.out B_p.out) 3 rfl
                          have p4 := cell_of_box (bx_later HB.out B_p.out) 4 rfl
                          have p5 := cell_of_box (bx_later HB.out B_p.out) 5 rfl
                          have p6 := cell_of_box (bx_later HB.out B_p.out) 6 rfl
                          have p7 := cell_of_box (bx_later HB.out B_p.out) 7 rfl
                          have p8 := cell_of_box (bx_later HB.out B_p.out) 8 rfl
                          have p9 := cell_of_box (bx_later HB.out B_p.out) 9 rfl
                          have p10 := cell_of_box (bx_later HB.out B_p.out) 10 rfl
                          have q0 := cell_of_box (bx_later HB.out B_q.out) 0 rfl
                          have q1 := cell_of_box (bx_later HB.out B_q.out) 1 rfl
                          have q2 := cell_of_box (bx_later HB.out B_q.out) 2 rfl
                          have q3 := cell_of_box (bx_later HB.out B_q.out) 3 rfl
                          have q4 := cell_of_box (bx_later HB.out B_q.out) 4 rfl
                          have q5 := cell_of_box (bx_later HB.out B_q.out) 5 rfl
                          have q6 := cell_of_box (bx_later HB.out B_q.out) 6 rfl
                          have q7 := cell_of_box (bx_later HB.out B_q.out) 7 rfl
                          have q8 := cell_of_box (bx_later HB.out B_q.out) 8 rfl
                          have q9 := cell_of_box (bx_later HB.out B_q.out) 9 rfl
                          have q10 := cell_of_box (bx_later HB.out B_q.out) 10 rfl
                          have g0 := cell_of_box (bx_later HB.out B_g.out) 0 rfl
                          have g1 := cell_of_box (bx_later HB.out B_g.out) 1 rfl
                          have g2 := cell_of_box (bx_later HB.out B_g.out) 2 rfl
                          have g3 := cell_of_box (bx_later HB.out B_g.out) 3 rfl
                          have g4 := cell_of_box (bx_later HB.out B_g.out) 4 rfl
                          have o0 := cell_of_box (bx_later HB.out B_o.out) 0 rfl
                          have o1 := cell_of_box (bx_later HB.out B_o.out) 1 rfl
                          have o2 := cell_of_box (bx_later HB.out B_o.out) 2 rfl
                          have o3 := cell_of_box (bx_later HB.out B_o.out) 3 rfl
                          have o4 := cell_of_box (bx_later HB.out B_o.out) 4 rfl
                          have u0 := cell_of_box (bx_later HB.out B_u.out) 0 rfl
                          have u1 := cell_of_box (bx_later HB.out B_u.out) 1 rfl
                          have u2 := cell_of_box (bx_later HB.out B_u.out) 2 rfl
                          have u3 := cell_of_box (bx_later HB.out B_u.out) 3 rfl
                          have u4 := cell_of_box (bx_later HB.out B_u.out) 4 rfl
                          go_wp2_with fail
                          refine (alive_any _).mono ?_
                          rintro e wn ⟨rfl, hb⟩
                          replace HB := Lib.hid (below_then HB.out (by first | exact hb | exact below_alloc_then hb | exact below_alloc_then (below_alloc_then hb)))
                          clear hb c0 c1 c2 c3 c4 y0 y1 p0 p1 p2 p3 p4 p5 p6 p7 p8 p9 p10 q0 q1 q2 q3 q4 q5 q6 q7 q8 q9 q10 g0 g1 g2 g3 g4 o0 o1 o2 o3 o4 u0 u1 u2 u3 u4
                          have c0 := cell_of_box (bx_later HB.out B_c.out) 0 rfl
                          have c1 := cell_of_box (bx_later HB.out B_c.out) 1 rfl
                          have c2 := cell_of_box (bx_later HB.out B_c.out) 2 rfl
                          have c3 := cell_of_box (bx_later HB.out B_c.out) 3 rfl
                          have c4 := cell_of_box (bx_later HB.out B_c.out) 4 rfl
                          have y0 := cell_of_box (bx_later HB.out B_y.out) 0 rfl
                          have y1 := cell_of_box (bx_later HB.out B_y.out) 1 rfl
                          have p0 := cell_of_box (bx_later HB.out B_p.out) 0 rfl
                          have p1 := cell_of_box (bx_later HB.out B_p.out) 1 rfl
                          have p2 := cell_of_box (bx_later HB.out B_p.out) 2 rfl
                          have p3 := cell_of_box (bx_later HB.out B_p.out) 3 rfl
                          have p4 := cell_of_box (bx_later HB.out B_p.out) 4 rfl
                          have p5 := cell_of_box (bx_later HB.out B_p.out) 5 rfl
                          have p6 := cell_of_box (bx_later HB.out B_p.out) 6 rfl
                          have p7 := cell_of_box (bx_later HB.out B_p.out) 7 rfl
                          have p8 := cell_of_box (bx_later HB.out B_p.out) 8 rfl
                          have p9 := cell_of_box (bx_later HB.out B_p.out) 9 rfl
                          have p10 := cell_of_box (bx_later HB.out B_p.out) 10 rfl
                          have q0 := cell_of_box (bx_later HB.out B_q.out) 0 rfl
                          have q1 := cell_of_box (bx_later HB.out B_q.out) 1 rfl
                          have q2 := cell_of_box (bx_later HB.out B_q.out) 2 rfl
                          have q3 := cell_of_box (bx_later HB.out B_q.out) 3 rfl
                          have q4 := cell_of_box (bx_later HB.out B_q.out) 4 rfl
                          have q5 := cell_of_box (bx_later HB.out B_q.out) 5 rfl
                          have q6 := cell_of_box (bx_later HB.out B_q.out) 6 rfl
                          have q7 := cell_of_box (bx_later HB.out B_q.out) 7 rfl
                          have q8 := cell_of_box (bx_later HB.out B_q.out) 8 rfl
                          have q9 := cell_of_box (bx_later HB.out B_q.out) 9 rfl
                          have q10 := cell_of_box (bx_later HB.out B_q.out) 10 rfl
                          have g0 := cell_of_box (bx_later HB.out B_g.out) 0 rfl
                          have g1 := cell_of_box (bx_later HB.out B_g.out) 1 rfl
                          have g2 := cell_of_box (bx_later HB.out B_g.out) 2 rfl
                          have g3 := cell_of_box (bx_later HB.out B_g.out) 3 rfl
                          have g4 := cell_of_box (bx_later HB.out B_g.out) 4 rfl
                          have o0 := cell_of_box (bx_later HB.out B_o.out) 0 rfl
                          have o1 := cell_of_box (bx_later HB.out B_o.out) 1 rfl
                          have o2 := cell_of_box (bx_later HB.out B_o.out) 2 rfl
                          have o3 := cell_of_box (bx_later HB.out B_o.out) 3 rfl
                          have o4 := cell_of_box (bx_later HB.out B_o.out) 4 rfl
                          have u0 := cell_of_box (bx_later HB.out B_u.out) 0 rfl
                          have u1 := cell_of_box (bx_later HB.out B_u.out) 1 rfl
                          have u2 := cell_of_box (bx_later HB.out B_u.out) 2 rfl
                          have u3 := cell_of_box (bx_later HB.out B_u.out) 3 rfl
                          have u4 := cell_of_box (bx_later HB.out B_u.out) 4 rfl
                          go_wp2_with fail
                          refine (same_p m4 (P_o.out.later HB.out) (P_u.out.later HB.out) (by have := L_m4.out; omega)).mono ?_
                          rintro e wn ⟨rfl, hb⟩
                          replace HB := Lib.hid (below_then HB.out (by first | exact hb | exact below_alloc_then hb | exact below_alloc_then (below_alloc_then hb)))
                          clear hb c0 c1 c2 c3 c4 y0 y1 p0 p1 p2 p3 p4 p5 p6 p7 p8 p9 p10 q0 q1 q2 q3 q4 q5 q6 q7 q8 q9 q10 g0 g1 g2 g3 g4 o0 o1 o2 o3 o4 u0 u1 u2 u3 u4
                          have c0 := cell_of_box (bx_later HB.out B_c.out) 0 rfl
                          have c1 := cell_of_box (bx_later HB.out B_c.out) 1 rfl
                          have c2 := cell_of_box (bx_later HB.out B_c.out) 2 rfl
                          have c3 := cell_of_box (bx_later HB.out B_c.out) 3 rfl
                          have c4 := cell_of_box (bx_later HB.out B_c.out) 4 rfl
                          have y0 := cell_of_box (bx_later HB.out B_y.out) 0 rfl
                          have y1 := cell_of_box (bx_later HB.out B_y.out) 1 rfl
                          have p0 := cell_of_box (bx_later HB.out B_p.out) 0 rfl
                          have p1 := cell_of_box (bx_later HB.out B_p.out) 1 rfl
                          have p2 := cell_of_box (bx_later HB.out B_p.out) 2 rfl
                          have p3 := cell_of_box (bx_later HB.out B_p.out) 3 rfl
                          have p4 := cell_of_box (bx_later HB.out B_p.out) 4 rfl
                          have p5 := cell_of_box (bx_later HB.out B_p.out) 5 rfl
                          have p6 := cell_of_box (bx_later HB.out B_p.out) 6 rfl
                          have p7 := cell_of_box (bx_later HB.out B_p.out) 7 rfl
                          have p8 := cell_of_box (bx_later HB.out B_p.out) 8 rfl
                          have p9 := cell_of_box (bx_later HB.out B_p.out) 9 rfl
                          have p10 := cell_of_box (bx_later HB.out B_p.out) 10 rfl
                          have q0 := cell_of_box (bx_later HB.out B_q.out) 0 rfl
                          have q1 := cell_of_box (bx_later HB.out B_q.out) 1 rfl
                          have q2 := cell_of_box (bx_later HB.out B_q.out) 2 rfl
                          have q3 := cell_of_box (bx_later HB.out B_q.out) 3 rfl
                          have q4 := cell_of_box (bx_later HB.out B_q.out) 4 rfl
                          have q5 := cell_of_box (bx_later HB.out B_q.out) 5 rfl
                          have q6 := cell_of_box (bx_later HB.out B_q.out) 6 rfl
                          have q7 := cell_of_box (bx_later HB.out B_q.out) 7 rfl
                          have q8 := cell_of_box (bx_later HB.out B_q.out) 8 rfl
                          have q9 := cell_of_box (bx_later HB.out B_q.out) 9 rfl
                          have q10 := cell_of_box (bx_later HB.out B_q.out) 10 rfl
                          have g0 := cell_of_box (bx_later HB.out B_g.out) 0 rfl
                          have g1 := cell_of_box (bx_later HB.out B_g.out) 1 rfl
                          have g2 := cell_of_box (bx_later HB.out B_g.out) 2 rfl
                          have g3 := cell_of_box (bx_later HB.out B_g.out) 3 rfl
                          have g4 := cell_of_box (bx_later HB.out B_g.out) 4 rfl
                          have o0 := cell_of_box (bx_later HB.out B_o.out) 0 rfl
                          have o1 := cell_of_box (bx_later HB.out B_o.out) 1 rfl
                          have o2 := cell_of_box (bx_later HB.out B_o.out) 2 rfl
                          have o3 := cell_of_box (bx_later HB.out B_o.out) 3 rfl
                          have o4 := cell_of_box (bx_later HB.out B_o.out) 4 rfl
                          have u0 := cell_of_box (bx_later HB.out B_u.out) 0 rfl
                          have u1 := cell_of_box (bx_later HB.out B_u.out) 1 rfl
                          have u2 := cell_of_box (bx_later HB.out B_u.out) 2 rfl
                          have u3 := cell_of_box (bx_later HB.out B_u.out) 3 rfl
                          have u4 := cell_of_box (bx_later HB.out B_u.out) 4 rfl
                          go_wp2_with fail
                          refine (has_b true HP1.out (P_o.out.later HB.out) (by have := L_m4.out; omega)).mono ?_
                          rintro e wn ⟨rfl, hb⟩
                          replace HB := Lib.hid (below_then HB.out (by first | exact hb | exact below_alloc_then hb | exact below_alloc_then (below_alloc_then hb)))
                          clear hb c0 c1 c2 c3 c4 y0 y1 p0 p1 p2 p3 p4 p5 p6 p7 p8 p9 p10 q0 q1 q2 q3 q4 q5 q6 q7 q8 q9 q10 g0 g1 g2 g3 g4 o0 o1 o2 o3 o4 u0 u1 u2 u3 u4
                          have c0 := cell_of_box (bx_later HB.out B_c.out) 0 rfl
                          have c1 := cell_of_box (bx_later HB.out B_c.out) 1 rfl
                          have c2 := cell_of_box (bx_later HB.out B_c.out) 2 rfl
                          have c3 := cell_of_box (bx_later HB.out B_c.out) 3 rfl
                          have c4 := cell_of_box (bx_later HB.out B_c.out) 4 rfl
                          have y0 := cell_of_box (bx_later HB.out B_y.out) 0 rfl
                          have y1 := cell_of_box (bx_later HB.out B_y.out) 1 rfl
                          have p0 := cell_of_box (bx_later HB.out B_p.out) 0 rfl
                          have p1 := cell_of_box (bx_later HB.out B_p.out) 1 rfl
                          have p2 := cell_of_box (bx_later HB.out B_p.out) 2 rfl
                          have p3 := cell_of_box (bx_later HB.out B_p.out) 3 rfl
                          have p4 := cell_of_box (bx_later HB.out B_p.out) 4 rfl
                          have p5 := cell_of_box (bx_later HB.out B_p.out) 5 rfl
                          have p6 := cell_of_box (bx_later HB.out B_p.out) 6 rfl
                          have p7 := cell_of_box (bx_later HB.out B_p.out) 7 rfl
                          have p8 := cell_of_box (bx_later HB.out B_p.out) 8 rfl
                          have p9 := cell_of_box (bx_later HB.out B_p.out) 9 rfl
                          have p10 := cell_of_box (bx_later HB.out B_p.out) 10 rfl
                          have q0 := cell_of_box (bx_later HB.out B_q.out) 0 rfl
                          have q1 := cell_of_box (bx_later HB.out B_q.out) 1 rfl
                          have q2 := cell_of_box (bx_later HB.out B_q.out) 2 rfl
                          have q3 := cell_of_box (bx_later HB.out B_q.out) 3 rfl
                          have q4 := cell_of_box (bx_later HB.out B_q.out) 4 rfl
                          have q5 := cell_of_box (bx_later HB.out B_q.out) 5 rfl
                          have q6 := cell_of_box (bx_later HB.out B_q.out) 6 rfl
                          have q7 := cell_of_box (bx_later HB.out B_q.out) 7 rfl
                          have q8 := cell_of_box (bx_later HB.out B_q.out) 8 rfl
                          have q9 := cell_of_box (bx_later HB.out B_q.out) 9 rfl
                          have q10 := cell_of_box (bx_later HB.out B_q.out) 10 rfl
                          have g0 := cell_of_box (bx_later HB.out B_g.out) 0 rfl
                          have g1 := cell_of_box (bx_later HB.out B_g.out) 1 rfl
                          have g2 := cell_of_box (bx_later HB.out B_g.out) 2 rfl
                          have g3 := cell_of_box (bx_later HB.out B_g.out) 3 rfl
                          have g4 := cell_of_box (bx_later HB.out B_g.out) 4 rfl
                          have o0 := cell_of_box (bx_later HB.out B_o.out) 0 rfl
                          have o1 := cell_of_box (bx_later HB.out B_o.out) 1 rfl
                          have o2 := cell_of_box (bx_later HB.out B_o.out) 2 rfl
                          have o3 := cell_of_box (bx_later HB.out B_o.out) 3 rfl
                          have o4 := cell_of_box (bx_later HB.out B_o.out) 4 rfl
                          have u0 := cell_of_box (bx_later HB.out B_u.out) 0 rfl
                          have u1 := cell_of_box (bx_later HB.out B_u.out) 1 rfl
                          have u2 := cell_of_box (bx_later HB.out B_u.out) 2 rfl
                          have u3 := cell_of_box (bx_later HB.out B_u.out) 3 rfl
                          have u4 := cell_of_box (bx_later HB.out B_u.out) 4 rfl
                          go_wp2_with fail
                          refine (has_b true HP2.out (P_o.out.later HB.out) (by have := L_m4.out; omega)).mono ?_
                          rintro e wn ⟨rfl, hb⟩
                          replace HB := Lib.hid (below_then HB.out (by first | exact hb | exact below_alloc_then hb | exact below_alloc_then (below_alloc_then hb)))
                          clear hb c0 c1 c2 c3 c4 y0 y1 p0 p1 p2 p3 p4 p5 p6 p7 p8 p9 p10 q0 q1 q2 q3 q4 q5 q6 q7 q8 q9 q10 g0 g1 g2 g3 g4 o0 o1 o2 o3 o4 u0 u1 u2 u3 u4
                          have c0 := cell_of_box (bx_later HB.out B_c.out) 0 rfl
                          have c1 := cell_of_box (bx_later HB.out B_c.out) 1 rfl
                          have c2 := cell_of_box (bx_later HB.out B_c.out) 2 rfl
                          have c3 := cell_of_box (bx_later HB.out B_c.out) 3 rfl
                          have c4 := cell_of_box (bx_later HB.out B_c.out) 4 rfl
                          have y0 := cell_of_box (bx_later HB.out B_y.out) 0 rfl
                          have y1 := cell_of_box (bx_later HB.out B_y.out) 1 rfl
                          have p0 := cell_of_box (bx_later HB.out B_p.out) 0 rfl
                          have p1 := cell_of_box (bx_later HB.out B_p.out) 1 rfl
                          have p2 := cell_of_box (bx_later HB.out B_p.out) 2 rfl
                          have p3 := cell_of_box (bx_later HB.out B_p.out) 3 rfl
                          have p4 := cell_of_box (bx_later HB.out B_p.out) 4 rfl
                          have p5 := cell_of_box (bx_later HB.out B_p.out) 5 rfl
                          have p6 := cell_of_box (bx_later HB.out B_p.out) 6 rfl
                          have p7 := cell_of_box (bx_later HB.out B_p.out) 7 rfl
                          have p8 := cell_of_box (bx_later HB.out B_p.out) 8 rfl
                          have p9 := cell_of_box (bx_later HB.out B_p.out) 9 rfl
                          have p10 := cell_of_box (bx_later HB.out B_p.out) 10 rfl
                          have q0 := cell_of_box (bx_later HB.out B_q.out) 0 rfl
                          have q1 := cell_of_box (bx_later HB.out B_q.out) 1 rfl
                          have q2 := cell_of_box (bx_later HB.out B_q.out) 2 rfl
                          have q3 := cell_of_box (bx_later HB.out B_q.out) 3 rfl
                          have q4 := cell_of_box (bx_later HB.out B_q.out) 4 rfl
                          have q5 := cell_of_box (bx_later HB.out B_q.out) 5 rfl
                          have q6 := cell_of_box (bx_later HB.out B_q.out) 6 rfl
                          have q7 := cell_of_box (bx_later HB.out B_q.out) 7 rfl
                          have q8 := cell_of_box (bx_later HB.out B_q.out) 8 rfl
                          have q9 := cell_of_box (bx_later HB.out B_q.out) 9 rfl
                          have q10 := cell_of_box (bx_later HB.out B_q.out) 10 rfl
                          have g0 := cell_of_box (bx_later HB.out B_g.out) 0 rfl
                          have g1 := cell_of_box (bx_later HB.out B_g.out) 1 rfl
                          have g2 := cell_of_box (bx_later HB.out B_g.out) 2 rfl
                          have g3 := cell_of_box (bx_later HB.out B_g.out) 3 rfl
                          have g4 := cell_of_box (bx_later HB.out B_g.out) 4 rfl
                          have o0 := cell_of_box (bx_later HB.out B_o.out) 0 rfl
                          have o1 := cell_of_box (bx_later HB.out B_o.out) 1 rfl
                          have o2 := cell_of_box (bx_later HB.out B_o.out) 2 rfl
                          have o3 := cell_of_box (bx_later HB.out B_o.out) 3 rfl
                          have o4 := cell_of_box (bx_later HB.out B_o.out) 4 rfl
                          have u0 := cell_of_box (bx_later HB.out B_u.out) 0 rfl
                          have u1 := cell_of_box (bx_later HB.out B_u.out) 1 rfl
                          have u2 := cell_of_box (bx_later HB.out B_u.out) 2 rfl
                          have u3 := cell_of_box (bx_later HB.out B_u.out) 3 rfl
                          have u4 := cell_of_box (bx_later HB.out B_u.out) 4 rfl
                          go_wp2_with fail
                          go_ret
                          exact ⟨by first | rfl | exact ret_bool (by simp), below_then HB1.out HB.out⟩
                    · go_wp2_with fail
                      refine (hasV_b true HV2.out (Z1.out.later HB.out)).mono ?_
                      rintro e wn ⟨rfl, hb⟩
                      replace HB := Lib.hid (below_then HB.out (by first | exact hb | exact below_alloc_then hb | exact below_alloc_then (below_alloc_then hb)))
                      clear hb c0 c1 c2 c3 c4 y0 y1 p0 p1 p2 p3 p4 p5 p6 p7 p8 p9 p10 q0 q1 q2 q3 q4 q5 q6 q7 q8 q9 q10 g0 g1 g2 g3 g4
                      have c0 := cell_of_box (bx_later HB.out B_c.out) 0 rfl
                      have c1 := cell_of_box (bx_later HB.out B_c.out) 1 rfl
                      have c2 := cell_of_box (bx_later HB.out B_c.out) 2 rfl
                      have c3 := cell_of_box (bx_later HB.out B_c.out) 3 rfl
                      have c4 := cell_of_box (bx_later HB.out B_c.out) 4 rfl
                      have y0 := cell_of_box (bx_later HB.out B_y.out) 0 rfl
                      have y1 := cell_of_box (bx_later HB.out B_y.out) 1 rfl
                      have p0 := cell_of_box (bx_later HB.out B_p.out) 0 rfl
                      have p1 := cell_of_box (bx_later HB.out B_p.out) 1 rfl
                      have p2 := cell_of_box (bx_later HB.out B_p.out) 2 rfl
                      have p3 := cell_of_box (bx_later HB.out B_p.out) 3 rfl
                      have p4 := cell_of_box (bx_later HB.out B_p.out) 4 rfl
                      have p5 := cell_of_box (bx_later HB.out B_p.out) 5 rfl
                      have p6 := cell_of_box (bx_later HB.out B_p.out) 6 rfl
                      have p7 := cell_of_box (bx_later HB.out B_p.out) 7 rfl
                      have p8 := cell_of_box (bx_later HB.out B_p.out) 8 rfl
                      have p9 := cell_of_box (bx_later HB.out B_p.out) 9 rfl
                      have p10 := cell_of_box (bx_later HB.out B_p.out) 10 rfl
                      have q0 := cell_of_box (bx_later HB.out B_q.out) 0 rfl
                      have q1 := cell_of_box (bx_later HB.out B_q.out) 1 rfl
                      have q2 := cell_of_box (bx_later HB.out B_q.out) 2 rfl
                      have q3 := cell_of_box (bx_later HB.out B_q.out) 3 rfl
                      have q4 := cell_of_box (bx_later HB.out B_q.out) 4 rfl
                      have q5 := cell_of_box (bx_later HB.out B_q.out) 5 rfl
                      have q6 := cell_of_box (bx_later HB.out B_q.out) 6 rfl
                      have q7 := cell_of_box (bx_later HB.out B_q.out) 7 rfl
                      have q8 := cell_of_box (bx_later HB.out B_q.out) 8 rfl
                      have q9 := cell_of_box (bx_later HB.out B_q.out) 9 rfl
                      have q10 := cell_of_box (bx_later HB.out B_q.out) 10 rfl
                      have g0 := cell_of_box (bx_later HB.out B_g.out) 0 rfl
                      have g1 := cell_of_box (bx_later HB.out B_g.out) 1 rfl
                      have g2 := cell_of_box (bx_later HB.out B_g.out) 2 rfl
                      have g3 := cell_of_box (bx_later HB.out B_g.out) 3 rfl
                      have g4 := cell_of_box (bx_later HB.out B_g.out) 4 rfl
                      go_wp2_with fail
                      refine (alive_any _).mono ?_
                      rintro e wn ⟨rfl, hb⟩
                      replace HB := Lib.hid (below_then HB.out (by first | exact hb | exact below_alloc_then hb | exact below_alloc_then (below_alloc_then hb)))
                      clear hb c0 c1 c2 c3 c4 y0 y1 p0 p1 p2 p3 p4 p5 p6 p7 p8 p9 p10 q0 q1 q2 q3 q4 q5 q6 q7 q8 q9 q10 g0 g1 g2 g3 g4
                      have c0 := cell_of_box (bx_later HB.out B_c.out) 0 rfl
                      have c1 := cell_of_box (bx_later HB.out B_c.out) 1 rfl
                      have c2 := cell_of_box (bx_later HB.out B_c.out) 2 rfl
                      have c3 := cell_of_box (bx_later HB.out B_c.out) 3 rfl
                      have c4 := cell_of_box (bx_later HB.out B_c.out) 4 rfl
                      have y0 := cell_of_box (bx_later HB.out B_y.out) 0 rfl
                      have y1 := cell_of_box (bx_later HB.out B_y.out) 1 rfl
                      have p0 := cell_of_box (bx_later HB.out B_p.out) 0 rfl
                      have p1 := cell_of_box (bx_later HB.out B_p.out) 1 rfl
                      have p2 := cell_of_box (bx_later HB.out B_p.out) 2 rfl
                      have p3 := cell_of_box (bx_later HB.out B_p.out) 3 rfl
                      have p4 := cell_of_box (bx_later HB.out B_p.out) 4 rfl
                      have p5 := cell_of_box (bx_later HB.out B_p.out) 5 rfl
                      have p6 := cell_of_box (bx_later HB.out B_p.out) 6 rfl
                      have p7 := cell_of_box (bx_later HB.out B_p.out) 7 rfl
                      have p8 := cell_of_box (bx_later HB.out B_p.out) 8 rfl
                      have p9 := cell_of_box (bx_later HB.out B_p.out) 9 rfl
                      have p10 := cell_of_box (bx_later HB.out B_p.out) 10 rfl
                      have q0 := cell_of_box (bx_later HB.out B_q.out) 0 rfl
                      have q1 := cell_of_box (bx_later HB.out B_q.out) 1 rfl
                      have q2 := cell_of_box (bx_later HB.out B_q.out) 2 rfl
                      have q3 := cell_of_box (bx_later HB.out B_q.out) 3 rfl
                      have q4 := cell_of_box (bx_later HB.out B_q.out) 4 rfl
                      have q5 := cell_of_box (bx_later HB.out B_q.out) 5 rfl
                      have q6 := cell_of_box (bx_later HB.out B_q.out) 6 rfl
                      have q7 := cell_of_box (bx_later HB.out B_q.out) 7 rfl
                      have q8 := cell_of_box (bx_later HB.out B_q.out) 8 rfl
                      have q9 := cell_of_box (bx_later HB.out B_q.out) 9 rfl
                      have q10 := cell_of_box (bx_later HB.out B_q.out) 10 rfl
                      have g0 := cell_of_box (bx_later HB.out B_g.out) 0 rfl
                      have g1 := cell_of_box (bx_later HB.out B_g.out) 1 rfl
                      have g2 := cell_of_box (bx_later HB.out B_g.out) 2 rfl
                      have g3 := cell_of_box (bx_later HB.out B_g.out) 3 rfl
                      have g4 := cell_of_box (bx_later HB.out B_g.out) 4 rfl
                      go_wp2_with fail
                      go_ret
                      exact ⟨by first | rfl | exact ret_bool (by simp), below_then HB1.out HB.out⟩
                  · go_wp2_with fail
                    refine (hasV_b true HV1.out (Z0.out.later HB.out)).mono ?_
                    rintro e wn ⟨rfl, hb⟩
                    replace HB := Lib.hid (below_then HB.out (by first | exact hb | exact below_alloc_then hb | exact below_alloc_then (below_alloc_then hb)))
                    clear hb c0 c1 c2 c3 c4 y0 y1 p0 p1 p2 p3 p4 p5 p6 p7 p8 p9 p10 q0 q1 q2 q3 q4 q5 q6 q7 q8 q9 q10 g0 g1 g2 g3 g4
                    have c0 := cell_of_box (bx_later HB.out B_c.out) 0 rfl
                    have c1 := cell_of_box (bx_later HB.out B_c.out) 1 rfl
                    have c2 := cell_of_box (bx_later HB.out B_c.out) 2 rfl
                    have c3 := cell_of_box (bx_later HB.out B_c.out) 3 rfl
                    have c4 := cell_of_box (bx_later HB.out B_c.out) 4 rfl
                    have y0 := cell_of_box (bx_later HB.out B_y.out) 0 rfl
                    have y1 := cell_of_box (bx_later HB.out B_y.out) 1 rfl
                    have p0 := cell_of_box (bx_later HB.out B_p.out) 0 rfl
                    have p1 := cell_of_box (bx_later HB.out B_p.out) 1 rfl
                    have p2 := cell_of_box (bx_later HB.out B_p.out) 2 rfl
                    have p3 := cell_of_box (bx_later HB.out B_p.out) 3 rfl
                    have p4 := cell_of_box (bx_later HB.out B_p.out) 4 rfl
                    have p5 := cell_of_box (bx_later HB.out B_p.out) 5 rfl
                    have p6 := cell_of_box (bx_later HB.out B_p.out) 6 rfl
                    have p7 := cell_of_box (bx_later HB.out B_p.out) 7 rfl
                    have p8 := cell_of_box (bx_later HB.out B_p.out) 8 rfl
                    have p9 := cell_of_box (bx_later HB.out B_p.out) 9 rfl
                    have p10 := cell_of_box (bx_later HB.out B_p.out) 10 rfl
                    have q0 := cell_of_box (bx_later HB.out B_q.out) 0 rfl
                    have q1 := cell_of_box (bx_later HB.out B_q.out) 1 rfl
                    have q2 := cell_of_box (bx_later HB.out B_q.out) 2 rfl
                    have q3 := cell_of_box (bx_later HB.out B_q.out) 3 rfl
                    have q4 := cell_of_box (bx_later HB.out B_q.out) 4 rfl
                    have q5 := cell_of_box (bx_later HB.out B_q.out) 5 rfl
                    have q6 := cell_of_box (bx_later HB.out B_q.out) 6 rfl
                    have q7 := cell_of_box (bx_later HB.out B_q.out) 7 rfl
                    have q8 := cell_of_box (bx_later HB.out B_q.out) 8 rfl
                    have q9 := cell_of_box (bx_later HB.out B_q.out) 9 rfl
                    have q10 := cell_of_box (bx_later HB.out B_q.out) 10 rfl
                    have g0 := cell_of_box (bx_later HB.out B_g.out) 0 rfl
                    have g1 := cell_of_box (bx_later HB.out B_g.out) 1 rfl
                    have g2 := cell_of_box (bx_later HB.out B_g.out) 2 rfl
                    have g3 := cell_of_box (bx_later HB.out B_g.out) 3 rfl
                    have g4 := cell_of_box (bx_later HB.out B_g.out) 4 rfl
                    go_wp2_with fail
                    refine (alive_any _).mono ?_
                    rintro e wn ⟨rfl, hb⟩
                    replace HB := Lib.hid (below_then HB.out (by first | exact hb | exact below_alloc_then hb | exact below_alloc_then (below_alloc_then hb)))
                    clear hb c0 c1 c2 c3 c4 y0 y1 p0 p1 p2 p3 p4 p5 p6 p7 p8 p9 p10 q0 q1 q2 q3 q4 q5 q6 q7 q8 q9 q10 g0 g1 g2 g3 g4
                    have c0 := cell_of_box (bx_later HB.out B_c.out) 0 rfl
                    have c1 := cell_of_box (bx_later HB.out B_c.out) 1 rfl
                    have c2 := cell_of_box (bx_later HB.out B_c.out) 2 rfl
                    have c3 := cell_of_box (bx_later HB.out B_c.out) 3 rfl
                    have c4 := cell_of_box (bx_later HB.out B_c.out) 4 rfl
                    have y0 := cell_of_box (bx_later HB.out B_y.out) 0 rfl
                    have y1 := cell_of_box (bx_later HB.out B_y.out) 1 rfl
                    have p0 := cell_of_box (bx_later HB.out B_p.out) 0 rfl
                    have p1 := cell_of_box (bx_later HB.out B_p.out) 1 rfl
                    have p2 := cell_of_box (bx_later HB.out B_p.out) 2 rfl
                    have p3 := cell_of_box (bx_later HB.out B_p.out) 3 rfl
                    have p4 := cell_of_box (bx_later HB.out B_p.out) 4 rfl
                    have p5 := cell_of_box (bx_later HB.out B_p.out) 5 rfl
                    have p6 := cell_of_box (bx_later HB.out B_p.out) 6 rfl
                    have p7 := cell_of_box (bx_later HB.out B_p.out) 7 rfl
                    have p8 := cell_of_box (bx_later HB.out B_p.out) 8 rfl
                    have p9 := cell_of_box (bx_later HB.out B_p.out) 9 rfl
                    have p10 := cell_of_box (bx_later HB.out B_p.out) 10 rfl
                    have q0 := cell_of_box (bx_later HB.out B_q.out) 0 rfl
                    have q1 := cell_of_box (bx_later HB.out B_q.out) 1 rfl
                    have q2 := cell_of_box (bx_later HB.out B_q.out) 2 rfl
                    have q3 := cell_of_box (bx_later HB.out B_q.out) 3 rfl
                    have q4 := cell_of_box (bx_later HB.out B_q.out) 4 rfl
                    have q5 := cell_of_box (bx_later HB.out B_q.out) 5 rfl
                    have q6 := cell_of_box (bx_later HB.out B_q.out) 6 rfl
                    have q7 := cell_of_box (bx_later HB.out B_q.out) 7 rfl
                    have q8 := cell_of_box (bx_later HB.out B_q.out) 8 rfl
                    have q9 := cell_of_box (bx_later HB.out B_q.out) 9 rfl
                    have q10 := cell_of_box (bx_later HB.out B_q.out) 10 rfl
                    have g0 := cell_of_box (bx_later HB.out B_g.out) 0 rfl
                    have g1 := cell_of_box (bx_later HB.out B_g.out) 1 rfl
                    have g2 := cell_of_box (bx_later HB.out B_g.out) 2 rfl
                    have g3 := cell_of_box (bx_later HB.out B_g.out) 3 rfl
                    have g4 := cell_of_box (bx_later HB.out B_g.out) 4 rfl
                    go_wp2_with fail
                    go_ret
                    exact ⟨by first | rfl | exact ret_bool (by simp), below_then HB1.out HB.out⟩

set_option maxRecDepth 100000 in
theorem lifted (os : Os) (started : os.Started) (H : Type) (enc : TypeId × Value → H) :
    ReturnsInHanded {} Try.checked os 7 .any (Rows.multiBesideSpec.pre6 enc Try.prog Try.f7 Rows.multiBesideRow.domain false) (Rows.multiBesideSpec.post enc Try.prog Try.f7 false true false false) := by
  refine returnsInHanded_of_change_sized (C := Try.checked) ownKnob_none started (by kernel_rfl) Try.func7
    (ChangeSpec.witness6 (enc := enc) (C := Try.checked) false ⟨#[], #[.agg #[.int .i64 0, .int .i64 0, .int .i64 0, .string ⟨#[]⟩, .slice none 0 0], .agg #[.int .i64 0, .int .i64 0, .string ⟨#[]⟩, .int .i64 0, .int .i64 0, .int .i64 0, .int .i64 0, .int .i64 0, .int .i64 0, .int .i64 0, .bool false, .int .i64 0, .int .i64 0, .string ⟨#[]⟩, .int .i64 0, .int .i64 0, .int .i64 0, .int .i64 0, .int .i64 0, .int .i64 0, .int .i64 0, .bool false], .agg #[.slice none 0 0, .slice none 0 0]], []⟩ 8 (by kernel_rfl) (by kernel_rfl) (by kernel_rfl) (by kernel_rfl)) ?_
  intro W base args ds gs before hval0 hW hcnd hsz0 _
  have hval : ∀ (j : Nat) t v, Try.f7.params[j]? = some t → args[j]? = some v → Value.okWide Try.prog W .any base t v := hval0
  have hW' := hW
  obtain ⟨p, q, hA0, hV, rfl, hfz, hnd⟩ := hW
  have hA : DataW.TrodAll enc Try.prog W 0 (fun _ => true) true Try.f7.params.toList args.toList ds p := hA0
  have hsz : (DataW.weightsEach Try.prog (Try.f7.params.toList ++ Rows.multiBesideSpec.plain.varTypes Try.prog) (ds ++ gs)).all (· ≤ reachBytes) = true := hsz0
  rw [Try.params7] at hA hval hsz
  obtain ⟨v0, vs0, d0, ds0, p0, q0, hargs, rfl, rfl, h0, r0r⟩ := trodAll_cons hA
  obtain ⟨v1, vs1, d1, ds1, p1, q1, rfl, rfl, rfl, h1, r1r⟩ := trodAll_cons r0r
  obtain ⟨v2, vs2, d2, ds2, p2, q2, rfl, rfl, rfl, h2, r2r⟩ := trodAll_cons r1r
  obtain ⟨rfl, rfl, rfl⟩ := trodAll_nil r2r
  obtain rfl : args = #[v0, v1, v2] := by cases args; simp_all
  obtain ⟨rfl, rfl⟩ := trodVars_none hV
  have g0 := sized_at hsz (j := 0) rfl rfl
  have g1 := sized_at hsz (j := 1) rfl rfl
  have g2 := sized_at hsz (j := 2) rfl rfl
  obtain ⟨y0_0, y0_1, y0_2, y0_3, rfl, f0_0⟩ := open_cell (hval 0 26 v0 rfl rfl) h0
  obtain ⟨y1_0, y1_1, rfl⟩ := open_part2 (hval 1 44 v1 rfl rfl) h1
  obtain ⟨y2_0, y2_1, y2_2, y2_3, rfl, f2_0, f2_1⟩ := open_vec2 (hval 2 38 v2 rfl rfl) h2
  refine (walk y0_0 y0_1 y0_2 y0_3 y1_0 y1_1 y2_0 y2_1 y2_2 y2_3 W f0_0 f2_0 f2_1).mono fun e W' ⟨he, hg⟩ => ⟨_, he, law_post laidOut (by kernel_rfl) rfl Try.underlying4 rfl rfl hW' hg⟩

theorem over : Rows.multiBesideRow.holds Try.pinned (OpenSpec.ofChange Rows.multiBesideSpec) :=
  OpenClaim.holds_of_wide 7 Try.f7 rfl rfl rfl rfl rfl rfl rfl ⟨rfl, rfl, rfl, rfl, rfl⟩ rfl rfl rfl rfl rfl (by kernel_rfl) Try.func7 (by kernel_rfl)
    (of_decide_eq_true (by kernel_rfl)) (by unfold Func.isWrapper; first | (rw [if_pos (by decide +kernel)]; kernel_rfl) | (rw [if_neg (by decide +kernel)]; exact ⟨rfl, rfl⟩))
    (fun os started H enc _ => lifted os started H enc)

/-- THE STATEMENT. -/
theorem proved : Rows.MultiBesideSaid :=
  over
#print axioms proved
end Go.Proofs.Ytagbaejgjhmokaa.multiBeside
