/-
  The law BagWins.
-/
import Derived.Test.YtnpciogpegmejaaGOp
namespace Go.Proofs.Ytnpciogpegmejaa.bagWins
open Go.ChangeShapes Go.WideShapes Go.ChangeAt Go.RowKit Go.Sort Go.BigFrame Go.Proofs.Ytnpciogpegmejaa
open Go.ChangeMaps (open_string shut_string)

set_option maxRecDepth 100000 in
set_option maxHeartbeats 16000000 in
theorem walk (kd : Int) (cv : Val) (va : Value) (l : List Prt) (z0 z1 : Int) (d e : Dt) (vk : Value) (knew : List Int) (w : World) (ha : PRd w va l) (hk : Rd w vk knew.length (knew.map ic)) :
    Calls Try.prog 6 #[.agg #[.int .i64 kd, .int .i64 cv.k, .int .i64 cv.n, .string cv.s, va], .agg #[.int .i64 z0, .int .i64 z1], .agg #[.int .i64 d.dev, .int .i64 d.seq, .int .i64 e.dev, .int .i64 e.seq], vk] w fun e w' => e = .returned (.bool true) ∧ Below w.heap.size w w' := by
  obtain ⟨ck, cn, cs⟩ := cv
  obtain ⟨ao, ca, rfl, -, hcm, -, -⟩ := id ha
  unfold maxLen at hcm
  obtain ⟨ko, kc, rfl, -, hkm, -, -⟩ := id hk
  unfold maxLen at hkm
  obtain ⟨dd, dq⟩ := d
  obtain ⟨ed, eq⟩ := e
  obtain ⟨w1, hw1⟩ : ∃ w1, ((w.alloc (.cells #[(.int .i64 kd), (.int .i64 ck), (.int .i64 cn), (.string cs), (.slice ao l.length ca)] 26)).alloc (.cells #[(.int .i64 z0), (.int .i64 z1)] 35)).alloc (.cells #[(.int .i64 dd), (.int .i64 dq), (.int .i64 ed), (.int .i64 eq)] 46) = w1 := ⟨_, rfl⟩
  have hb1 : Below w.heap.size w w1 := by rw [← hw1]; exact below_alloc_then (below_alloc_then (below_alloc _ _))
  have b_c : Bx w1 (w.heap.size) #[(.int .i64 kd), (.int .i64 ck), (.int .i64 cn), (.string cs), (.slice ao l.length ca)] 26 := by rw [← hw1]; exact bx_later (below_alloc_then (below_alloc _ _)) (bx_new (by simp))
  have b_zz : Bx w1 (w.heap.size + 1) #[(.int .i64 z0), (.int .i64 z1)] 35 := by rw [← hw1]; exact bx_later (below_alloc _ _) (bx_new (by simp))
  have b_d : Bx w1 (w.heap.size + 2) #[(.int .i64 dd), (.int .i64 dq), (.int .i64 ed), (.int .i64 eq)] 46 := by rw [← hw1]; exact bx_new (by simp)
  have HW := Lib.hid hw1
  have HB1 := Lib.hid hb1
  have HB := Lib.hid (Below.refl w1.heap.size w1)
  have B_c := Lib.hid b_c
  have B_zz := Lib.hid b_zz
  have B_d := Lib.hid b_d
  have c0 := cell_of_box (bx_later HB.out B_c.out) 0 rfl
  have c1 := cell_of_box (bx_later HB.out B_c.out) 1 rfl
  have c2 := cell_of_box (bx_later HB.out B_c.out) 2 rfl
  have c3 := cell_of_box (bx_later HB.out B_c.out) 3 rfl
  have c4 := cell_of_box (bx_later HB.out B_c.out) 4 rfl
  have zz0 := cell_of_box (bx_later HB.out B_zz.out) 0 rfl
  have zz1 := cell_of_box (bx_later HB.out B_zz.out) 1 rfl
  have d0 := cell_of_box (bx_later HB.out B_d.out) 0 rfl
  have d1 := cell_of_box (bx_later HB.out B_d.out) 1 rfl
  have d2 := cell_of_box (bx_later HB.out B_d.out) 2 rfl
  have d3 := cell_of_box (bx_later HB.out B_d.out) 3 rfl
  clear hw1 hb1 b_c b_zz b_d
  have P := Lib.hid (ha.later HB1.out)
  have KN := Lib.hid (hk.later HB1.out)
  clear ha hk
  cases hf0 : decide ((l.length : Int) ≤ 60)
  all_goals
    have F0 := Lib.hid hf0
  · clear hf0
    go_enter Try.func6, Try.ntmps6
    go_wp2_with fail
    rw [HW.out]
    go_wp2_with fail
    refine (few_b false F0.out (P.out.later HB.out)).mono ?_
    rintro e wn ⟨rfl, hb⟩
    replace HB := Lib.hid (below_then HB.out (by first | exact hb | exact below_alloc_then hb | exact below_alloc_then (below_alloc_then hb)))
    clear hb c0 c1 c2 c3 c4 zz0 zz1 d0 d1 d2 d3
    have c0 := cell_of_box (bx_later HB.out B_c.out) 0 rfl
    have c1 := cell_of_box (bx_later HB.out B_c.out) 1 rfl
    have c2 := cell_of_box (bx_later HB.out B_c.out) 2 rfl
    have c3 := cell_of_box (bx_later HB.out B_c.out) 3 rfl
    have c4 := cell_of_box (bx_later HB.out B_c.out) 4 rfl
    have zz0 := cell_of_box (bx_later HB.out B_zz.out) 0 rfl
    have zz1 := cell_of_box (bx_later HB.out B_zz.out) 1 rfl
    have d0 := cell_of_box (bx_later HB.out B_d.out) 0 rfl
    have d1 := cell_of_box (bx_later HB.out B_d.out) 1 rfl
    have d2 := cell_of_box (bx_later HB.out B_d.out) 2 rfl
    have d3 := cell_of_box (bx_later HB.out B_d.out) 3 rfl
    go_wp2_with fail
    refine (alive_any _).mono ?_
    rintro e wn ⟨rfl, hb⟩
    replace HB := Lib.hid (below_then HB.out (by first | exact hb | exact below_alloc_then hb | exact below_alloc_then (below_alloc_then hb)))
    clear hb c0 c1 c2 c3 c4 zz0 zz1 d0 d1 d2 d3
    have c0 := cell_of_box (bx_later HB.out B_c.out) 0 rfl
    have c1 := cell_of_box (bx_later HB.out B_c.out) 1 rfl
    have c2 := cell_of_box (bx_later HB.out B_c.out) 2 rfl
    have c3 := cell_of_box (bx_later HB.out B_c.out) 3 rfl
    have c4 := cell_of_box (bx_later HB.out B_c.out) 4 rfl
    have zz0 := cell_of_box (bx_later HB.out B_zz.out) 0 rfl
    have zz1 := cell_of_box (bx_later HB.out B_zz.out) 1 rfl
    have d0 := cell_of_box (bx_later HB.out B_d.out) 0 rfl
    have d1 := cell_of_box (bx_later HB.out B_d.out) 1 rfl
    have d2 := cell_of_box (bx_later HB.out B_d.out) 2 rfl
    have d3 := cell_of_box (bx_later HB.out B_d.out) 3 rfl
    go_wp2_with fail
    go_ret
    exact ⟨by first | rfl | exact ret_bool (by simp), below_then HB1.out HB.out⟩
  · have hl0 : l.length ≤ 60 := by have := of_decide_eq_true hf0; omega
    clear hf0
    by_cases hlen1 : 100 < knew.length
    · have g1knew : decide (100 < (knew.length : Int)) = true := decide_eq_true (by omega)
      have g2knew : decide (100 < knew.length) = true := decide_eq_true (by omega)
      go_enter Try.func6, Try.ntmps6
      go_wp2_with fail
      rw [HW.out]
      go_wp2_with fail
      refine (few_b true F0.out (P.out.later HB.out)).mono ?_
      rintro e wn ⟨rfl, hb⟩
      replace HB := Lib.hid (below_then HB.out (by first | exact hb | exact below_alloc_then hb | exact below_alloc_then (below_alloc_then hb)))
      clear hb c0 c1 c2 c3 c4 zz0 zz1 d0 d1 d2 d3
      have c0 := cell_of_box (bx_later HB.out B_c.out) 0 rfl
      have c1 := cell_of_box (bx_later HB.out B_c.out) 1 rfl
      have c2 := cell_of_box (bx_later HB.out B_c.out) 2 rfl
      have c3 := cell_of_box (bx_later HB.out B_c.out) 3 rfl
      have c4 := cell_of_box (bx_later HB.out B_c.out) 4 rfl
      have zz0 := cell_of_box (bx_later HB.out B_zz.out) 0 rfl
      have zz1 := cell_of_box (bx_later HB.out B_zz.out) 1 rfl
      have d0 := cell_of_box (bx_later HB.out B_d.out) 0 rfl
      have d1 := cell_of_box (bx_later HB.out B_d.out) 1 rfl
      have d2 := cell_of_box (bx_later HB.out B_d.out) 2 rfl
      have d3 := cell_of_box (bx_later HB.out B_d.out) 3 rfl
      go_wp2_with fail
      refine (alive_any _).mono ?_
      rintro e wn ⟨rfl, hb⟩
      replace HB := Lib.hid (below_then HB.out (by first | exact hb | exact below_alloc_then hb | exact below_alloc_then (below_alloc_then hb)))
      clear hb c0 c1 c2 c3 c4 zz0 zz1 d0 d1 d2 d3
      have c0 := cell_of_box (bx_later HB.out B_c.out) 0 rfl
      have c1 := cell_of_box (bx_later HB.out B_c.out) 1 rfl
      have c2 := cell_of_box (bx_later HB.out B_c.out) 2 rfl
      have c3 := cell_of_box (bx_later HB.out B_c.out) 3 rfl
      have c4 := cell_of_box (bx_later HB.out B_c.out) 4 rfl
      have zz0 := cell_of_box (bx_later HB.out B_zz.out) 0 rfl
      have zz1 := cell_of_box (bx_later HB.out B_zz.out) 1 rfl
      have d0 := cell_of_box (bx_later HB.out B_d.out) 0 rfl
      have d1 := cell_of_box (bx_later HB.out B_d.out) 1 rfl
      have d2 := cell_of_box (bx_later HB.out B_d.out) 2 rfl
      have d3 := cell_of_box (bx_later HB.out B_d.out) 3 rfl
      go_wp2_with fail
      go_ret
      exact ⟨by first | rfl | exact ret_bool (by simp), below_then HB1.out HB.out⟩
    · have g1knew : decide (100 < (knew.length : Int)) = false := decide_eq_false (by omega)
      have g2knew : decide (100 < knew.length) = false := decide_eq_false (by omega)
      cases hr2 : rcQ kd ⟨ck, cn, cs⟩ l
      all_goals
        have F2 := Lib.hid hr2
        clear hr2
      · go_enter Try.func6, Try.ntmps6
        go_wp2_with fail
        rw [HW.out]
        go_wp2_with fail
        refine (few_b true F0.out (P.out.later HB.out)).mono ?_
        rintro e wn ⟨rfl, hb⟩
        replace HB := Lib.hid (below_then HB.out (by first | exact hb | exact below_alloc_then hb | exact below_alloc_then (below_alloc_then hb)))
        clear hb c0 c1 c2 c3 c4 zz0 zz1 d0 d1 d2 d3
        have c0 := cell_of_box (bx_later HB.out B_c.out) 0 rfl
        have c1 := cell_of_box (bx_later HB.out B_c.out) 1 rfl
        have c2 := cell_of_box (bx_later HB.out B_c.out) 2 rfl
        have c3 := cell_of_box (bx_later HB.out B_c.out) 3 rfl
        have c4 := cell_of_box (bx_later HB.out B_c.out) 4 rfl
        have zz0 := cell_of_box (bx_later HB.out B_zz.out) 0 rfl
        have zz1 := cell_of_box (bx_later HB.out B_zz.out) 1 rfl
        have d0 := cell_of_box (bx_later HB.out B_d.out) 0 rfl
        have d1 := cell_of_box (bx_later HB.out B_d.out) 1 rfl
        have d2 := cell_of_box (bx_later HB.out B_d.out) 2 rfl
        have d3 := cell_of_box (bx_later HB.out B_d.out) 3 rfl
        go_wp2_with fail
        refine (right_b false F2.out (P.out.later HB.out) (by omega)).mono ?_
        rintro e wn ⟨rfl, hb⟩
        replace HB := Lib.hid (below_then HB.out (by first | exact hb | exact below_alloc_then hb | exact below_alloc_then (below_alloc_then hb)))
        clear hb c0 c1 c2 c3 c4 zz0 zz1 d0 d1 d2 d3
        have c0 := cell_of_box (bx_later HB.out B_c.out) 0 rfl
        have c1 := cell_of_box (bx_later HB.out B_c.out) 1 rfl
        have c2 := cell_of_box (bx_later HB.out B_c.out) 2 rfl
        have c3 := cell_of_box (bx_later HB.out B_c.out) 3 rfl
        have c4 := cell_of_box (bx_later HB.out B_c.out) 4 rfl
        have zz0 := cell_of_box (bx_later HB.out B_zz.out) 0 rfl
        have zz1 := cell_of_box (bx_later HB.out B_zz.out) 1 rfl
        have d0 := cell_of_box (bx_later HB.out B_d.out) 0 rfl
        have d1 := cell_of_box (bx_later HB.out B_d.out) 1 rfl
        have d2 := cell_of_box (bx_later HB.out B_d.out) 2 rfl
        have d3 := cell_of_box (bx_later HB.out B_d.out) 3 rfl
        go_wp2_with fail
        refine (alive_any _).mono ?_
        rintro e wn ⟨rfl, hb⟩
        replace HB := Lib.hid (below_then HB.out (by first | exact hb | exact below_alloc_then hb | exact below_alloc_then (below_alloc_then hb)))
        clear hb c0 c1 c2 c3 c4 zz0 zz1 d0 d1 d2 d3
        have c0 := cell_of_box (bx_later HB.out B_c.out) 0 rfl
        have c1 := cell_of_box (bx_later HB.out B_c.out) 1 rfl
        have c2 := cell_of_box (bx_later HB.out B_c.out) 2 rfl
        have c3 := cell_of_box (bx_later HB.out B_c.out) 3 rfl
        have c4 := cell_of_box (bx_later HB.out B_c.out) 4 rfl
        have zz0 := cell_of_box (bx_later HB.out B_zz.out) 0 rfl
        have zz1 := cell_of_box (bx_later HB.out B_zz.out) 1 rfl
        have d0 := cell_of_box (bx_later HB.out B_d.out) 0 rfl
        have d1 := cell_of_box (bx_later HB.out B_d.out) 1 rfl
        have d2 := cell_of_box (bx_later HB.out B_d.out) 2 rfl
        have d3 := cell_of_box (bx_later HB.out B_d.out) 3 rfl
        go_wp2_with fail
        go_ret
        exact ⟨by first | rfl | exact ret_bool (by simp), below_then HB1.out HB.out⟩
      · by_cases hde : dd = ed ∧ dq = eq
        · obtain ⟨rfl, rfl⟩ := hde
          have q1 : (dd == dd) = true := by simp
          have q2 : (dq == dq) = true := by simp
          go_enter Try.func6, Try.ntmps6
          go_wp2_with fail
          rw [HW.out]
          go_wp2_with fail
          refine (few_b true F0.out (P.out.later HB.out)).mono ?_
          rintro e wn ⟨rfl, hb⟩
          replace HB := Lib.hid (below_then HB.out (by first | exact hb | exact below_alloc_then hb | exact below_alloc_then (below_alloc_then hb)))
          clear hb c0 c1 c2 c3 c4 zz0 zz1 d0 d1 d2 d3
          have c0 := cell_of_box (bx_later HB.out B_c.out) 0 rfl
          have c1 := cell_of_box (bx_later HB.out B_c.out) 1 rfl
          have c2 := cell_of_box (bx_later HB.out B_c.out) 2 rfl
          have c3 := cell_of_box (bx_later HB.out B_c.out) 3 rfl
          have c4 := cell_of_box (bx_later HB.out B_c.out) 4 rfl
          have zz0 := cell_of_box (bx_later HB.out B_zz.out) 0 rfl
          have zz1 := cell_of_box (bx_later HB.out B_zz.out) 1 rfl
          have d0 := cell_of_box (bx_later HB.out B_d.out) 0 rfl
          have d1 := cell_of_box (bx_later HB.out B_d.out) 1 rfl
          have d2 := cell_of_box (bx_later HB.out B_d.out) 2 rfl
          have d3 := cell_of_box (bx_later HB.out B_d.out) 3 rfl
          go_wp2_with fail
          refine (right_b true F2.out (P.out.later HB.out) (by omega)).mono ?_
          rintro e wn ⟨rfl, hb⟩
          replace HB := Lib.hid (below_then HB.out (by first | exact hb | exact below_alloc_then hb | exact below_alloc_then (below_alloc_then hb)))
          clear hb c0 c1 c2 c3 c4 zz0 zz1 d0 d1 d2 d3
          have c0 := cell_of_box (bx_later HB.out B_c.out) 0 rfl
          have c1 := cell_of_box (bx_later HB.out B_c.out) 1 rfl
          have c2 := cell_of_box (bx_later HB.out B_c.out) 2 rfl
          have c3 := cell_of_box (bx_later HB.out B_c.out) 3 rfl
          have c4 := cell_of_box (bx_later HB.out B_c.out) 4 rfl
          have zz0 := cell_of_box (bx_later HB.out B_zz.out) 0 rfl
          have zz1 := cell_of_box (bx_later HB.out B_zz.out) 1 rfl
          have d0 := cell_of_box (bx_later HB.out B_d.out) 0 rfl
          have d1 := cell_of_box (bx_later HB.out B_d.out) 1 rfl
          have d2 := cell_of_box (bx_later HB.out B_d.out) 2 rfl
          have d3 := cell_of_box (bx_later HB.out B_d.out) 3 rfl
          go_wp2_with fail
          refine (alive_any _).mono ?_
          rintro e wn ⟨rfl, hb⟩
          replace HB := Lib.hid (below_then HB.out (by first | exact hb | exact below_alloc_then hb | exact below_alloc_then (below_alloc_then hb)))
          clear hb c0 c1 c2 c3 c4 zz0 zz1 d0 d1 d2 d3
          have c0 := cell_of_box (bx_later HB.out B_c.out) 0 rfl
          have c1 := cell_of_box (bx_later HB.out B_c.out) 1 rfl
          have c2 := cell_of_box (bx_later HB.out B_c.out) 2 rfl
          have c3 := cell_of_box (bx_later HB.out B_c.out) 3 rfl
          have c4 := cell_of_box (bx_later HB.out B_c.out) 4 rfl
          have zz0 := cell_of_box (bx_later HB.out B_zz.out) 0 rfl
          have zz1 := cell_of_box (bx_later HB.out B_zz.out) 1 rfl
          have d0 := cell_of_box (bx_later HB.out B_d.out) 0 rfl
          have d1 := cell_of_box (bx_later HB.out B_d.out) 1 rfl
          have d2 := cell_of_box (bx_later HB.out B_d.out) 2 rfl
          have d3 := cell_of_box (bx_later HB.out B_d.out) 3 rfl
          go_wp2_with fail
          go_ret
          exact ⟨by first | rfl | exact ret_bool (by simp), below_then HB1.out HB.out⟩
        · have NE : Hid ((⟨dd, dq⟩ : Dt) ≠ ⟨ed, eq⟩) := fun h => hde (by cases h; exact ⟨rfl, rfl⟩)
          have q5 : (dd == ed) = false ∨ ((dd == ed) = true ∧ (dq == eq) = false) := by
            cases e : (dd == ed) with
            | false => exact .inl rfl
            | true => exact .inr ⟨rfl, by cases e' : (dq == eq) with | false => rfl | true => simp at e e'; exact absurd ⟨e, e'⟩ hde⟩
          clear hde
          obtain ⟨m1, hm1⟩ : ∃ m, addQ l z0 ⟨dd, dq⟩ = m := ⟨_, rfl⟩
          have hl1 := addQ_length l z0 ⟨dd, dq⟩
          obtain ⟨m2, hm2⟩ : ∃ m, takeQ m1 z1 ⟨ed, eq⟩ knew = m := ⟨_, rfl⟩
          have hl2 := takeQ_length m1 z1 ⟨ed, eq⟩ knew
          obtain ⟨m3, hm3⟩ : ∃ m, takeQ l z1 ⟨ed, eq⟩ knew = m := ⟨_, rfl⟩
          have hl3 := takeQ_length l z1 ⟨ed, eq⟩ knew
          obtain ⟨m4, hm4⟩ : ∃ m, addQ m3 z0 ⟨dd, dq⟩ = m := ⟨_, rfl⟩
          have hl4 := addQ_length m3 z0 ⟨dd, dq⟩
          have hrise := (rcQ_iff.1 F2.out).rise
          rw [hm1] at hl1
          rw [hm2] at hl2
          rw [hm3] at hl3
          rw [hm4] at hl4
          have hml1 : m1.length ≤ 1000 := by omega
          have hml2 : m2.length ≤ 1000 := by omega
          have hml3 : m3.length ≤ 1000 := by omega
          have hml4 : m4.length ≤ 1000 := by omega
          have M1 := Lib.hid hm1
          have M2 := Lib.hid hm2
          have M3 := Lib.hid hm3
          have M4 := Lib.hid hm4
          have RISE := Lib.hid hrise
          clear hl1 hl2 hl3 hl4 hrise hm1 hm2 hm3 hm4
          rcases q5 with q5 | ⟨q5, q6⟩
          all_goals
            by_cases hz : z0 = z1
            · cases hv : hasV knew ⟨dd, dq⟩
              · subst hz
                have hzb : (z0 == z0) = true := by simp
                have hsp : stayQ z0 ⟨ed, eq⟩ knew (numP z0 ⟨dd, dq⟩) = true := stay_put NE.out (.inr hv)
                have HV := Lib.hid hv
                clear hv
                have htp := take_put RISE.out hsp
                have hhn := has_take_put (l := l) hsp
                rw [show addQ l z0 ⟨dd, dq⟩ = m1 from M1.out, show takeQ m1 z0 ⟨ed, eq⟩ knew = m2 from M2.out] at htp hhn
                rw [show takeQ l z0 ⟨ed, eq⟩ knew = m3 from M3.out, show addQ m3 z0 ⟨dd, dq⟩ = m4 from M4.out] at htp
                have ME := Lib.hid htp
                have HN := Lib.hid hhn
                clear hsp htp hhn
                go_enter Try.func6, Try.ntmps6
                go_wp2_with fail
                rw [HW.out]
                go_wp2_with fail
                refine (few_b true F0.out (P.out.later HB.out)).mono ?_
                rintro e wn ⟨rfl, hb⟩
                replace HB := Lib.hid (below_then HB.out (by first | exact hb | exact below_alloc_then hb | exact below_alloc_then (below_alloc_then hb)))
                clear hb c0 c1 c2 c3 c4 zz0 zz1 d0 d1 d2 d3
                have c0 := cell_of_box (bx_later HB.out B_c.out) 0 rfl
                have c1 := cell_of_box (bx_later HB.out B_c.out) 1 rfl
                have c2 := cell_of_box (bx_later HB.out B_c.out) 2 rfl
                have c3 := cell_of_box (bx_later HB.out B_c.out) 3 rfl
                have c4 := cell_of_box (bx_later HB.out B_c.out) 4 rfl
                have zz0 := cell_of_box (bx_later HB.out B_zz.out) 0 rfl
                have zz1 := cell_of_box (bx_later HB.out B_zz.out) 1 rfl
                have d0 := cell_of_box (bx_later HB.out B_d.out) 0 rfl
                have d1 := cell_of_box (bx_later HB.out B_d.out) 1 rfl
                have d2 := cell_of_box (bx_later HB.out B_d.out) 2 rfl
                have d3 := cell_of_box (bx_later HB.out B_d.out) 3 rfl
                go_wp2_with fail
                refine (right_b true F2.out (P.out.later HB.out) (by omega)).mono ?_
                rintro e wn ⟨rfl, hb⟩
                replace HB := Lib.hid (below_then HB.out (by first | exact hb | exact below_alloc_then hb | exact below_alloc_then (below_alloc_then hb)))
                clear hb c0 c1 c2 c3 c4 zz0 zz1 d0 d1 d2 d3
                have c0 := cell_of_box (bx_later HB.out B_c.out) 0 rfl
                have c1 := cell_of_box (bx_later HB.out B_c.out) 1 rfl
                have c2 := cell_of_box (bx_later HB.out B_c.out) 2 rfl
                have c3 := cell_of_box (bx_later HB.out B_c.out) 3 rfl
                have c4 := cell_of_box (bx_later HB.out B_c.out) 4 rfl
                have zz0 := cell_of_box (bx_later HB.out B_zz.out) 0 rfl
                have zz1 := cell_of_box (bx_later HB.out B_zz.out) 1 rfl
                have d0 := cell_of_box (bx_later HB.out B_d.out) 0 rfl
                have d1 := cell_of_box (bx_later HB.out B_d.out) 1 rfl
                have d2 := cell_of_box (bx_later HB.out B_d.out) 2 rfl
                have d3 := cell_of_box (bx_later HB.out B_d.out) 3 rfl
                go_upto_region 3 with fail
                refine wp_region_flow (by kernel_rfl) 13 [(5, ⟨fun v => ∃ a k, v = .agg #[.int .i64 kd, .int .i64 ck, .int .i64 cn, .string cs, .slice a m1.length k], fun v _ _ w' => ∃ a k, v = .agg #[.int .i64 kd, .int .i64 ck, .int .i64 cn, .string cs, .slice a m1.length k] ∧ OwnP w' wn.heap.size (.slice a m1.length k) m1⟩), (11, ⟨fun v => ∃ a k, v = .agg #[.int .i64 kd, .int .i64 ck, .int .i64 cn, .string cs, .slice a m2.length k], fun v _ _ w' => ∃ a k, v = .agg #[.int .i64 kd, .int .i64 ck, .int .i64 cn, .string cs, .slice a m2.length k] ∧ OwnP w' wn.heap.size (.slice a m2.length k) m2⟩), (12, ⟨fun v => ∃ g : Nat, v = .pointer (some ⟨g, 0, none⟩), fun v _ _ w' => ∃ g : Nat, v = .pointer (some ⟨g, 0, none⟩) ∧ Bx w' g #[.int .i64 0, .int .i64 0, .int .i64 0, .string ⟨#[]⟩, .slice none 0 0] 26 ∧ wn.heap.size ≤ g⟩)] (by kernel_rfl) ?_ ?_ ?_
                · intro x hx
                  simp only [List.mem_cons, List.not_mem_nil, or_false] at hx
                  rcases hx with rfl | rfl | rfl
                  · exact ⟨_, none, 0, rfl⟩
                  · exact ⟨_, none, 0, rfl⟩
                  · exact ⟨_, 0, rfl⟩
                · intro x hx v lo hi w w' h hb
                  simp only [List.mem_cons, List.not_mem_nil, or_false] at hx
                  rcases hx with rfl | rfl | rfl
                  · obtain ⟨a, k, rfl, ho⟩ := h
                    exact ⟨a, k, rfl, own_later ho hb⟩
                  · obtain ⟨a, k, rfl, ho⟩ := h
                    exact ⟨a, k, rfl, own_later ho hb⟩
                  · obtain ⟨g, rfl, h1, h2⟩ := h
                    exact ⟨g, rfl, bx_later hb h1, h2⟩
                · intro lo hi
                  have kc0 := cell_regrown c0
                  have kc1 := cell_regrown c1
                  have kc2 := cell_regrown c2
                  have kc3 := cell_regrown c3
                  have kc4 := cell_regrown c4
                  have kzz0 := cell_regrown zz0
                  have kzz1 := cell_regrown zz1
                  have kd0 := cell_regrown d0
                  have kd1 := cell_regrown d1
                  have kd2 := cell_regrown d2
                  have kd3 := cell_regrown d3
                  refine flowW_plain rfl ?_
                  go_big_quiet_step (fail)
                  refine wpQuiet_nil ?_
                  refine flowW_plain rfl ?_
                  go_big_quiet_step (fail)
                  refine wpQuiet_nil ?_
                  refine flowW_plain rfl ?_
                  go_big_quiet_step (fail)
                  refine wpQuiet_nil ?_
                  refine flowW_plain rfl ?_
                  go_big_quiet_step (fail)
                  refine wpQuiet_nil ?_
                  refine flowW_plain rfl ?_
                  go_big_quiet_step (fail)
                  refine wpQuiet_nil ?_
                  refine flowW_call rfl rfl ?_ ?_
                  · intro W hW hF K hK
                    clear kc0 kc1 kc2 kc3 kc4 kzz0 kzz1 kd0 kd1 kd2 kd3
                    go_wp2_with fail
                    refine (put_o (P.out.later (below_then HB.out hW)) (by omega) M1.out).mono ?_
                    rintro e wq ⟨a, k, rfl, ho, hbq⟩
                    go_wp2_with fail
                    exact hK _ _ ⟨a, k, rfl⟩ ⟨a, k, rfl, own_monoP ho hW.size⟩ hbq
                  rintro v ⟨a5, k5, rfl⟩ K hK
                  go_simp
                  refine hK _ ?_
                  clear hK K
                  refine flowW_plain rfl ?_
                  go_big_quiet_step (fail)
                  refine wpQuiet_nil ?_
                  refine flowW_plain rfl ?_
                  go_big_quiet_step (fail)
                  refine wpQuiet_nil ?_
                  refine flowW_plain rfl ?_
                  go_big_quiet_step (fail)
                  refine wpQuiet_nil ?_
                  refine flowW_plain rfl ?_
                  go_big_quiet_step (fail)
                  refine wpQuiet_nil ?_
                  refine flowW_plain rfl ?_
                  go_big_quiet_step (fail)
                  refine wpQuiet_nil ?_
                  refine flowW_call rfl rfl ?_ ?_
                  · intro W hW hF K hK
                    clear kc0 kc1 kc2 kc3 kc4 kzz0 kzz1 kd0 kd1 kd2 kd3
                    obtain ⟨_, _, he5, h5⟩ := hF 5 rfl
                    cases he5
                    replace h5 := Rd.of_own h5
                    go_wp2_with fail
                    refine (take_o knew h5 (KN.out.later (below_then HB.out hW)) (by omega) M2.out).mono ?_
                    rintro e wq ⟨a, k, rfl, ho, hbq⟩
                    go_wp2_with fail
                    exact hK _ _ ⟨a, k, rfl⟩ ⟨a, k, rfl, own_monoP ho hW.size⟩ hbq
                  rintro v ⟨a11, k11, rfl⟩ K hK
                  go_simp
                  refine hK _ ?_
                  clear hK K
                  refine flowW_call rfl rfl ?_ ?_
                  · intro W hW hF K hK
                    clear kc0 kc1 kc2 kc3 kc4 kzz0 kzz1 kd0 kd1 kd2 kd3
                    go_wp2_with fail
                    exact hK _ _ ⟨_, rfl⟩ ⟨_, rfl, bx_new rfl, hW.size⟩ (below_alloc _ _)
                  rintro v ⟨g12, rfl⟩ K hK
                  go_simp
                  refine hK _ ?_
                  clear hK K
                  refine flowW_end fun wz hwz hF hD => ?_
                  clear kc0 kc1 kc2 kc3 kc4 kzz0 kzz1 kd0 kd1 kd2 kd3
                  simp only [List.drop_succ_cons, List.drop_zero]
                  obtain ⟨_, _, he, ho⟩ := hF 11
                  cases he
                  obtain ⟨_, he, bg, hg⟩ := hF 12
                  cases he
                  refine wpList_store_box rfl _ _ rfl rfl rfl (by kernel_rfl) bg rfl rfl rfl rfl ?_
                  have hbn := below_row (below_then HB.out hwz) (Nat.le_trans HB.out.size hg) #[(.int .i64 kd), (.int .i64 ck), (.int .i64 cn), (.string cs), (.slice a11 m2.length k11)]
                  have bn := bx_row bg #[(.int .i64 kd), (.int .i64 ck), (.int .i64 cn), (.string cs), (.slice a11 m2.length k11)]
                  have hn := Rd.of_own (own_row ho bg rfl #[(.int .i64 kd), (.int .i64 ck), (.int .i64 cn), (.string cs), (.slice a11 m2.length k11)])
                  clear ho
                  have HBN := Lib.hid hbn
                  have BN := Lib.hid bn
                  have HN := Lib.hid hn
                  clear hn hbn bn bg hF hD c0 c1 c2 c3 c4 zz0 zz1 d0 d1 d2 d3
                  go_upto_region 4 with fail
                  replace B_c := Lib.hid (bx_later HBN.out B_c.out)
                  replace B_zz := Lib.hid (bx_later HBN.out B_zz.out)
                  replace B_d := Lib.hid (bx_later HBN.out B_d.out)
                  replace P := Lib.hid (P.out.later HBN.out)
                  replace KN := Lib.hid (KN.out.later HBN.out)
                  replace HB1 := Lib.hid (below_then HB1.out HBN.out)
                  clear HBN HB hwz hg
                  generalize wz.setRow g12 #[(.int .i64 kd), (.int .i64 ck), (.int .i64 cn), (.string cs), (.slice a11 m2.length k11)] = w2 at *
                  have HB := Lib.hid (Below.refl w2.heap.size w2)
                  have B_u := BN
                  clear BN
                  have P_u := HN
                  clear HN
                  have c0 := cell_of_box (bx_later HB.out B_c.out) 0 rfl
                  have c1 := cell_of_box (bx_later HB.out B_c.out) 1 rfl
                  have c2 := cell_of_box (bx_later HB.out B_c.out) 2 rfl
                  have c3 := cell_of_box (bx_later HB.out B_c.out) 3 rfl
                  have c4 := cell_of_box (bx_later HB.out B_c.out) 4 rfl
                  have zz0 := cell_of_box (bx_later HB.out B_zz.out) 0 rfl
                  have zz1 := cell_of_box (bx_later HB.out B_zz.out) 1 rfl
                  have d0 := cell_of_box (bx_later HB.out B_d.out) 0 rfl
                  have d1 := cell_of_box (bx_later HB.out B_d.out) 1 rfl
                  have d2 := cell_of_box (bx_later HB.out B_d.out) 2 rfl
                  have d3 := cell_of_box (bx_later HB.out B_d.out) 3 rfl
                  have u0 := cell_of_box (bx_later HB.out B_u.out) 0 rfl
                  have u1 := cell_of_box (bx_later HB.out B_u.out) 1 rfl
                  have u2 := cell_of_box (bx_later HB.out B_u.out) 2 rfl
                  have u3 := cell_of_box (bx_later HB.out B_u.out) 3 rfl
                  have u4 := cell_of_box (bx_later HB.out B_u.out) 4 rfl
                  refine wp_region_flow (by kernel_rfl) 13 [(6, ⟨fun v => ∃ a k, v = .agg #[.int .i64 kd, .int .i64 ck, .int .i64 cn, .string cs, .slice a m3.length k], fun v _ _ w' => ∃ a k, v = .agg #[.int .i64 kd, .int .i64 ck, .int .i64 cn, .string cs, .slice a m3.length k] ∧ OwnP w' w2.heap.size (.slice a m3.length k) m3⟩), (11, ⟨fun v => ∃ a k, v = .agg #[.int .i64 kd, .int .i64 ck, .int .i64 cn, .string cs, .slice a m4.length k], fun v _ _ w' => ∃ a k, v = .agg #[.int .i64 kd, .int .i64 ck, .int .i64 cn, .string cs, .slice a m4.length k] ∧ OwnP w' w2.heap.size (.slice a m4.length k) m4⟩), (12, ⟨fun v => ∃ g : Nat, v = .pointer (some ⟨g, 0, none⟩), fun v _ _ w' => ∃ g : Nat, v = .pointer (some ⟨g, 0, none⟩) ∧ Bx w' g #[.int .i64 0, .int .i64 0, .int .i64 0, .string ⟨#[]⟩, .slice none 0 0] 26 ∧ w2.heap.size ≤ g⟩)] (by kernel_rfl) ?_ ?_ ?_
                  · intro x hx
                    simp only [List.mem_cons, List.not_mem_nil, or_false] at hx
                    rcases hx with rfl | rfl | rfl
                    · exact ⟨_, none, 0, rfl⟩
                    · exact ⟨_, none, 0, rfl⟩
                    · exact ⟨_, 0, rfl⟩
                  · intro x hx v lo hi w w' h hb
                    simp only [List.mem_cons, List.not_mem_nil, or_false] at hx
                    rcases hx with rfl | rfl | rfl
                    · obtain ⟨a, k, rfl, ho⟩ := h
                      exact ⟨a, k, rfl, own_later ho hb⟩
                    · obtain ⟨a, k, rfl, ho⟩ := h
                      exact ⟨a, k, rfl, own_later ho hb⟩
                    · obtain ⟨g, rfl, h1, h2⟩ := h
                      exact ⟨g, rfl, bx_later hb h1, h2⟩
                  · intro lo hi
                    have kc0 := cell_regrown c0
                    have kc1 := cell_regrown c1
                    have kc2 := cell_regrown c2
                    have kc3 := cell_regrown c3
                    have kc4 := cell_regrown c4
                    have kzz0 := cell_regrown zz0
                    have kzz1 := cell_regrown zz1
                    have kd0 := cell_regrown d0
                    have kd1 := cell_regrown d1
                    have kd2 := cell_regrown d2
                    have kd3 := cell_regrown d3
                    have ku0 := cell_regrown u0
                    have ku1 := cell_regrown u1
                    have ku2 := cell_regrown u2
                    have ku3 := cell_regrown u3
                    have ku4 := cell_regrown u4
                    refine flowW_plain rfl ?_
                    go_big_quiet_step (fail)
                    refine wpQuiet_nil ?_
                    refine flowW_plain rfl ?_
                    go_big_quiet_step (fail)
                    refine wpQuiet_nil ?_
                    refine flowW_plain rfl ?_
                    go_big_quiet_step (fail)
                    refine wpQuiet_nil ?_
                    refine flowW_plain rfl ?_
                    go_big_quiet_step (fail)
                    refine wpQuiet_nil ?_
                    refine flowW_plain rfl ?_
                    go_big_quiet_step (fail)
                    refine wpQuiet_nil ?_
                    refine flowW_plain rfl ?_
                    go_big_quiet_step (fail)
                    refine wpQuiet_nil ?_
                    refine flowW_call rfl rfl ?_ ?_
                    · intro W hW hF K hK
                      clear kc0 kc1 kc2 kc3 kc4 kzz0 kzz1 kd0 kd1 kd2 kd3 ku0 ku1 ku2 ku3 ku4
                      go_wp2_with fail
                      refine (take_o knew (P.out.later (below_then HB.out hW)) (KN.out.later (below_then HB.out hW)) (by omega) M3.out).mono ?_
                      rintro e wq ⟨a, k, rfl, ho, hbq⟩
                      go_wp2_with fail
                      exact hK _ _ ⟨a, k, rfl⟩ ⟨a, k, rfl, own_monoP ho hW.size⟩ hbq
                    rintro v ⟨a6, k6, rfl⟩ K hK
                    go_simp
                    refine hK _ ?_
                    clear hK K
                    refine flowW_plain rfl ?_
                    go_big_quiet_step (fail)
                    refine wpQuiet_nil ?_
                    refine flowW_plain rfl ?_
                    go_big_quiet_step (fail)
                    refine wpQuiet_nil ?_
                    refine flowW_plain rfl ?_
                    go_big_quiet_step (fail)
                    refine wpQuiet_nil ?_
                    refine flowW_plain rfl ?_
                    go_big_quiet_step (fail)
                    refine wpQuiet_nil ?_
                    refine flowW_call rfl rfl ?_ ?_
                    · intro W hW hF K hK
                      clear kc0 kc1 kc2 kc3 kc4 kzz0 kzz1 kd0 kd1 kd2 kd3 ku0 ku1 ku2 ku3 ku4
                      obtain ⟨_, _, he6, h6⟩ := hF 6 rfl
                      cases he6
                      replace h6 := Rd.of_own h6
                      go_wp2_with fail
                      refine (put_o h6 (by omega) M4.out).mono ?_
                      rintro e wq ⟨a, k, rfl, ho, hbq⟩
                      go_wp2_with fail
                      exact hK _ _ ⟨a, k, rfl⟩ ⟨a, k, rfl, own_monoP ho hW.size⟩ hbq
                    rintro v ⟨a11, k11, rfl⟩ K hK
                    go_simp
                    refine hK _ ?_
                    clear hK K
                    refine flowW_call rfl rfl ?_ ?_
                    · intro W hW hF K hK
                      clear kc0 kc1 kc2 kc3 kc4 kzz0 kzz1 kd0 kd1 kd2 kd3 ku0 ku1 ku2 ku3 ku4
                      go_wp2_with fail
                      exact hK _ _ ⟨_, rfl⟩ ⟨_, rfl, bx_new rfl, hW.size⟩ (below_alloc _ _)
                    rintro v ⟨g12, rfl⟩ K hK
                    go_simp
                    refine hK _ ?_
                    clear hK K
                    refine flowW_end fun wz hwz hF hD => ?_
                    clear kc0 kc1 kc2 kc3 kc4 kzz0 kzz1 kd0 kd1 kd2 kd3 ku0 ku1 ku2 ku3 ku4
                    simp only [List.drop_succ_cons, List.drop_zero]
                    obtain ⟨_, _, he, ho⟩ := hF 11
                    cases he
                    obtain ⟨_, he, bg, hg⟩ := hF 12
                    cases he
                    refine wpList_store_box rfl _ _ rfl rfl rfl (by kernel_rfl) bg rfl rfl rfl rfl ?_
                    have hbn := below_row (below_then HB.out hwz) (Nat.le_trans HB.out.size hg) #[(.int .i64 kd), (.int .i64 ck), (.int .i64 cn), (.string cs), (.slice a11 m4.length k11)]
                    have bn := bx_row bg #[(.int .i64 kd), (.int .i64 ck), (.int .i64 cn), (.string cs), (.slice a11 m4.length k11)]
                    have hn := Rd.of_own (own_row ho bg rfl #[(.int .i64 kd), (.int .i64 ck), (.int .i64 cn), (.string cs), (.slice a11 m4.length k11)])
                    clear ho
                    have HBN := Lib.hid hbn
                    have BN := Lib.hid bn
                    have HN := Lib.hid hn
                    clear hn hbn bn bg hF hD c0 c1 c2 c3 c4 zz0 zz1 d0 d1 d2 d3 u0 u1 u2 u3 u4
                    go_upto_region 5 with fail
                    replace B_c := Lib.hid (bx_later HBN.out B_c.out)
                    replace B_zz := Lib.hid (bx_later HBN.out B_zz.out)
                    replace B_d := Lib.hid (bx_later HBN.out B_d.out)
                    replace B_u := Lib.hid (bx_later HBN.out B_u.out)
                    replace P := Lib.hid (P.out.later HBN.out)
                    replace KN := Lib.hid (KN.out.later HBN.out)
                    replace P_u := Lib.hid (P_u.out.later HBN.out)
                    replace HB1 := Lib.hid (below_then HB1.out HBN.out)
                    clear HBN HB hwz hg
                    generalize wz.setRow g12 #[(.int .i64 kd), (.int .i64 ck), (.int .i64 cn), (.string cs), (.slice a11 m4.length k11)] = w3 at *
                    have HB := Lib.hid (Below.refl w3.heap.size w3)
                    have B_t := BN
                    clear BN
                    have P_t := HN
                    clear HN
                    have c0 := cell_of_box (bx_later HB.out B_c.out) 0 rfl
                    have c1 := cell_of_box (bx_later HB.out B_c.out) 1 rfl
                    have c2 := cell_of_box (bx_later HB.out B_c.out) 2 rfl
                    have c3 := cell_of_box (bx_later HB.out B_c.out) 3 rfl
                    have c4 := cell_of_box (bx_later HB.out B_c.out) 4 rfl
                    have zz0 := cell_of_box (bx_later HB.out B_zz.out) 0 rfl
                    have zz1 := cell_of_box (bx_later HB.out B_zz.out) 1 rfl
                    have d0 := cell_of_box (bx_later HB.out B_d.out) 0 rfl
                    have d1 := cell_of_box (bx_later HB.out B_d.out) 1 rfl
                    have d2 := cell_of_box (bx_later HB.out B_d.out) 2 rfl
                    have d3 := cell_of_box (bx_later HB.out B_d.out) 3 rfl
                    have u0 := cell_of_box (bx_later HB.out B_u.out) 0 rfl
                    have u1 := cell_of_box (bx_later HB.out B_u.out) 1 rfl
                    have u2 := cell_of_box (bx_later HB.out B_u.out) 2 rfl
                    have u3 := cell_of_box (bx_later HB.out B_u.out) 3 rfl
                    have u4 := cell_of_box (bx_later HB.out B_u.out) 4 rfl
                    have t0 := cell_of_box (bx_later HB.out B_t.out) 0 rfl
                    have t1 := cell_of_box (bx_later HB.out B_t.out) 1 rfl
                    have t2 := cell_of_box (bx_later HB.out B_t.out) 2 rfl
                    have t3 := cell_of_box (bx_later HB.out B_t.out) 3 rfl
                    have t4 := cell_of_box (bx_later HB.out B_t.out) 4 rfl
                    go_wp2_with fail
                    refine (refHasV_b false HV.out (KN.out.later HB.out)).mono ?_
                    rintro e wn ⟨rfl, hb⟩
                    replace HB := Lib.hid (below_then HB.out (by first | exact hb | exact below_alloc_then hb | exact below_alloc_then (below_alloc_then hb)))
                    clear hb c0 c1 c2 c3 c4 zz0 zz1 d0 d1 d2 d3 u0 u1 u2 u3 u4 t0 t1 t2 t3 t4
                    have c0 := cell_of_box (bx_later HB.out B_c.out) 0 rfl
                    have c1 := cell_of_box (bx_later HB.out B_c.out) 1 rfl
                    have c2 := cell_of_box (bx_later HB.out B_c.out) 2 rfl
                    have c3 := cell_of_box (bx_later HB.out B_c.out) 3 rfl
                    have c4 := cell_of_box (bx_later HB.out B_c.out) 4 rfl
                    have zz0 := cell_of_box (bx_later HB.out B_zz.out) 0 rfl
                    have zz1 := cell_of_box (bx_later HB.out B_zz.out) 1 rfl
                    have d0 := cell_of_box (bx_later HB.out B_d.out) 0 rfl
                    have d1 := cell_of_box (bx_later HB.out B_d.out) 1 rfl
                    have d2 := cell_of_box (bx_later HB.out B_d.out) 2 rfl
                    have d3 := cell_of_box (bx_later HB.out B_d.out) 3 rfl
                    have u0 := cell_of_box (bx_later HB.out B_u.out) 0 rfl
                    have u1 := cell_of_box (bx_later HB.out B_u.out) 1 rfl
                    have u2 := cell_of_box (bx_later HB.out B_u.out) 2 rfl
                    have u3 := cell_of_box (bx_later HB.out B_u.out) 3 rfl
                    have u4 := cell_of_box (bx_later HB.out B_u.out) 4 rfl
                    have t0 := cell_of_box (bx_later HB.out B_t.out) 0 rfl
                    have t1 := cell_of_box (bx_later HB.out B_t.out) 1 rfl
                    have t2 := cell_of_box (bx_later HB.out B_t.out) 2 rfl
                    have t3 := cell_of_box (bx_later HB.out B_t.out) 3 rfl
                    have t4 := cell_of_box (bx_later HB.out B_t.out) 4 rfl
                    go_wp2_with fail
                    refine (alive_any _).mono ?_
                    rintro e wn ⟨rfl, hb⟩
                    replace HB := Lib.hid (below_then HB.out (by first | exact hb | exact below_alloc_then hb | exact below_alloc_then (below_alloc_then hb)))
                    clear hb c0 c1 c2 c3 c4 zz0 zz1 d0 d1 d2 d3 u0 u1 u2 u3 u4 t0 t1 t2 t3 t4
                    have c0 := cell_of_box (bx_later HB.out B_c.out) 0 rfl
                    have c1 := cell_of_box (bx_later HB.out B_c.out) 1 rfl
                    have c2 := cell_of_box (bx_later HB.out B_c.out) 2 rfl
                    have c3 := cell_of_box (bx_later HB.out B_c.out) 3 rfl
                    have c4 := cell_of_box (bx_later HB.out B_c.out) 4 rfl
                    have zz0 := cell_of_box (bx_later HB.out B_zz.out) 0 rfl
                    have zz1 := cell_of_box (bx_later HB.out B_zz.out) 1 rfl
                    have d0 := cell_of_box (bx_later HB.out B_d.out) 0 rfl
                    have d1 := cell_of_box (bx_later HB.out B_d.out) 1 rfl
                    have d2 := cell_of_box (bx_later HB.out B_d.out) 2 rfl
                    have d3 := cell_of_box (bx_later HB.out B_d.out) 3 rfl
                    have u0 := cell_of_box (bx_later HB.out B_u.out) 0 rfl
                    have u1 := cell_of_box (bx_later HB.out B_u.out) 1 rfl
                    have u2 := cell_of_box (bx_later HB.out B_u.out) 2 rfl
                    have u3 := cell_of_box (bx_later HB.out B_u.out) 3 rfl
                    have u4 := cell_of_box (bx_later HB.out B_u.out) 4 rfl
                    have t0 := cell_of_box (bx_later HB.out B_t.out) 0 rfl
                    have t1 := cell_of_box (bx_later HB.out B_t.out) 1 rfl
                    have t2 := cell_of_box (bx_later HB.out B_t.out) 2 rfl
                    have t3 := cell_of_box (bx_later HB.out B_t.out) 3 rfl
                    have t4 := cell_of_box (bx_later HB.out B_t.out) 4 rfl
                    go_wp2_with fail
                    refine (same_p m2 (P_u.out.later HB.out) (by rw [ME.out]; exact P_t.out.later HB.out) (by omega)).mono ?_
                    rintro e wn ⟨rfl, hb⟩
                    replace HB := Lib.hid (below_then HB.out (by first | exact hb | exact below_alloc_then hb | exact below_alloc_then (below_alloc_then hb)))
                    clear hb c0 c1 c2 c3 c4 zz0 zz1 d0 d1 d2 d3 u0 u1 u2 u3 u4 t0 t1 t2 t3 t4
                    have c0 := cell_of_box (bx_later HB.out B_c.out) 0 rfl
                    have c1 := cell_of_box (bx_later HB.out B_c.out) 1 rfl
                    have c2 := cell_of_box (bx_later HB.out B_c.out) 2 rfl
                    have c3 := cell_of_box (bx_later HB.out B_c.out) 3 rfl
                    have c4 := cell_of_box (bx_later HB.out B_c.out) 4 rfl
                    have zz0 := cell_of_box (bx_later HB.out B_zz.out) 0 rfl
                    have zz1 := cell_of_box (bx_later HB.out B_zz.out) 1 rfl
                    have d0 := cell_of_box (bx_later HB.out B_d.out) 0 rfl
                    have d1 := cell_of_box (bx_later HB.out B_d.out) 1 rfl
                    have d2 := cell_of_box (bx_later HB.out B_d.out) 2 rfl
                    have d3 := cell_of_box (bx_later HB.out B_d.out) 3 rfl
                    have u0 := cell_of_box (bx_later HB.out B_u.out) 0 rfl
                    have u1 := cell_of_box (bx_later HB.out B_u.out) 1 rfl
                    have u2 := cell_of_box (bx_later HB.out B_u.out) 2 rfl
                    have u3 := cell_of_box (bx_later HB.out B_u.out) 3 rfl
                    have u4 := cell_of_box (bx_later HB.out B_u.out) 4 rfl
                    have t0 := cell_of_box (bx_later HB.out B_t.out) 0 rfl
                    have t1 := cell_of_box (bx_later HB.out B_t.out) 1 rfl
                    have t2 := cell_of_box (bx_later HB.out B_t.out) 2 rfl
                    have t3 := cell_of_box (bx_later HB.out B_t.out) 3 rfl
                    have t4 := cell_of_box (bx_later HB.out B_t.out) 4 rfl
                    go_wp2_with fail
                    refine (hasN_b true HN.out (P_u.out.later HB.out) (by omega)).mono ?_
                    rintro e wn ⟨rfl, hb⟩
                    replace HB := Lib.hid (below_then HB.out (by first | exact hb | exact below_alloc_then hb | exact below_alloc_then (below_alloc_then hb)))
                    clear hb c0 c1 c2 c3 c4 zz0 zz1 d0 d1 d2 d3 u0 u1 u2 u3 u4 t0 t1 t2 t3 t4
                    have c0 := cell_of_box (bx_later HB.out B_c.out) 0 rfl
                    have c1 := cell_of_box (bx_later HB.out B_c.out) 1 rfl
                    have c2 := cell_of_box (bx_later HB.out B_c.out) 2 rfl
                    have c3 := cell_of_box (bx_later HB.out B_c.out) 3 rfl
                    have c4 := cell_of_box (bx_later HB.out B_c.out) 4 rfl
                    have zz0 := cell_of_box (bx_later HB.out B_zz.out) 0 rfl
                    have zz1 := cell_of_box (bx_later HB.out B_zz.out) 1 rfl
                    have d0 := cell_of_box (bx_later HB.out B_d.out) 0 rfl
                    have d1 := cell_of_box (bx_later HB.out B_d.out) 1 rfl
                    have d2 := cell_of_box (bx_later HB.out B_d.out) 2 rfl
                    have d3 := cell_of_box (bx_later HB.out B_d.out) 3 rfl
                    have u0 := cell_of_box (bx_later HB.out B_u.out) 0 rfl
                    have u1 := cell_of_box (bx_later HB.out B_u.out) 1 rfl
                    have u2 := cell_of_box (bx_later HB.out B_u.out) 2 rfl
                    have u3 := cell_of_box (bx_later HB.out B_u.out) 3 rfl
                    have u4 := cell_of_box (bx_later HB.out B_u.out) 4 rfl
                    have t0 := cell_of_box (bx_later HB.out B_t.out) 0 rfl
                    have t1 := cell_of_box (bx_later HB.out B_t.out) 1 rfl
                    have t2 := cell_of_box (bx_later HB.out B_t.out) 2 rfl
                    have t3 := cell_of_box (bx_later HB.out B_t.out) 3 rfl
                    have t4 := cell_of_box (bx_later HB.out B_t.out) 4 rfl
                    go_wp2_with fail
                    go_ret
                    exact ⟨by first | rfl | exact ret_bool (by simp), below_then HB1.out HB.out⟩
              · subst hz
                have hzb : (z0 == z0) = true := by simp
                have hp5 := at_taken m1 (n := z0) (d := ⟨dd, dq⟩) (e := ⟨ed, eq⟩) (k := knew) hv
                rw [show takeQ m1 z0 ⟨ed, eq⟩ knew = m2 from M2.out] at hp5
                obtain ⟨m5, hm5⟩ : ∃ m, atN m2 z0 = m := ⟨_, rfl⟩
                have hl5 : (atN m2 z0).length ≤ m2.length := List.length_filter_le _ _
                rw [hm5] at hp5 hl5
                have hml5 : m5.length ≤ 1000 := by omega
                have M5 := Lib.hid hm5
                have HP5 := Lib.hid hp5
                have HV := Lib.hid hv
                clear hm5 hp5 hl5 hv
                go_enter Try.func6, Try.ntmps6
                go_wp2_with fail
                rw [HW.out]
                go_wp2_with fail
                refine (few_b true F0.out (P.out.later HB.out)).mono ?_
                rintro e wn ⟨rfl, hb⟩
                replace HB := Lib.hid (below_then HB.out (by first | exact hb | exact below_alloc_then hb | exact below_alloc_then (below_alloc_then hb)))
                clear hb c0 c1 c2 c3 c4 zz0 zz1 d0 d1 d2 d3
                have c0 := cell_of_box (bx_later HB.out B_c.out) 0 rfl
                have c1 := cell_of_box (bx_later HB.out B_c.out) 1 rfl
                have c2 := cell_of_box (bx_later HB.out B_c.out) 2 rfl
                have c3 := cell_of_box (bx_later HB.out B_c.out) 3 rfl
                have c4 := cell_of_box (bx_later HB.out B_c.out) 4 rfl
                have zz0 := cell_of_box (bx_later HB.out B_zz.out) 0 rfl
                have zz1 := cell_of_box (bx_later HB.out B_zz.out) 1 rfl
                have d0 := cell_of_box (bx_later HB.out B_d.out) 0 rfl
                have d1 := cell_of_box (bx_later HB.out B_d.out) 1 rfl
                have d2 := cell_of_box (bx_later HB.out B_d.out) 2 rfl
                have d3 := cell_of_box (bx_later HB.out B_d.out) 3 rfl
                go_wp2_with fail
                refine (right_b true F2.out (P.out.later HB.out) (by omega)).mono ?_
                rintro e wn ⟨rfl, hb⟩
                replace HB := Lib.hid (below_then HB.out (by first | exact hb | exact below_alloc_then hb | exact below_alloc_then (below_alloc_then hb)))
                clear hb c0 c1 c2 c3 c4 zz0 zz1 d0 d1 d2 d3
                have c0 := cell_of_box (bx_later HB.out B_c.out) 0 rfl
                have c1 := cell_of_box (bx_later HB.out B_c.out) 1 rfl
                have c2 := cell_of_box (bx_later HB.out B_c.out) 2 rfl
                have c3 := cell_of_box (bx_later HB.out B_c.out) 3 rfl
                have c4 := cell_of_box (bx_later HB.out B_c.out) 4 rfl
                have zz0 := cell_of_box (bx_later HB.out B_zz.out) 0 rfl
                have zz1 := cell_of_box (bx_later HB.out B_zz.out) 1 rfl
                have d0 := cell_of_box (bx_later HB.out B_d.out) 0 rfl
                have d1 := cell_of_box (bx_later HB.out B_d.out) 1 rfl
                have d2 := cell_of_box (bx_later HB.out B_d.out) 2 rfl
                have d3 := cell_of_box (bx_later HB.out B_d.out) 3 rfl
                go_upto_region 3 with fail
                refine wp_region_flow (by kernel_rfl) 13 [(5, ⟨fun v => ∃ a k, v = .agg #[.int .i64 kd, .int .i64 ck, .int .i64 cn, .string cs, .slice a m1.length k], fun v _ _ w' => ∃ a k, v = .agg #[.int .i64 kd, .int .i64 ck, .int .i64 cn, .string cs, .slice a m1.length k] ∧ OwnP w' wn.heap.size (.slice a m1.length k) m1⟩), (11, ⟨fun v => ∃ a k, v = .agg #[.int .i64 kd, .int .i64 ck, .int .i64 cn, .string cs, .slice a m2.length k], fun v _ _ w' => ∃ a k, v = .agg #[.int .i64 kd, .int .i64 ck, .int .i64 cn, .string cs, .slice a m2.length k] ∧ OwnP w' wn.heap.size (.slice a m2.length k) m2⟩), (12, ⟨fun v => ∃ g : Nat, v = .pointer (some ⟨g, 0, none⟩), fun v _ _ w' => ∃ g : Nat, v = .pointer (some ⟨g, 0, none⟩) ∧ Bx w' g #[.int .i64 0, .int .i64 0, .int .i64 0, .string ⟨#[]⟩, .slice none 0 0] 26 ∧ wn.heap.size ≤ g⟩)] (by kernel_rfl) ?_ ?_ ?_
                · intro x hx
                  simp only [List.mem_cons, List.not_mem_nil, or_false] at hx
                  rcases hx with rfl | rfl | rfl
                  · exact ⟨_, none, 0, rfl⟩
                  · exact ⟨_, none, 0, rfl⟩
                  · exact ⟨_, 0, rfl⟩
                · intro x hx v lo hi w w' h hb
                  simp only [List.mem_cons, List.not_mem_nil, or_false] at hx
                  rcases hx with rfl | rfl | rfl
                  · obtain ⟨a, k, rfl, ho⟩ := h
                    exact ⟨a, k, rfl, own_later ho hb⟩
                  · obtain ⟨a, k, rfl, ho⟩ := h
                    exact ⟨a, k, rfl, own_later ho hb⟩
                  · obtain ⟨g, rfl, h1, h2⟩ := h
                    exact ⟨g, rfl, bx_later hb h1, h2⟩
                · intro lo hi
                  have kc0 := cell_regrown c0
                  have kc1 := cell_regrown c1
                  have kc2 := cell_regrown c2
                  have kc3 := cell_regrown c3
                  have kc4 := cell_regrown c4
                  have kzz0 := cell_regrown zz0
                  have kzz1 := cell_regrown zz1
                  have kd0 := cell_regrown d0
                  have kd1 := cell_regrown d1
                  have kd2 := cell_regrown d2
                  have kd3 := cell_regrown d3
                  refine flowW_plain rfl ?_
                  go_big_quiet_step (fail)
                  refine wpQuiet_nil ?_
                  refine flowW_plain rfl ?_
                  go_big_quiet_step (fail)
                  refine wpQuiet_nil ?_
                  refine flowW_plain rfl ?_
                  go_big_quiet_step (fail)
                  refine wpQuiet_nil ?_
                  refine flowW_plain rfl ?_
                  go_big_quiet_step (fail)
                  refine wpQuiet_nil ?_
                  refine flowW_plain rfl ?_
                  go_big_quiet_step (fail)
                  refine wpQuiet_nil ?_
                  refine flowW_call rfl rfl ?_ ?_
                  · intro W hW hF K hK
                    clear kc0 kc1 kc2 kc3 kc4 kzz0 kzz1 kd0 kd1 kd2 kd3
                    go_wp2_with fail
                    refine (put_o (P.out.later (below_then HB.out hW)) (by omega) M1.out).mono ?_
                    rintro e wq ⟨a, k, rfl, ho, hbq⟩
                    go_wp2_with fail
                    exact hK _ _ ⟨a, k, rfl⟩ ⟨a, k, rfl, own_monoP ho hW.size⟩ hbq
                  rintro v ⟨a5, k5, rfl⟩ K hK
                  go_simp
                  refine hK _ ?_
                  clear hK K
                  refine flowW_plain rfl ?_
                  go_big_quiet_step (fail)
                  refine wpQuiet_nil ?_
                  refine flowW_plain rfl ?_
                  go_big_quiet_step (fail)
                  refine wpQuiet_nil ?_
                  refine flowW_plain rfl ?_
                  go_big_quiet_step (fail)
                  refine wpQuiet_nil ?_
                  refine flowW_plain rfl ?_
                  go_big_quiet_step (fail)
                  refine wpQuiet_nil ?_
                  refine flowW_plain rfl ?_
                  go_big_quiet_step (fail)
                  refine wpQuiet_nil ?_
                  refine flowW_call rfl rfl ?_ ?_
                  · intro W hW hF K hK
                    clear kc0 kc1 kc2 kc3 kc4 kzz0 kzz1 kd0 kd1 kd2 kd3
                    obtain ⟨_, _, he5, h5⟩ := hF 5 rfl
                    cases he5
                    replace h5 := Rd.of_own h5
                    go_wp2_with fail
                    refine (take_o knew h5 (KN.out.later (below_then HB.out hW)) (by omega) M2.out).mono ?_
                    rintro e wq ⟨a, k, rfl, ho, hbq⟩
                    go_wp2_with fail
                    exact hK _ _ ⟨a, k, rfl⟩ ⟨a, k, rfl, own_monoP ho hW.size⟩ hbq
                  rintro v ⟨a11, k11, rfl⟩ K hK
                  go_simp
                  refine hK _ ?_
                  clear hK K
                  refine flowW_call rfl rfl ?_ ?_
                  · intro W hW hF K hK
                    clear kc0 kc1 kc2 kc3 kc4 kzz0 kzz1 kd0 kd1 kd2 kd3
                    go_wp2_with fail
                    exact hK _ _ ⟨_, rfl⟩ ⟨_, rfl, bx_new rfl, hW.size⟩ (below_alloc _ _)
                  rintro v ⟨g12, rfl⟩ K hK
                  go_simp
                  refine hK _ ?_
                  clear hK K
                  refine flowW_end fun wz hwz hF hD => ?_
                  clear kc0 kc1 kc2 kc3 kc4 kzz0 kzz1 kd0 kd1 kd2 kd3
                  simp only [List.drop_succ_cons, List.drop_zero]
                  obtain ⟨_, _, he, ho⟩ := hF 11
                  cases he
                  obtain ⟨_, he, bg, hg⟩ := hF 12
                  cases he
                  refine wpList_store_box rfl _ _ rfl rfl rfl (by kernel_rfl) bg rfl rfl rfl rfl ?_
                  have hbn := below_row (below_then HB.out hwz) (Nat.le_trans HB.out.size hg) #[(.int .i64 kd), (.int .i64 ck), (.int .i64 cn), (.string cs), (.slice a11 m2.length k11)]
                  have bn := bx_row bg #[(.int .i64 kd), (.int .i64 ck), (.int .i64 cn), (.string cs), (.slice a11 m2.length k11)]
                  have hn := Rd.of_own (own_row ho bg rfl #[(.int .i64 kd), (.int .i64 ck), (.int .i64 cn), (.string cs), (.slice a11 m2.length k11)])
                  clear ho
                  have HBN := Lib.hid hbn
                  have BN := Lib.hid bn
                  have HN := Lib.hid hn
                  clear hn hbn bn bg hF hD c0 c1 c2 c3 c4 zz0 zz1 d0 d1 d2 d3
                  go_upto_region 4 with fail
                  replace B_c := Lib.hid (bx_later HBN.out B_c.out)
                  replace B_zz := Lib.hid (bx_later HBN.out B_zz.out)
                  replace B_d := Lib.hid (bx_later HBN.out B_d.out)
                  replace P := Lib.hid (P.out.later HBN.out)
                  replace KN := Lib.hid (KN.out.later HBN.out)
                  replace HB1 := Lib.hid (below_then HB1.out HBN.out)
                  clear HBN HB hwz hg
                  generalize wz.setRow g12 #[(.int .i64 kd), (.int .i64 ck), (.int .i64 cn), (.string cs), (.slice a11 m2.length k11)] = w2 at *
                  have HB := Lib.hid (Below.refl w2.heap.size w2)
                  have B_u := BN
                  clear BN
                  have P_u := HN
                  clear HN
                  have c0 := cell_of_box (bx_later HB.out B_c.out) 0 rfl
                  have c1 := cell_of_box (bx_later HB.out B_c.out) 1 rfl
                  have c2 := cell_of_box (bx_later HB.out B_c.out) 2 rfl
                  have c3 := cell_of_box (bx_later HB.out B_c.out) 3 rfl
                  have c4 := cell_of_box (bx_later HB.out B_c.out) 4 rfl
                  have zz0 := cell_of_box (bx_later HB.out B_zz.out) 0 rfl
                  have zz1 := cell_of_box (bx_later HB.out B_zz.out) 1 rfl
                  have d0 := cell_of_box (bx_later HB.out B_d.out) 0 rfl
                  have d1 := cell_of_box (bx_later HB.out B_d.out) 1 rfl
                  have d2 := cell_of_box (bx_later HB.out B_d.out) 2 rfl
                  have d3 := cell_of_box (bx_later HB.out B_d.out) 3 rfl
                  have u0 := cell_of_box (bx_later HB.out B_u.out) 0 rfl
                  have u1 := cell_of_box (bx_later HB.out B_u.out) 1 rfl
                  have u2 := cell_of_box (bx_later HB.out B_u.out) 2 rfl
                  have u3 := cell_of_box (bx_later HB.out B_u.out) 3 rfl
                  have u4 := cell_of_box (bx_later HB.out B_u.out) 4 rfl
                  refine wp_region_flow (by kernel_rfl) 13 [(6, ⟨fun v => ∃ a k, v = .agg #[.int .i64 kd, .int .i64 ck, .int .i64 cn, .string cs, .slice a m3.length k], fun v _ _ w' => ∃ a k, v = .agg #[.int .i64 kd, .int .i64 ck, .int .i64 cn, .string cs, .slice a m3.length k] ∧ OwnP w' w2.heap.size (.slice a m3.length k) m3⟩), (11, ⟨fun v => ∃ a k, v = .agg #[.int .i64 kd, .int .i64 ck, .int .i64 cn, .string cs, .slice a m4.length k], fun v _ _ w' => ∃ a k, v = .agg #[.int .i64 kd, .int .i64 ck, .int .i64 cn, .string cs, .slice a m4.length k] ∧ OwnP w' w2.heap.size (.slice a m4.length k) m4⟩), (12, ⟨fun v => ∃ g : Nat, v = .pointer (some ⟨g, 0, none⟩), fun v _ _ w' => ∃ g : Nat, v = .pointer (some ⟨g, 0, none⟩) ∧ Bx w' g #[.int .i64 0, .int .i64 0, .int .i64 0, .string ⟨#[]⟩, .slice none 0 0] 26 ∧ w2.heap.size ≤ g⟩)] (by kernel_rfl) ?_ ?_ ?_
                  · intro x hx
                    simp only [List.mem_cons, List.not_mem_nil, or_false] at hx
                    rcases hx with rfl | rfl | rfl
                    · exact ⟨_, none, 0, rfl⟩
                    · exact ⟨_, none, 0, rfl⟩
                    · exact ⟨_, 0, rfl⟩
                  · intro x hx v lo hi w w' h hb
                    simp only [List.mem_cons, List.not_mem_nil, or_false] at hx
                    rcases hx with rfl | rfl | rfl
                    · obtain ⟨a, k, rfl, ho⟩ := h
                      exact ⟨a, k, rfl, own_later ho hb⟩
                    · obtain ⟨a, k, rfl, ho⟩ := h
                      exact ⟨a, k, rfl, own_later ho hb⟩
                    · obtain ⟨g, rfl, h1, h2⟩ := h
                      exact ⟨g, rfl, bx_later hb h1, h2⟩
                  · intro lo hi
                    have kc0 := cell_regrown c0
                    have kc1 := cell_regrown c1
                    have kc2 := cell_regrown c2
                    have kc3 := cell_regrown c3
                    have kc4 := cell_regrown c4
                    have kzz0 := cell_regrown zz0
                    have kzz1 := cell_regrown zz1
                    have kd0 := cell_regrown d0
                    have kd1 := cell_regrown d1
                    have kd2 := cell_regrown d2
                    have kd3 := cell_regrown d3
                    have ku0 := cell_regrown u0
                    have ku1 := cell_regrown u1
                    have ku2 := cell_regrown u2
                    have ku3 := cell_regrown u3
                    have ku4 := cell_regrown u4
                    refine flowW_plain rfl ?_
                    go_big_quiet_step (fail)
                    refine wpQuiet_nil ?_
                    refine flowW_plain rfl ?_
                    go_big_quiet_step (fail)
                    refine wpQuiet_nil ?_
                    refine flowW_plain rfl ?_
                    go_big_quiet_step (fail)
                    refine wpQuiet_nil ?_
                    refine flowW_plain rfl ?_
                    go_big_quiet_step (fail)
                    refine wpQuiet_nil ?_
                    refine flowW_plain rfl ?_
                    go_big_quiet_step (fail)
                    refine wpQuiet_nil ?_
                    refine flowW_plain rfl ?_
                    go_big_quiet_step (fail)
                    refine wpQuiet_nil ?_
                    refine flowW_call rfl rfl ?_ ?_
                    · intro W hW hF K hK
                      clear kc0 kc1 kc2 kc3 kc4 kzz0 kzz1 kd0 kd1 kd2 kd3 ku0 ku1 ku2 ku3 ku4
                      go_wp2_with fail
                      refine (take_o knew (P.out.later (below_then HB.out hW)) (KN.out.later (below_then HB.out hW)) (by omega) M3.out).mono ?_
                      rintro e wq ⟨a, k, rfl, ho, hbq⟩
                      go_wp2_with fail
                      exact hK _ _ ⟨a, k, rfl⟩ ⟨a, k, rfl, own_monoP ho hW.size⟩ hbq
                    rintro v ⟨a6, k6, rfl⟩ K hK
                    go_simp
                    refine hK _ ?_
                    clear hK K
                    refine flowW_plain rfl ?_
                    go_big_quiet_step (fail)
                    refine wpQuiet_nil ?_
                    refine flowW_plain rfl ?_
                    go_big_quiet_step (fail)
                    refine wpQuiet_nil ?_
                    refine flowW_plain rfl ?_
                    go_big_quiet_step (fail)
                    refine wpQuiet_nil ?_
                    refine flowW_plain rfl ?_
                    go_big_quiet_step (fail)
                    refine wpQuiet_nil ?_
                    refine flowW_call rfl rfl ?_ ?_
                    · intro W hW hF K hK
                      clear kc0 kc1 kc2 kc3 kc4 kzz0 kzz1 kd0 kd1 kd2 kd3 ku0 ku1 ku2 ku3 ku4
                      obtain ⟨_, _, he6, h6⟩ := hF 6 rfl
                      cases he6
                      replace h6 := Rd.of_own h6
                      go_wp2_with fail
                      refine (put_o h6 (by omega) M4.out).mono ?_
                      rintro e wq ⟨a, k, rfl, ho, hbq⟩
                      go_wp2_with fail
                      exact hK _ _ ⟨a, k, rfl⟩ ⟨a, k, rfl, own_monoP ho hW.size⟩ hbq
                    rintro v ⟨a11, k11, rfl⟩ K hK
                    go_simp
                    refine hK _ ?_
                    clear hK K
                    refine flowW_call rfl rfl ?_ ?_
                    · intro W hW hF K hK
                      clear kc0 kc1 kc2 kc3 kc4 kzz0 kzz1 kd0 kd1 kd2 kd3 ku0 ku1 ku2 ku3 ku4
                      go_wp2_with fail
                      exact hK _ _ ⟨_, rfl⟩ ⟨_, rfl, bx_new rfl, hW.size⟩ (below_alloc _ _)
                    rintro v ⟨g12, rfl⟩ K hK
                    go_simp
                    refine hK _ ?_
                    clear hK K
                    refine flowW_end fun wz hwz hF hD => ?_
                    clear kc0 kc1 kc2 kc3 kc4 kzz0 kzz1 kd0 kd1 kd2 kd3 ku0 ku1 ku2 ku3 ku4
                    simp only [List.drop_succ_cons, List.drop_zero]
                    obtain ⟨_, _, he, ho⟩ := hF 11
                    cases he
                    obtain ⟨_, he, bg, hg⟩ := hF 12
                    cases he
                    refine wpList_store_box rfl _ _ rfl rfl rfl (by kernel_rfl) bg rfl rfl rfl rfl ?_
                    have hbn := below_row (below_then HB.out hwz) (Nat.le_trans HB.out.size hg) #[(.int .i64 kd), (.int .i64 ck), (.int .i64 cn), (.string cs), (.slice a11 m4.length k11)]
                    have bn := bx_row bg #[(.int .i64 kd), (.int .i64 ck), (.int .i64 cn), (.string cs), (.slice a11 m4.length k11)]
                    have hn := Rd.of_own (own_row ho bg rfl #[(.int .i64 kd), (.int .i64 ck), (.int .i64 cn), (.string cs), (.slice a11 m4.length k11)])
                    clear ho
                    have HBN := Lib.hid hbn
                    have BN := Lib.hid bn
                    have HN := Lib.hid hn
                    clear hn hbn bn bg hF hD c0 c1 c2 c3 c4 zz0 zz1 d0 d1 d2 d3 u0 u1 u2 u3 u4
                    go_upto_region 5 with fail
                    replace B_c := Lib.hid (bx_later HBN.out B_c.out)
                    replace B_zz := Lib.hid (bx_later HBN.out B_zz.out)
                    replace B_d := Lib.hid (bx_later HBN.out B_d.out)
                    replace B_u := Lib.hid (bx_later HBN.out B_u.out)
                    replace P := Lib.hid (P.out.later HBN.out)
                    replace KN := Lib.hid (KN.out.later HBN.out)
                    replace P_u := Lib.hid (P_u.out.later HBN.out)
                    replace HB1 := Lib.hid (below_then HB1.out HBN.out)
                    clear HBN HB hwz hg
                    generalize wz.setRow g12 #[(.int .i64 kd), (.int .i64 ck), (.int .i64 cn), (.string cs), (.slice a11 m4.length k11)] = w3 at *
                    have HB := Lib.hid (Below.refl w3.heap.size w3)
                    have B_t := BN
                    clear BN
                    have P_t := HN
                    clear HN
                    have c0 := cell_of_box (bx_later HB.out B_c.out) 0 rfl
                    have c1 := cell_of_box (bx_later HB.out B_c.out) 1 rfl
                    have c2 := cell_of_box (bx_later HB.out B_c.out) 2 rfl
                    have c3 := cell_of_box (bx_later HB.out B_c.out) 3 rfl
                    have c4 := cell_of_box (bx_later HB.out B_c.out) 4 rfl
                    have zz0 := cell_of_box (bx_later HB.out B_zz.out) 0 rfl
                    have zz1 := cell_of_box (bx_later HB.out B_zz.out) 1 rfl
                    have d0 := cell_of_box (bx_later HB.out B_d.out) 0 rfl
                    have d1 := cell_of_box (bx_later HB.out B_d.out) 1 rfl
                    have d2 := cell_of_box (bx_later HB.out B_d.out) 2 rfl
                    have d3 := cell_of_box (bx_later HB.out B_d.out) 3 rfl
                    have u0 := cell_of_box (bx_later HB.out B_u.out) 0 rfl
                    have u1 := cell_of_box (bx_later HB.out B_u.out) 1 rfl
                    have u2 := cell_of_box (bx_later HB.out B_u.out) 2 rfl
                    have u3 := cell_of_box (bx_later HB.out B_u.out) 3 rfl
                    have u4 := cell_of_box (bx_later HB.out B_u.out) 4 rfl
                    have t0 := cell_of_box (bx_later HB.out B_t.out) 0 rfl
                    have t1 := cell_of_box (bx_later HB.out B_t.out) 1 rfl
                    have t2 := cell_of_box (bx_later HB.out B_t.out) 2 rfl
                    have t3 := cell_of_box (bx_later HB.out B_t.out) 3 rfl
                    have t4 := cell_of_box (bx_later HB.out B_t.out) 4 rfl
                    go_wp2_with fail
                    refine (refHasV_b true HV.out (KN.out.later HB.out)).mono ?_
                    rintro e wn ⟨rfl, hb⟩
                    replace HB := Lib.hid (below_then HB.out (by first | exact hb | exact below_alloc_then hb | exact below_alloc_then (below_alloc_then hb)))
                    clear hb c0 c1 c2 c3 c4 zz0 zz1 d0 d1 d2 d3 u0 u1 u2 u3 u4 t0 t1 t2 t3 t4
                    have c0 := cell_of_box (bx_later HB.out B_c.out) 0 rfl
                    have c1 := cell_of_box (bx_later HB.out B_c.out) 1 rfl
                    have c2 := cell_of_box (bx_later HB.out B_c.out) 2 rfl
                    have c3 := cell_of_box (bx_later HB.out B_c.out) 3 rfl
                    have c4 := cell_of_box (bx_later HB.out B_c.out) 4 rfl
                    have zz0 := cell_of_box (bx_later HB.out B_zz.out) 0 rfl
                    have zz1 := cell_of_box (bx_later HB.out B_zz.out) 1 rfl
                    have d0 := cell_of_box (bx_later HB.out B_d.out) 0 rfl
                    have d1 := cell_of_box (bx_later HB.out B_d.out) 1 rfl
                    have d2 := cell_of_box (bx_later HB.out B_d.out) 2 rfl
                    have d3 := cell_of_box (bx_later HB.out B_d.out) 3 rfl
                    have u0 := cell_of_box (bx_later HB.out B_u.out) 0 rfl
                    have u1 := cell_of_box (bx_later HB.out B_u.out) 1 rfl
                    have u2 := cell_of_box (bx_later HB.out B_u.out) 2 rfl
                    have u3 := cell_of_box (bx_later HB.out B_u.out) 3 rfl
                    have u4 := cell_of_box (bx_later HB.out B_u.out) 4 rfl
                    have t0 := cell_of_box (bx_later HB.out B_t.out) 0 rfl
                    have t1 := cell_of_box (bx_later HB.out B_t.out) 1 rfl
                    have t2 := cell_of_box (bx_later HB.out B_t.out) 2 rfl
                    have t3 := cell_of_box (bx_later HB.out B_t.out) 3 rfl
                    have t4 := cell_of_box (bx_later HB.out B_t.out) 4 rfl
                    go_upto_region 6 with fail
                    refine wp_region_flow (by kernel_rfl) 13 [(0, ⟨fun v => v = .bool true, fun _ _ _ _ => True⟩), (5, ⟨fun v => ∃ a k, v = .slice a m5.length k, fun v _ _ w' => ∃ a k, v = .slice a m5.length k ∧ PRd w' (.slice a m5.length k) m5⟩), (9, ⟨fun v => v = .bool false, fun _ _ _ _ => True⟩)] (by kernel_rfl) ?_ ?_ ?_
                    · intro x hx
                      simp only [List.mem_cons, List.not_mem_nil, or_false] at hx
                      rcases hx with rfl | rfl | rfl
                      · exact ⟨_, rfl⟩
                      · exact ⟨_, none, 0, rfl⟩
                      · exact ⟨_, rfl⟩
                    · intro x hx v lo hi w w' h hb
                      simp only [List.mem_cons, List.not_mem_nil, or_false] at hx
                      rcases hx with rfl | rfl | rfl
                      · exact trivial
                      · obtain ⟨a, k, rfl, h1⟩ := h
                        exact ⟨a, k, rfl, h1.later hb⟩
                      · exact trivial
                    · intro lo hi
                      have kc0 := cell_regrown c0
                      have kc1 := cell_regrown c1
                      have kc2 := cell_regrown c2
                      have kc3 := cell_regrown c3
                      have kc4 := cell_regrown c4
                      have kzz0 := cell_regrown zz0
                      have kzz1 := cell_regrown zz1
                      have kd0 := cell_regrown d0
                      have kd1 := cell_regrown d1
                      have kd2 := cell_regrown d2
                      have kd3 := cell_regrown d3
                      have ku0 := cell_regrown u0
                      have ku1 := cell_regrown u1
                      have ku2 := cell_regrown u2
                      have ku3 := cell_regrown u3
                      have ku4 := cell_regrown u4
                      have kt0 := cell_regrown t0
                      have kt1 := cell_regrown t1
                      have kt2 := cell_regrown t2
                      have kt3 := cell_regrown t3
                      have kt4 := cell_regrown t4
                      refine flowW_call rfl rfl ?_ ?_
                      · intro W hW hF K hK
                        clear kc0 kc1 kc2 kc3 kc4 kzz0 kzz1 kd0 kd1 kd2 kd3 ku0 ku1 ku2 ku3 ku4 kt0 kt1 kt2 kt3 kt4
                        go_wp2_with fail
                        refine (alive_any _).mono ?_
                        rintro e wq ⟨rfl, hbq⟩
                        go_wp2_with fail
                        exact hK _ _ rfl trivial hbq
                      rintro v rfl K hK
                      go_simp
                      refine hK _ ?_
                      clear hK K
                      refine flowW_plain rfl ?_
                      go_big_quiet_step (fail)
                      refine wpQuiet_nil ?_
                      refine flowW_plain rfl ?_
                      go_big_quiet_step (fail)
                      refine wpQuiet_nil ?_
                      refine flowW_plain rfl ?_
                      go_big_quiet_step (fail)
                      refine wpQuiet_nil ?_
                      refine flowW_plain rfl ?_
                      go_big_quiet_step (fail)
                      refine wpQuiet_nil ?_
                      refine flowW_call rfl rfl ?_ ?_
                      · intro W hW hF K hK
                        clear kc0 kc1 kc2 kc3 kc4 kzz0 kzz1 kd0 kd1 kd2 kd3 ku0 ku1 ku2 ku3 ku4 kt0 kt1 kt2 kt3 kt4
                        go_wp2_with fail
                        refine (at_any (P_u.out.later (below_then HB.out hW)) (by omega) M5.out).mono ?_
                        rintro e wq ⟨a, k, rfl, ho, hbq⟩
                        go_wp2_with fail
                        exact hK _ _ ⟨a, k, rfl⟩ ⟨a, k, rfl, ho⟩ hbq
                      rintro v ⟨a5, k5, rfl⟩ K hK
                      go_simp
                      refine hK _ ?_
                      clear hK K
                      refine flowW_plain rfl ?_
                      go_big_quiet_step (fail)
                      refine wpQuiet_nil ?_
                      refine flowW_plain rfl ?_
                      go_big_quiet_step (fail)
                      refine wpQuiet_nil ?_
                      refine flowW_plain rfl ?_
                      go_big_quiet_step (fail)
                      refine wpQuiet_nil ?_
                      refine flowW_call rfl rfl ?_ ?_
                      · intro W hW hF K hK
                        clear kc0 kc1 kc2 kc3 kc4 kzz0 kzz1 kd0 kd1 kd2 kd3 ku0 ku1 ku2 ku3 ku4 kt0 kt1 kt2 kt3 kt4
                        obtain ⟨_, _, he5, h5⟩ := hF 5 rfl
                        cases he5
                        go_wp2_with fail
                        refine (refHasP_b false HP5.out h5 (by omega)).mono ?_
                        rintro e wq ⟨rfl, hbq⟩
                        go_wp2_with fail
                        exact hK _ _ rfl trivial hbq
                      rintro v rfl K hK
                      go_simp
                      refine hK _ ?_
                      clear hK K
                      refine flowW_plain rfl ?_
                      go_big_quiet_step (fail)
                      refine wpQuiet_nil ?_
                      refine flowW_plain rfl ?_
                      go_big_quiet_step (fail)
                      refine wpQuiet_nil ?_
                      refine flowW_plain rfl ?_
                      go_big_quiet_step (fail)
                      refine wpQuiet_nil ?_
                      refine flowW_end fun wz hwz hF hD => ?_
                      clear kc0 kc1 kc2 kc3 kc4 kzz0 kzz1 kd0 kd1 kd2 kd3 ku0 ku1 ku2 ku3 ku4 kt0 kt1 kt2 kt3 kt4
                      simp only [List.drop_succ_cons, List.drop_zero]
                      replace HB := Lib.hid (below_then HB.out hwz)
                      clear hwz hF hD c0 c1 c2 c3 c4 zz0 zz1 d0 d1 d2 d3 u0 u1 u2 u3 u4 t0 t1 t2 t3 t4
                      have c0 := cell_of_box (bx_later HB.out B_c.out) 0 rfl
                      have c1 := cell_of_box (bx_later HB.out B_c.out) 1 rfl
                      have c2 := cell_of_box (bx_later HB.out B_c.out) 2 rfl
                      have c3 := cell_of_box (bx_later HB.out B_c.out) 3 rfl
                      have c4 := cell_of_box (bx_later HB.out B_c.out) 4 rfl
                      have zz0 := cell_of_box (bx_later HB.out B_zz.out) 0 rfl
                      have zz1 := cell_of_box (bx_later HB.out B_zz.out) 1 rfl
                      have d0 := cell_of_box (bx_later HB.out B_d.out) 0 rfl
                      have d1 := cell_of_box (bx_later HB.out B_d.out) 1 rfl
                      have d2 := cell_of_box (bx_later HB.out B_d.out) 2 rfl
                      have d3 := cell_of_box (bx_later HB.out B_d.out) 3 rfl
                      have u0 := cell_of_box (bx_later HB.out B_u.out) 0 rfl
                      have u1 := cell_of_box (bx_later HB.out B_u.out) 1 rfl
                      have u2 := cell_of_box (bx_later HB.out B_u.out) 2 rfl
                      have u3 := cell_of_box (bx_later HB.out B_u.out) 3 rfl
                      have u4 := cell_of_box (bx_later HB.out B_u.out) 4 rfl
                      have t0 := cell_of_box (bx_later HB.out B_t.out) 0 rfl
                      have t1 := cell_of_box (bx_later HB.out B_t.out) 1 rfl
                      have t2 := cell_of_box (bx_later HB.out B_t.out) 2 rfl
                      have t3 := cell_of_box (bx_later HB.out B_t.out) 3 rfl
                      have t4 := cell_of_box (bx_later HB.out B_t.out) 4 rfl
                      go_wp2_with fail
                      go_ret
                      exact ⟨by first | rfl | exact ret_bool (by simp), below_then HB1.out HB.out⟩
            · have hzb : (z0 == z1) = false := by simpa using hz
              have hsp : stayQ z1 ⟨ed, eq⟩ knew (numP z0 ⟨dd, dq⟩) = true := stay_put NE.out (.inl hz)
              have htp := take_put RISE.out hsp
              have hhn := has_take_put (l := l) hsp
              rw [show addQ l z0 ⟨dd, dq⟩ = m1 from M1.out, show takeQ m1 z1 ⟨ed, eq⟩ knew = m2 from M2.out] at htp hhn
              rw [show takeQ l z1 ⟨ed, eq⟩ knew = m3 from M3.out, show addQ m3 z0 ⟨dd, dq⟩ = m4 from M4.out] at htp
              have ME := Lib.hid htp
              have HN := Lib.hid hhn
              clear hsp htp hhn
              clear hz
              go_enter Try.func6, Try.ntmps6
              go_wp2_with fail
              rw [HW.out]
              go_wp2_with fail
              refine (few_b true F0.out (P.out.later HB.out)).mono ?_
              rintro e wn ⟨rfl, hb⟩
              replace HB := Lib.hid (below_then HB.out (by first | exact hb | exact below_alloc_then hb | exact below_alloc_then (below_alloc_then hb)))
              clear hb c0 c1 c2 c3 c4 zz0 zz1 d0 d1 d2 d3
              have c0 := cell_of_box (bx_later HB.out B_c.out) 0 rfl
              have c1 := cell_of_box (bx_later HB.out B_c.out) 1 rfl
              have c2 := cell_of_box (bx_later HB.out B_c.out) 2 rfl
              have c3 := cell_of_box (bx_later HB.out B_c.out) 3 rfl
              have c4 := cell_of_box (bx_later HB.out B_c.out) 4 rfl
              have zz0 := cell_of_box (bx_later HB.out B_zz.out) 0 rfl
              have zz1 := cell_of_box (bx_later HB.out B_zz.out) 1 rfl
              have d0 := cell_of_box (bx_later HB.out B_d.out) 0 rfl
              have d1 := cell_of_box (bx_later HB.out B_d.out) 1 rfl
              have d2 := cell_of_box (bx_later HB.out B_d.out) 2 rfl
              have d3 := cell_of_box (bx_later HB.out B_d.out) 3 rfl
              go_wp2_with fail
              refine (right_b true F2.out (P.out.later HB.out) (by omega)).mono ?_
              rintro e wn ⟨rfl, hb⟩
              replace HB := Lib.hid (below_then HB.out (by first | exact hb | exact below_alloc_then hb | exact below_alloc_then (below_alloc_then hb)))
              clear hb c0 c1 c2 c3 c4 zz0 zz1 d0 d1 d2 d3
              have c0 := cell_of_box (bx_later HB.out B_c.out) 0 rfl
              have c1 := cell_of_box (bx_later HB.out B_c.out) 1 rfl
              have c2 := cell_of_box (bx_later HB.out B_c.out) 2 rfl
              have c3 := cell_of_box (bx_later HB.out B_c.out) 3 rfl
              have c4 := cell_of_box (bx_later HB.out B_c.out) 4 rfl
              have zz0 := cell_of_box (bx_later HB.out B_zz.out) 0 rfl
              have zz1 := cell_of_box (bx_later HB.out B_zz.out) 1 rfl
              have d0 := cell_of_box (bx_later HB.out B_d.out) 0 rfl
              have d1 := cell_of_box (bx_later HB.out B_d.out) 1 rfl
              have d2 := cell_of_box (bx_later HB.out B_d.out) 2 rfl
              have d3 := cell_of_box (bx_later HB.out B_d.out) 3 rfl
              go_upto_region 3 with fail
              refine wp_region_flow (by kernel_rfl) 13 [(5, ⟨fun v => ∃ a k, v = .agg #[.int .i64 kd, .int .i64 ck, .int .i64 cn, .string cs, .slice a m1.length k], fun v _ _ w' => ∃ a k, v = .agg #[.int .i64 kd, .int .i64 ck, .int .i64 cn, .string cs, .slice a m1.length k] ∧ OwnP w' wn.heap.size (.slice a m1.length k) m1⟩), (11, ⟨fun v => ∃ a k, v = .agg #[.int .i64 kd, .int .i64 ck, .int .i64 cn, .string cs, .slice a m2.length k], fun v _ _ w' => ∃ a k, v = .agg #[.int .i64 kd, .int .i64 ck, .int .i64 cn, .string cs, .slice a m2.length k] ∧ OwnP w' wn.heap.size (.slice a m2.length k) m2⟩), (12, ⟨fun v => ∃ g : Nat, v = .pointer (some ⟨g, 0, none⟩), fun v _ _ w' => ∃ g : Nat, v = .pointer (some ⟨g, 0, none⟩) ∧ Bx w' g #[.int .i64 0, .int .i64 0, .int .i64 0, .string ⟨#[]⟩, .slice none 0 0] 26 ∧ wn.heap.size ≤ g⟩)] (by kernel_rfl) ?_ ?_ ?_
              · intro x hx
                simp only [List.mem_cons, List.not_mem_nil, or_false] at hx
                rcases hx with rfl | rfl | rfl
                · exact ⟨_, none, 0, rfl⟩
                · exact ⟨_, none, 0, rfl⟩
                · exact ⟨_, 0, rfl⟩
              · intro x hx v lo hi w w' h hb
                simp only [List.mem_cons, List.not_mem_nil, or_false] at hx
                rcases hx with rfl | rfl | rfl
                · obtain ⟨a, k, rfl, ho⟩ := h
                  exact ⟨a, k, rfl, own_later ho hb⟩
                · obtain ⟨a, k, rfl, ho⟩ := h
                  exact ⟨a, k, rfl, own_later ho hb⟩
                · obtain ⟨g, rfl, h1, h2⟩ := h
                  exact ⟨g, rfl, bx_later hb h1, h2⟩
              · intro lo hi
                have kc0 := cell_regrown c0
                have kc1 := cell_regrown c1
                have kc2 := cell_regrown c2
                have kc3 := cell_regrown c3
                have kc4 := cell_regrown c4
                have kzz0 := cell_regrown zz0
                have kzz1 := cell_regrown zz1
                have kd0 := cell_regrown d0
                have kd1 := cell_regrown d1
                have kd2 := cell_regrown d2
                have kd3 := cell_regrown d3
                refine flowW_plain rfl ?_
                go_big_quiet_step (fail)
                refine wpQuiet_nil ?_
                refine flowW_plain rfl ?_
                go_big_quiet_step (fail)
                refine wpQuiet_nil ?_
                refine flowW_plain rfl ?_
                go_big_quiet_step (fail)
                refine wpQuiet_nil ?_
                refine flowW_plain rfl ?_
                go_big_quiet_step (fail)
                refine wpQuiet_nil ?_
                refine flowW_plain rfl ?_
                go_big_quiet_step (fail)
                refine wpQuiet_nil ?_
                refine flowW_call rfl rfl ?_ ?_
                · intro W hW hF K hK
                  clear kc0 kc1 kc2 kc3 kc4 kzz0 kzz1 kd0 kd1 kd2 kd3
                  go_wp2_with fail
                  refine (put_o (P.out.later (below_then HB.out hW)) (by omega) M1.out).mono ?_
                  rintro e wq ⟨a, k, rfl, ho, hbq⟩
                  go_wp2_with fail
                  exact hK _ _ ⟨a, k, rfl⟩ ⟨a, k, rfl, own_monoP ho hW.size⟩ hbq
                rintro v ⟨a5, k5, rfl⟩ K hK
                go_simp
                refine hK _ ?_
                clear hK K
                refine flowW_plain rfl ?_
                go_big_quiet_step (fail)
                refine wpQuiet_nil ?_
                refine flowW_plain rfl ?_
                go_big_quiet_step (fail)
                refine wpQuiet_nil ?_
                refine flowW_plain rfl ?_
                go_big_quiet_step (fail)
                refine wpQuiet_nil ?_
                refine flowW_plain rfl ?_
                go_big_quiet_step (fail)
                refine wpQuiet_nil ?_
                refine flowW_plain rfl ?_
                go_big_quiet_step (fail)
                refine wpQuiet_nil ?_
                refine flowW_call rfl rfl ?_ ?_
                · intro W hW hF K hK
                  clear kc0 kc1 kc2 kc3 kc4 kzz0 kzz1 kd0 kd1 kd2 kd3
                  obtain ⟨_, _, he5, h5⟩ := hF 5 rfl
                  cases he5
                  replace h5 := Rd.of_own h5
                  go_wp2_with fail
                  refine (take_o knew h5 (KN.out.later (below_then HB.out hW)) (by omega) M2.out).mono ?_
                  rintro e wq ⟨a, k, rfl, ho, hbq⟩
                  go_wp2_with fail
                  exact hK _ _ ⟨a, k, rfl⟩ ⟨a, k, rfl, own_monoP ho hW.size⟩ hbq
                rintro v ⟨a11, k11, rfl⟩ K hK
                go_simp
                refine hK _ ?_
                clear hK K
                refine flowW_call rfl rfl ?_ ?_
                · intro W hW hF K hK
                  clear kc0 kc1 kc2 kc3 kc4 kzz0 kzz1 kd0 kd1 kd2 kd3
                  go_wp2_with fail
                  exact hK _ _ ⟨_, rfl⟩ ⟨_, rfl, bx_new rfl, hW.size⟩ (below_alloc _ _)
                rintro v ⟨g12, rfl⟩ K hK
                go_simp
                refine hK _ ?_
                clear hK K
                refine flowW_end fun wz hwz hF hD => ?_
                clear kc0 kc1 kc2 kc3 kc4 kzz0 kzz1 kd0 kd1 kd2 kd3
                simp only [List.drop_succ_cons, List.drop_zero]
                obtain ⟨_, _, he, ho⟩ := hF 11
                cases he
                obtain ⟨_, he, bg, hg⟩ := hF 12
                cases he
                refine wpList_store_box rfl _ _ rfl rfl rfl (by kernel_rfl) bg rfl rfl rfl rfl ?_
                have hbn := below_row (below_then HB.out hwz) (Nat.le_trans HB.out.size hg) #[(.int .i64 kd), (.int .i64 ck), (.int .i64 cn), (.string cs), (.slice a11 m2.length k11)]
                have bn := bx_row bg #[(.int .i64 kd), (.int .i64 ck), (.int .i64 cn), (.string cs), (.slice a11 m2.length k11)]
                have hn := Rd.of_own (own_row ho bg rfl #[(.int .i64 kd), (.int .i64 ck), (.int .i64 cn), (.string cs), (.slice a11 m2.length k11)])
                clear ho
                have HBN := Lib.hid hbn
                have BN := Lib.hid bn
                have HN := Lib.hid hn
                clear hn hbn bn bg hF hD c0 c1 c2 c3 c4 zz0 zz1 d0 d1 d2 d3
                go_upto_region 4 with fail
                replace B_c := Lib.hid (bx_later HBN.out B_c.out)
                replace B_zz := Lib.hid (bx_later HBN.out B_zz.out)
                replace B_d := Lib.hid (bx_later HBN.out B_d.out)
                replace P := Lib.hid (P.out.later HBN.out)
                replace KN := Lib.hid (KN.out.later HBN.out)
                replace HB1 := Lib.hid (below_then HB1.out HBN.out)
                clear HBN HB hwz hg
                generalize wz.setRow g12 #[(.int .i64 kd), (.int .i64 ck), (.int .i64 cn), (.string cs), (.slice a11 m2.length k11)] = w2 at *
                have HB := Lib.hid (Below.refl w2.heap.size w2)
                have B_u := BN
                clear BN
                have P_u := HN
                clear HN
                have c0 := cell_of_box (bx_later HB.out B_c.out) 0 rfl
                have c1 := cell_of_box (bx_later HB.out B_c.out) 1 rfl
                have c2 := cell_of_box (bx_later HB.out B_c.out) 2 rfl
                have c3 := cell_of_box (bx_later HB.out B_c.out) 3 rfl
                have c4 := cell_of_box (bx_later HB.out B_c.out) 4 rfl
                have zz0 := cell_of_box (bx_later HB.out B_zz.out) 0 rfl
                have zz1 := cell_of_box (bx_later HB.out B_zz.out) 1 rfl
                have d0 := cell_of_box (bx_later HB.out B_d.out) 0 rfl
                have d1 := cell_of_box (bx_later HB.out B_d.out) 1 rfl
                have d2 := cell_of_box (bx_later HB.out B_d.out) 2 rfl
                have d3 := cell_of_box (bx_later HB.out B_d.out) 3 rfl
                have u0 := cell_of_box (bx_later HB.out B_u.out) 0 rfl
                have u1 := cell_of_box (bx_later HB.out B_u.out) 1 rfl
                have u2 := cell_of_box (bx_later HB.out B_u.out) 2 rfl
                have u3 := cell_of_box (bx_later HB.out B_u.out) 3 rfl
                have u4 := cell_of_box (bx_later HB.out B_u.out) 4 rfl
                refine wp_region_flow (by kernel_rfl) 13 [(6, ⟨fun v => ∃ a k, v = .agg #[.int .i64 kd, .int .i64 ck, .int .i64 cn, .string cs, .slice a m3.length k], fun v _ _ w' => ∃ a k, v = .agg #[.int .i64 kd, .int .i64 ck, .int .i64 cn, .string cs, .slice a m3.length k] ∧ OwnP w' w2.heap.size (.slice a m3.length k) m3⟩), (11, ⟨fun v => ∃ a k, v = .agg #[.int .i64 kd, .int .i64 ck, .int .i64 cn, .string cs, .slice a m4.length k], fun v _ _ w' => ∃ a k, v = .agg #[.int .i64 kd, .int .i64 ck, .int .i64 cn, .string cs, .slice a m4.length k] ∧ OwnP w' w2.heap.size (.slice a m4.length k) m4⟩), (12, ⟨fun v => ∃ g : Nat, v = .pointer (some ⟨g, 0, none⟩), fun v _ _ w' => ∃ g : Nat, v = .pointer (some ⟨g, 0, none⟩) ∧ Bx w' g #[.int .i64 0, .int .i64 0, .int .i64 0, .string ⟨#[]⟩, .slice none 0 0] 26 ∧ w2.heap.size ≤ g⟩)] (by kernel_rfl) ?_ ?_ ?_
                · intro x hx
                  simp only [List.mem_cons, List.not_mem_nil, or_false] at hx
                  rcases hx with rfl | rfl | rfl
                  · exact ⟨_, none, 0, rfl⟩
                  · exact ⟨_, none, 0, rfl⟩
                  · exact ⟨_, 0, rfl⟩
                · intro x hx v lo hi w w' h hb
                  simp only [List.mem_cons, List.not_mem_nil, or_false] at hx
                  rcases hx with rfl | rfl | rfl
                  · obtain ⟨a, k, rfl, ho⟩ := h
                    exact ⟨a, k, rfl, own_later ho hb⟩
                  · obtain ⟨a, k, rfl, ho⟩ := h
                    exact ⟨a, k, rfl, own_later ho hb⟩
                  · obtain ⟨g, rfl, h1, h2⟩ := h
                    exact ⟨g, rfl, bx_later hb h1, h2⟩
                · intro lo hi
                  have kc0 := cell_regrown c0
                  have kc1 := cell_regrown c1
                  have kc2 := cell_regrown c2
                  have kc3 := cell_regrown c3
                  have kc4 := cell_regrown c4
                  have kzz0 := cell_regrown zz0
                  have kzz1 := cell_regrown zz1
                  have kd0 := cell_regrown d0
                  have kd1 := cell_regrown d1
                  have kd2 := cell_regrown d2
                  have kd3 := cell_regrown d3
                  have ku0 := cell_regrown u0
                  have ku1 := cell_regrown u1
                  have ku2 := cell_regrown u2
                  have ku3 := cell_regrown u3
                  have ku4 := cell_regrown u4
                  refine flowW_plain rfl ?_
                  go_big_quiet_step (fail)
                  refine wpQuiet_nil ?_
                  refine flowW_plain rfl ?_
                  go_big_quiet_step (fail)
                  refine wpQuiet_nil ?_
                  refine flowW_plain rfl ?_
                  go_big_quiet_step (fail)
                  refine wpQuiet_nil ?_
                  refine flowW_plain rfl ?_
                  go_big_quiet_step (fail)
                  refine wpQuiet_nil ?_
                  refine flowW_plain rfl ?_
                  go_big_quiet_step (fail)
                  refine wpQuiet_nil ?_
                  refine flowW_plain rfl ?_
                  go_big_quiet_step (fail)
                  refine wpQuiet_nil ?_
                  refine flowW_call rfl rfl ?_ ?_
                  · intro W hW hF K hK
                    clear kc0 kc1 kc2 kc3 kc4 kzz0 kzz1 kd0 kd1 kd2 kd3 ku0 ku1 ku2 ku3 ku4
                    go_wp2_with fail
                    refine (take_o knew (P.out.later (below_then HB.out hW)) (KN.out.later (below_then HB.out hW)) (by omega) M3.out).mono ?_
                    rintro e wq ⟨a, k, rfl, ho, hbq⟩
                    go_wp2_with fail
                    exact hK _ _ ⟨a, k, rfl⟩ ⟨a, k, rfl, own_monoP ho hW.size⟩ hbq
                  rintro v ⟨a6, k6, rfl⟩ K hK
                  go_simp
                  refine hK _ ?_
                  clear hK K
                  refine flowW_plain rfl ?_
                  go_big_quiet_step (fail)
                  refine wpQuiet_nil ?_
                  refine flowW_plain rfl ?_
                  go_big_quiet_step (fail)
                  refine wpQuiet_nil ?_
                  refine flowW_plain rfl ?_
                  go_big_quiet_step (fail)
                  refine wpQuiet_nil ?_
                  refine flowW_plain rfl ?_
                  go_big_quiet_step (fail)
                  refine wpQuiet_nil ?_
                  refine flowW_call rfl rfl ?_ ?_
                  · intro W hW hF K hK
                    clear kc0 kc1 kc2 kc3 kc4 kzz0 kzz1 kd0 kd1 kd2 kd3 ku0 ku1 ku2 ku3 ku4
                    obtain ⟨_, _, he6, h6⟩ := hF 6 rfl
                    cases he6
                    replace h6 := Rd.of_own h6
                    go_wp2_with fail
                    refine (put_o h6 (by omega) M4.out).mono ?_
                    rintro e wq ⟨a, k, rfl, ho, hbq⟩
                    go_wp2_with fail
                    exact hK _ _ ⟨a, k, rfl⟩ ⟨a, k, rfl, own_monoP ho hW.size⟩ hbq
                  rintro v ⟨a11, k11, rfl⟩ K hK
                  go_simp
                  refine hK _ ?_
                  clear hK K
                  refine flowW_call rfl rfl ?_ ?_
                  · intro W hW hF K hK
                    clear kc0 kc1 kc2 kc3 kc4 kzz0 kzz1 kd0 kd1 kd2 kd3 ku0 ku1 ku2 ku3 ku4
                    go_wp2_with fail
                    exact hK _ _ ⟨_, rfl⟩ ⟨_, rfl, bx_new rfl, hW.size⟩ (below_alloc _ _)
                  rintro v ⟨g12, rfl⟩ K hK
                  go_simp
                  refine hK _ ?_
                  clear hK K
                  refine flowW_end fun wz hwz hF hD => ?_
                  clear kc0 kc1 kc2 kc3 kc4 kzz0 kzz1 kd0 kd1 kd2 kd3 ku0 ku1 ku2 ku3 ku4
                  simp only [List.drop_succ_cons, List.drop_zero]
                  obtain ⟨_, _, he, ho⟩ := hF 11
                  cases he
                  obtain ⟨_, he, bg, hg⟩ := hF 12
                  cases he
                  refine wpList_store_box rfl _ _ rfl rfl rfl (by kernel_rfl) bg rfl rfl rfl rfl ?_
                  have hbn := below_row (below_then HB.out hwz) (Nat.le_trans HB.out.size hg) #[(.int .i64 kd), (.int .i64 ck), (.int .i64 cn), (.string cs), (.slice a11 m4.length k11)]
                  have bn := bx_row bg #[(.int .i64 kd), (.int .i64 ck), (.int .i64 cn), (.string cs), (.slice a11 m4.length k11)]
                  have hn := Rd.of_own (own_row ho bg rfl #[(.int .i64 kd), (.int .i64 ck), (.int .i64 cn), (.string cs), (.slice a11 m4.length k11)])
                  clear ho
                  have HBN := Lib.hid hbn
                  have BN := Lib.hid bn
                  have HN := Lib.hid hn
                  clear hn hbn bn bg hF hD c0 c1 c2 c3 c4 zz0 zz1 d0 d1 d2 d3 u0 u1 u2 u3 u4
                  go_upto_region 5 with fail
                  replace B_c := Lib.hid (bx_later HBN.out B_c.out)
                  replace B_zz := Lib.hid (bx_later HBN.out B_zz.out)
                  replace B_d := Lib.hid (bx_later HBN.out B_d.out)
                  replace B_u := Lib.hid (bx_later HBN.out B_u.out)
                  replace P := Lib.hid (P.out.later HBN.out)
                  replace KN := Lib.hid (KN.out.later HBN.out)
                  replace P_u := Lib.hid (P_u.out.later HBN.out)
                  replace HB1 := Lib.hid (below_then HB1.out HBN.out)
                  clear HBN HB hwz hg
                  generalize wz.setRow g12 #[(.int .i64 kd), (.int .i64 ck), (.int .i64 cn), (.string cs), (.slice a11 m4.length k11)] = w3 at *
                  have HB := Lib.hid (Below.refl w3.heap.size w3)
                  have B_t := BN
                  clear BN
                  have P_t := HN
                  clear HN
                  have c0 := cell_of_box (bx_later HB.out B_c.out) 0 rfl
                  have c1 := cell_of_box (bx_later HB.out B_c.out) 1 rfl
                  have c2 := cell_of_box (bx_later HB.out B_c.out) 2 rfl
                  have c3 := cell_of_box (bx_later HB.out B_c.out) 3 rfl
                  have c4 := cell_of_box (bx_later HB.out B_c.out) 4 rfl
                  have zz0 := cell_of_box (bx_later HB.out B_zz.out) 0 rfl
                  have zz1 := cell_of_box (bx_later HB.out B_zz.out) 1 rfl
                  have d0 := cell_of_box (bx_later HB.out B_d.out) 0 rfl
                  have d1 := cell_of_box (bx_later HB.out B_d.out) 1 rfl
                  have d2 := cell_of_box (bx_later HB.out B_d.out) 2 rfl
                  have d3 := cell_of_box (bx_later HB.out B_d.out) 3 rfl
                  have u0 := cell_of_box (bx_later HB.out B_u.out) 0 rfl
                  have u1 := cell_of_box (bx_later HB.out B_u.out) 1 rfl
                  have u2 := cell_of_box (bx_later HB.out B_u.out) 2 rfl
                  have u3 := cell_of_box (bx_later HB.out B_u.out) 3 rfl
                  have u4 := cell_of_box (bx_later HB.out B_u.out) 4 rfl
                  have t0 := cell_of_box (bx_later HB.out B_t.out) 0 rfl
                  have t1 := cell_of_box (bx_later HB.out B_t.out) 1 rfl
                  have t2 := cell_of_box (bx_later HB.out B_t.out) 2 rfl
                  have t3 := cell_of_box (bx_later HB.out B_t.out) 3 rfl
                  have t4 := cell_of_box (bx_later HB.out B_t.out) 4 rfl
                  go_wp2_with fail
                  refine (alive_any _).mono ?_
                  rintro e wn ⟨rfl, hb⟩
                  replace HB := Lib.hid (below_then HB.out (by first | exact hb | exact below_alloc_then hb | exact below_alloc_then (below_alloc_then hb)))
                  clear hb c0 c1 c2 c3 c4 zz0 zz1 d0 d1 d2 d3 u0 u1 u2 u3 u4 t0 t1 t2 t3 t4
                  have c0 := cell_of_box (bx_later HB.out B_c.out) 0 rfl
                  have c1 := cell_of_box (bx_later HB.out B_c.out) 1 rfl
                  have c2 := cell_of_box (bx_later HB.out B_c.out) 2 rfl
                  have c3 := cell_of_box (bx_later HB.out B_c.out) 3 rfl
                  have c4 := cell_of_box (bx_later HB.out B_c.out) 4 rfl
                  have zz0 := cell_of_box (bx_later HB.out B_zz.out) 0 rfl
                  have zz1 := cell_of_box (bx_later HB.out B_zz.out) 1 rfl
                  have d0 := cell_of_box (bx_later HB.out B_d.out) 0 rfl
                  have d1 := cell_of_box (bx_later HB.out B_d.out) 1 rfl
                  have d2 := cell_of_box (bx_later HB.out B_d.out) 2 rfl
                  have d3 := cell_of_box (bx_later HB.out B_d.out) 3 rfl
                  have u0 := cell_of_box (bx_later HB.out B_u.out) 0 rfl
                  have u1 := cell_of_box (bx_later HB.out B_u.out) 1 rfl
                  have u2 := cell_of_box (bx_later HB.out B_u.out) 2 rfl
                  have u3 := cell_of_box (bx_later HB.out B_u.out) 3 rfl
                  have u4 := cell_of_box (bx_later HB.out B_u.out) 4 rfl
                  have t0 := cell_of_box (bx_later HB.out B_t.out) 0 rfl
                  have t1 := cell_of_box (bx_later HB.out B_t.out) 1 rfl
                  have t2 := cell_of_box (bx_later HB.out B_t.out) 2 rfl
                  have t3 := cell_of_box (bx_later HB.out B_t.out) 3 rfl
                  have t4 := cell_of_box (bx_later HB.out B_t.out) 4 rfl
                  go_wp2_with fail
                  refine (same_p m2 (P_u.out.later HB.out) (by rw [ME.out]; exact P_t.out.later HB.out) (by omega)).mono ?_
                  rintro e wn ⟨rfl, hb⟩
                  replace HB := Lib.hid (below_then HB.out (by first | exact hb | exact below_alloc_then hb | exact below_alloc_then (below_alloc_then hb)))
                  clear hb c0 c1 c2 c3 c4 zz0 zz1 d0 d1 d2 d3 u0 u1 u2 u3 u4 t0 t1 t2 t3 t4
                  have c0 := cell_of_box (bx_later HB.out B_c.out) 0 rfl
                  have c1 := cell_of_box (bx_later HB.out B_c.out) 1 rfl
                  have c2 := cell_of_box (bx_later HB.out B_c.out) 2 rfl
                  have c3 := cell_of_box (bx_later HB.out B_c.out) 3 rfl
                  have c4 := cell_of_box (bx_later HB.out B_c.out) 4 rfl
                  have zz0 := cell_of_box (bx_later HB.out B_zz.out) 0 rfl
                  have zz1 := cell_of_box (bx_later HB.out B_zz.out) 1 rfl
                  have d0 := cell_of_box (bx_later HB.out B_d.out) 0 rfl
                  have d1 := cell_of_box (bx_later HB.out B_d.out) 1 rfl
                  have d2 := cell_of_box (bx_later HB.out B_d.out) 2 rfl
                  have d3 := cell_of_box (bx_later HB.out B_d.out) 3 rfl
                  have u0 := cell_of_box (bx_later HB.out B_u.out) 0 rfl
                  have u1 := cell_of_box (bx_later HB.out B_u.out) 1 rfl
                  have u2 := cell_of_box (bx_later HB.out B_u.out) 2 rfl
                  have u3 := cell_of_box (bx_later HB.out B_u.out) 3 rfl
                  have u4 := cell_of_box (bx_later HB.out B_u.out) 4 rfl
                  have t0 := cell_of_box (bx_later HB.out B_t.out) 0 rfl
                  have t1 := cell_of_box (bx_later HB.out B_t.out) 1 rfl
                  have t2 := cell_of_box (bx_later HB.out B_t.out) 2 rfl
                  have t3 := cell_of_box (bx_later HB.out B_t.out) 3 rfl
                  have t4 := cell_of_box (bx_later HB.out B_t.out) 4 rfl
                  go_wp2_with fail
                  refine (hasN_b true HN.out (P_u.out.later HB.out) (by omega)).mono ?_
                  rintro e wn ⟨rfl, hb⟩
                  replace HB := Lib.hid (below_then HB.out (by first | exact hb | exact below_alloc_then hb | exact below_alloc_then (below_alloc_then hb)))
                  clear hb c0 c1 c2 c3 c4 zz0 zz1 d0 d1 d2 d3 u0 u1 u2 u3 u4 t0 t1 t2 t3 t4
                  have c0 := cell_of_box (bx_later HB.out B_c.out) 0 rfl
                  have c1 := cell_of_box (bx_later HB.out B_c.out) 1 rfl
                  have c2 := cell_of_box (bx_later HB.out B_c.out) 2 rfl
                  have c3 := cell_of_box (bx_later HB.out B_c.out) 3 rfl
                  have c4 := cell_of_box (bx_later HB.out B_c.out) 4 rfl
                  have zz0 := cell_of_box (bx_later HB.out B_zz.out) 0 rfl
                  have zz1 := cell_of_box (bx_later HB.out B_zz.out) 1 rfl
                  have d0 := cell_of_box (bx_later HB.out B_d.out) 0 rfl
                  have d1 := cell_of_box (bx_later HB.out B_d.out) 1 rfl
                  have d2 := cell_of_box (bx_later HB.out B_d.out) 2 rfl
                  have d3 := cell_of_box (bx_later HB.out B_d.out) 3 rfl
                  have u0 := cell_of_box (bx_later HB.out B_u.out) 0 rfl
                  have u1 := cell_of_box (bx_later HB.out B_u.out) 1 rfl
                  have u2 := cell_of_box (bx_later HB.out B_u.out) 2 rfl
                  have u3 := cell_of_box (bx_later HB.out B_u.out) 3 rfl
                  have u4 := cell_of_box (bx_later HB.out B_u.out) 4 rfl
                  have t0 := cell_of_box (bx_later HB.out B_t.out) 0 rfl
                  have t1 := cell_of_box (bx_later HB.out B_t.out) 1 rfl
                  have t2 := cell_of_box (bx_later HB.out B_t.out) 2 rfl
                  have t3 := cell_of_box (bx_later HB.out B_t.out) 3 rfl
                  have t4 := cell_of_box (bx_later HB.out B_t.out) 4 rfl
                  go_wp2_with fail
                  go_ret
                  exact ⟨by first | rfl | exact ret_bool (by simp), below_then HB1.out HB.out⟩

set_option maxRecDepth 100000 in
theorem lifted (os : Os) (started : os.Started) (H : Type) (enc : TypeId × Value → H) :
    ReturnsInHanded {} Try.checked os 6 .any (Rows.bagWinsSpec.pre6 enc Try.prog Try.f6 Rows.bagWinsRow.domain false) (Rows.bagWinsSpec.post enc Try.prog Try.f6 false true false false) := by
  refine returnsInHanded_of_change_sized (C := Try.checked) ownKnob_none started (by kernel_rfl) Try.func6
    (ChangeSpec.witness6 (enc := enc) (C := Try.checked) false ⟨#[], #[.agg #[.int .i64 0, .int .i64 0, .int .i64 0, .string ⟨#[]⟩, .slice none 0 0], .agg #[.int .i64 0, .int .i64 0], .agg #[.int .i64 0, .int .i64 0, .int .i64 0, .int .i64 0], .slice none 0 0], []⟩ 8 (by kernel_rfl) (by kernel_rfl) (by kernel_rfl) (by kernel_rfl)) ?_
  intro W base args ds gs before hval0 hW hcnd hsz0 _
  have hval : ∀ (j : Nat) t v, Try.f6.params[j]? = some t → args[j]? = some v → Value.okWide Try.prog W .any base t v := hval0
  have hW' := hW
  obtain ⟨p, q, hA0, hV, rfl, hfz, hnd⟩ := hW
  have hA : DataW.TrodAll enc Try.prog W 0 (fun _ => true) true Try.f6.params.toList args.toList ds p := hA0
  have hsz : (DataW.weightsEach Try.prog (Try.f6.params.toList ++ Rows.bagWinsSpec.plain.varTypes Try.prog) (ds ++ gs)).all (· ≤ reachBytes) = true := hsz0
  rw [Try.params6] at hA hval hsz
  obtain ⟨v0, vs0, d0, ds0, p0, q0, hargs, rfl, rfl, h0, r0r⟩ := trodAll_cons hA
  obtain ⟨v1, vs1, d1, ds1, p1, q1, rfl, rfl, rfl, h1, r1r⟩ := trodAll_cons r0r
  obtain ⟨v2, vs2, d2, ds2, p2, q2, rfl, rfl, rfl, h2, r2r⟩ := trodAll_cons r1r
  obtain ⟨v3, vs3, d3, ds3, p3, q3, rfl, rfl, rfl, h3, r3r⟩ := trodAll_cons r2r
  obtain ⟨rfl, rfl, rfl⟩ := trodAll_nil r3r
  obtain rfl : args = #[v0, v1, v2, v3] := by cases args; simp_all
  obtain ⟨rfl, rfl⟩ := trodVars_none hV
  have g0 := sized_at hsz (j := 0) rfl rfl
  have g1 := sized_at hsz (j := 1) rfl rfl
  have g2 := sized_at hsz (j := 2) rfl rfl
  have g3 := sized_at hsz (j := 3) rfl rfl
  obtain ⟨y0_0, y0_1, y0_2, y0_3, rfl, f0_0⟩ := open_cell (hval 0 26 v0 rfl rfl) h0
  obtain ⟨y1_0, y1_1, rfl⟩ := open_int2 (hval 1 35 v1 rfl rfl) h1
  obtain ⟨y2_0, y2_1, rfl⟩ := open_dot2 (hval 2 46 v2 rfl rfl) h2
  obtain ⟨y3_0, f3_0⟩ := open_vec (hval 3 28 v3 rfl rfl) h3
  refine (walk y0_0 y0_1 y0_2 y0_3 y1_0 y1_1 y2_0 y2_1 v3 y3_0 W f0_0 f3_0).mono fun e W' ⟨he, hg⟩ => ⟨_, he, law_post laidOut (by kernel_rfl) rfl Try.underlying4 rfl rfl hW' hg⟩

theorem over : Rows.bagWinsRow.holds Try.pinned (OpenSpec.ofChange Rows.bagWinsSpec) :=
  OpenClaim.holds_of_wide 6 Try.f6 rfl rfl rfl rfl rfl rfl rfl ⟨rfl, rfl, rfl, rfl, rfl⟩ rfl rfl rfl rfl rfl (by kernel_rfl) Try.func6 (by kernel_rfl)
    (of_decide_eq_true (by kernel_rfl)) (by unfold Func.isWrapper; first | (rw [if_pos (by decide +kernel)]; kernel_rfl) | (rw [if_neg (by decide +kernel)]; exact ⟨rfl, rfl⟩))
    (fun os started H enc _ => lifted os started H enc)

/-- THE STATEMENT. -/
theorem proved : Rows.BagWinsSaid :=
  over
#print axioms proved
end Go.Proofs.Ytnpciogpegmejaa.bagWins
