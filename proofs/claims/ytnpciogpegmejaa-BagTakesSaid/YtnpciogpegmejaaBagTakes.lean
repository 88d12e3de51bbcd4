/-
  The law BagTakes.
-/
import Derived.Test.YtnpciogpegmejaaGOp
namespace Go.Proofs.Ytnpciogpegmejaa.bagTakes
open Go.ChangeShapes Go.WideShapes Go.ChangeAt Go.RowKit Go.Sort Go.BigFrame Go.Proofs.Ytnpciogpegmejaa
open Go.ChangeMaps (open_string shut_string)
attribute [local irreducible] FlowW

set_option maxRecDepth 100000 in
set_option maxHeartbeats 8000000 in
theorem walk (kd : Int) (cv : Val) (va : Value) (l : List Prt) (z0 z1 : Int) (d : Dt) (vk : Value) (knew : List Int) (w : World) (ha : PRd w va l) (hk : Rd w vk knew.length (knew.map ic)) :
    Calls Try.prog 5 #[.agg #[.int .i64 kd, .int .i64 cv.k, .int .i64 cv.n, .string cv.s, va], .agg #[.int .i64 z0, .int .i64 z1], d.agg, vk] w fun e w' => e = .returned (.bool true) ∧ Below w.heap.size w w' := by
  obtain ⟨ck, cn, cs⟩ := cv
  obtain ⟨ao, ca, rfl, -, hcm, -, -⟩ := id ha
  unfold maxLen at hcm
  obtain ⟨ko, kc, rfl, -, hkm, -, -⟩ := id hk
  unfold maxLen at hkm
  obtain ⟨dd, dq⟩ := d
  obtain ⟨w1, hw1⟩ : ∃ w1, ((w.alloc (.cells #[(.int .i64 kd), (.int .i64 ck), (.int .i64 cn), (.string cs), (.slice ao l.length ca)] 26)).alloc (.cells #[(.int .i64 z0), (.int .i64 z1)] 35)).alloc (.cells #[(.int .i64 dd), (.int .i64 dq)] 37) = w1 := ⟨_, rfl⟩
  have hb1 : Below w.heap.size w w1 := by rw [← hw1]; exact below_alloc_then (below_alloc_then (below_alloc _ _))
  have b_c : Bx w1 (w.heap.size) #[(.int .i64 kd), (.int .i64 ck), (.int .i64 cn), (.string cs), (.slice ao l.length ca)] 26 := by rw [← hw1]; exact bx_later (below_alloc_then (below_alloc _ _)) (bx_new (by simp))
  have b_zz : Bx w1 (w.heap.size + 1) #[(.int .i64 z0), (.int .i64 z1)] 35 := by rw [← hw1]; exact bx_later (below_alloc _ _) (bx_new (by simp))
  have b_d : Bx w1 (w.heap.size + 2) #[(.int .i64 dd), (.int .i64 dq)] 37 := by rw [← hw1]; exact bx_new (by simp)
  have HW := Lib.hid hw1
  have HB1 := Lib.hid hb1
  have HB := Lib.hid (Below.refl w1.heap.size w1)
  have B_c := Lib.hid b_c
  have B_zz := Lib.hid b_zz
  have B_d := Lib.hid b_d
  have c0 := cell_of_box (bx_later HB.out B_c.out) 0 rfl
  have c1 := cell_of_box (bx_later HB.out B_c.out) 1 rfl
  have c2 := cell_of_box (bx_later HB.out B_c.out) 2 rfl
  have c3 := cell_of_box (bx_later HB.out B_c.out) 3 rfl
  have c4 := cell_of_box (bx_later HB.out B_c.out) 4 rfl
  have zz0 := cell_of_box (bx_later HB.out B_zz.out) 0 rfl
  have zz1 := cell_of_box (bx_later HB.out B_zz.out) 1 rfl
  have d0 := cell_of_box (bx_later HB.out B_d.out) 0 rfl
  have d1 := cell_of_box (bx_later HB.out B_d.out) 1 rfl
  clear hw1 hb1 b_c b_zz b_d
  have P := Lib.hid (ha.later HB1.out)
  have KN := Lib.hid (hk.later HB1.out)
  clear ha hk
  cases hf0 : decide ((l.length : Int) ≤ 60)
  all_goals
    have F0 := Lib.hid hf0
  · clear hf0
    go_enter Try.func5, Try.ntmps5
    go_wp2_with fail
    rw [HW.out]
    go_wp2_with fail
    refine (few_b false F0.out (P.out.later HB.out)).mono ?_
    rintro e wn ⟨rfl, hb⟩
    replace HB := Lib.hid (below_then HB.out (by first | exact hb | exact below_alloc_then hb | exact below_alloc_then (below_alloc_then hb)))
    clear hb c0 c1 c2 c3 c4 zz0 zz1 d0 d1
    have c0 := cell_of_box (bx_later HB.out B_c.out) 0 rfl
    have c1 := cell_of_box (bx_later HB.out B_c.out) 1 rfl
    have c2 := cell_of_box (bx_later HB.out B_c.out) 2 rfl
    have c3 := cell_of_box (bx_later HB.out B_c.out) 3 rfl
    have c4 := cell_of_box (bx_later HB.out B_c.out) 4 rfl
    have zz0 := cell_of_box (bx_later HB.out B_zz.out) 0 rfl
    have zz1 := cell_of_box (bx_later HB.out B_zz.out) 1 rfl
    have d0 := cell_of_box (bx_later HB.out B_d.out) 0 rfl
    have d1 := cell_of_box (bx_later HB.out B_d.out) 1 rfl
    go_wp2_with fail
    refine (alive_any _).mono ?_
    rintro e wn ⟨rfl, hb⟩
    replace HB := Lib.hid (below_then HB.out (by first | exact hb | exact below_alloc_then hb | exact below_alloc_then (below_alloc_then hb)))
    clear hb c0 c1 c2 c3 c4 zz0 zz1 d0 d1
    have c0 := cell_of_box (bx_later HB.out B_c.out) 0 rfl
    have c1 := cell_of_box (bx_later HB.out B_c.out) 1 rfl
    have c2 := cell_of_box (bx_later HB.out B_c.out) 2 rfl
    have c3 := cell_of_box (bx_later HB.out B_c.out) 3 rfl
    have c4 := cell_of_box (bx_later HB.out B_c.out) 4 rfl
    have zz0 := cell_of_box (bx_later HB.out B_zz.out) 0 rfl
    have zz1 := cell_of_box (bx_later HB.out B_zz.out) 1 rfl
    have d0 := cell_of_box (bx_later HB.out B_d.out) 0 rfl
    have d1 := cell_of_box (bx_later HB.out B_d.out) 1 rfl
    go_wp2_with fail
    go_ret
    exact ⟨by first | rfl | exact ret_bool (by simp), below_then HB1.out HB.out⟩
  · have hl0 : l.length ≤ 60 := by have := of_decide_eq_true hf0; omega
    clear hf0
    by_cases hlen1 : 100 < knew.length
    · have g1knew : decide (100 < (knew.length : Int)) = true := decide_eq_true (by omega)
      have g2knew : decide (100 < knew.length) = true := decide_eq_true (by omega)
      go_enter Try.func5, Try.ntmps5
      go_wp2_with fail
      rw [HW.out]
      go_wp2_with fail
      refine (few_b true F0.out (P.out.later HB.out)).mono ?_
      rintro e wn ⟨rfl, hb⟩
      replace HB := Lib.hid (below_then HB.out (by first | exact hb | exact below_alloc_then hb | exact below_alloc_then (below_alloc_then hb)))
      clear hb c0 c1 c2 c3 c4 zz0 zz1 d0 d1
      have c0 := cell_of_box (bx_later HB.out B_c.out) 0 rfl
      have c1 := cell_of_box (bx_later HB.out B_c.out) 1 rfl
      have c2 := cell_of_box (bx_later HB.out B_c.out) 2 rfl
      have c3 := cell_of_box (bx_later HB.out B_c.out) 3 rfl
      have c4 := cell_of_box (bx_later HB.out B_c.out) 4 rfl
      have zz0 := cell_of_box (bx_later HB.out B_zz.out) 0 rfl
      have zz1 := cell_of_box (bx_later HB.out B_zz.out) 1 rfl
      have d0 := cell_of_box (bx_later HB.out B_d.out) 0 rfl
      have d1 := cell_of_box (bx_later HB.out B_d.out) 1 rfl
      go_wp2_with fail
      refine (alive_any _).mono ?_
      rintro e wn ⟨rfl, hb⟩
      replace HB := Lib.hid (below_then HB.out (by first | exact hb | exact below_alloc_then hb | exact below_alloc_then (below_alloc_then hb)))
      clear hb c0 c1 c2 c3 c4 zz0 zz1 d0 d1
      have c0 := cell_of_box (bx_later HB.out B_c.out) 0 rfl
      have c1 := cell_of_box (bx_later HB.out B_c.out) 1 rfl
      have c2 := cell_of_box (bx_later HB.out B_c.out) 2 rfl
      have c3 := cell_of_box (bx_later HB.out B_c.out) 3 rfl
      have c4 := cell_of_box (bx_later HB.out B_c.out) 4 rfl
      have zz0 := cell_of_box (bx_later HB.out B_zz.out) 0 rfl
      have zz1 := cell_of_box (bx_later HB.out B_zz.out) 1 rfl
      have d0 := cell_of_box (bx_later HB.out B_d.out) 0 rfl
      have d1 := cell_of_box (bx_later HB.out B_d.out) 1 rfl
      go_wp2_with fail
      go_ret
      exact ⟨by first | rfl | exact ret_bool (by simp), below_then HB1.out HB.out⟩
    · have g1knew : decide (100 < (knew.length : Int)) = false := decide_eq_false (by omega)
      have g2knew : decide (100 < knew.length) = false := decide_eq_false (by omega)
      cases hr2 : rcQ kd ⟨ck, cn, cs⟩ l
      all_goals
        have F2 := Lib.hid hr2
        clear hr2
      · go_enter Try.func5, Try.ntmps5
        go_wp2_with fail
        rw [HW.out]
        go_wp2_with fail
        refine (few_b true F0.out (P.out.later HB.out)).mono ?_
        rintro e wn ⟨rfl, hb⟩
        replace HB := Lib.hid (below_then HB.out (by first | exact hb | exact below_alloc_then hb | exact below_alloc_then (below_alloc_then hb)))
        clear hb c0 c1 c2 c3 c4 zz0 zz1 d0 d1
        have c0 := cell_of_box (bx_later HB.out B_c.out) 0 rfl
        have c1 := cell_of_box (bx_later HB.out B_c.out) 1 rfl
        have c2 := cell_of_box (bx_later HB.out B_c.out) 2 rfl
        have c3 := cell_of_box (bx_later HB.out B_c.out) 3 rfl
        have c4 := cell_of_box (bx_later HB.out B_c.out) 4 rfl
        have zz0 := cell_of_box (bx_later HB.out B_zz.out) 0 rfl
        have zz1 := cell_of_box (bx_later HB.out B_zz.out) 1 rfl
        have d0 := cell_of_box (bx_later HB.out B_d.out) 0 rfl
        have d1 := cell_of_box (bx_later HB.out B_d.out) 1 rfl
        go_wp2_with fail
        refine (right_b false F2.out (P.out.later HB.out) (by omega)).mono ?_
        rintro e wn ⟨rfl, hb⟩
        replace HB := Lib.hid (below_then HB.out (by first | exact hb | exact below_alloc_then hb | exact below_alloc_then (below_alloc_then hb)))
        clear hb c0 c1 c2 c3 c4 zz0 zz1 d0 d1
        have c0 := cell_of_box (bx_later HB.out B_c.out) 0 rfl
        have c1 := cell_of_box (bx_later HB.out B_c.out) 1 rfl
        have c2 := cell_of_box (bx_later HB.out B_c.out) 2 rfl
        have c3 := cell_of_box (bx_later HB.out B_c.out) 3 rfl
        have c4 := cell_of_box (bx_later HB.out B_c.out) 4 rfl
        have zz0 := cell_of_box (bx_later HB.out B_zz.out) 0 rfl
        have zz1 := cell_of_box (bx_later HB.out B_zz.out) 1 rfl
        have d0 := cell_of_box (bx_later HB.out B_d.out) 0 rfl
        have d1 := cell_of_box (bx_later HB.out B_d.out) 1 rfl
        go_wp2_with fail
        refine (alive_any _).mono ?_
        rintro e wn ⟨rfl, hb⟩
        replace HB := Lib.hid (below_then HB.out (by first | exact hb | exact below_alloc_then hb | exact below_alloc_then (below_alloc_then hb)))
        clear hb c0 c1 c2 c3 c4 zz0 zz1 d0 d1
        have c0 := cell_of_box (bx_later HB.out B_c.out) 0 rfl
        have c1 := cell_of_box (bx_later HB.out B_c.out) 1 rfl
        have c2 := cell_of_box (bx_later HB.out B_c.out) 2 rfl
        have c3 := cell_of_box (bx_later HB.out B_c.out) 3 rfl
        have c4 := cell_of_box (bx_later HB.out B_c.out) 4 rfl
        have zz0 := cell_of_box (bx_later HB.out B_zz.out) 0 rfl
        have zz1 := cell_of_box (bx_later HB.out B_zz.out) 1 rfl
        have d0 := cell_of_box (bx_later HB.out B_d.out) 0 rfl
        have d1 := cell_of_box (bx_later HB.out B_d.out) 1 rfl
        go_wp2_with fail
        go_ret
        exact ⟨by first | rfl | exact ret_bool (by simp), below_then HB1.out HB.out⟩
      · obtain ⟨m, hm⟩ : ∃ m, takeQ l z0 ⟨dd, dq⟩ knew = m := ⟨_, rfl⟩
        have hlen := takeQ_length l z0 ⟨dd, dq⟩ knew
        obtain ⟨st, hst⟩ : ∃ st, stayN l z0 ⟨dd, dq⟩ knew = st := ⟨_, rfl⟩
        have hself := hasN_take_self l z0 ⟨dd, dq⟩ knew
        have hrt := rcQ_take F2.out z0 ⟨dd, dq⟩ knew
        rw [hm] at hlen hself hrt
        rw [hst] at hself
        have MS := Lib.hid hself
        have MR := Lib.hid hrt
        have ST := Lib.hid hst
        have hml : m.length ≤ 1000 := by omega
        have hss : (st == st) = true := by simp
        by_cases hz : z0 = z1
        · subst hz
          have hzb : (z0 == z0) = true := by simp
          have M := Lib.hid hm
          clear hm hlen hself hrt hst
          go_enter Try.func5, Try.ntmps5
          go_wp2_with fail
          rw [HW.out]
          go_wp2_with fail
          refine (few_b true F0.out (P.out.later HB.out)).mono ?_
          rintro e wn ⟨rfl, hb⟩
          replace HB := Lib.hid (below_then HB.out (by first | exact hb | exact below_alloc_then hb | exact below_alloc_then (below_alloc_then hb)))
          clear hb c0 c1 c2 c3 c4 zz0 zz1 d0 d1
          have c0 := cell_of_box (bx_later HB.out B_c.out) 0 rfl
          have c1 := cell_of_box (bx_later HB.out B_c.out) 1 rfl
          have c2 := cell_of_box (bx_later HB.out B_c.out) 2 rfl
          have c3 := cell_of_box (bx_later HB.out B_c.out) 3 rfl
          have c4 := cell_of_box (bx_later HB.out B_c.out) 4 rfl
          have zz0 := cell_of_box (bx_later HB.out B_zz.out) 0 rfl
          have zz1 := cell_of_box (bx_later HB.out B_zz.out) 1 rfl
          have d0 := cell_of_box (bx_later HB.out B_d.out) 0 rfl
          have d1 := cell_of_box (bx_later HB.out B_d.out) 1 rfl
          go_wp2_with fail
          refine (right_b true F2.out (P.out.later HB.out) (by omega)).mono ?_
          rintro e wn ⟨rfl, hb⟩
          replace HB := Lib.hid (below_then HB.out (by first | exact hb | exact below_alloc_then hb | exact below_alloc_then (below_alloc_then hb)))
          clear hb c0 c1 c2 c3 c4 zz0 zz1 d0 d1
          have c0 := cell_of_box (bx_later HB.out B_c.out) 0 rfl
          have c1 := cell_of_box (bx_later HB.out B_c.out) 1 rfl
          have c2 := cell_of_box (bx_later HB.out B_c.out) 2 rfl
          have c3 := cell_of_box (bx_later HB.out B_c.out) 3 rfl
          have c4 := cell_of_box (bx_later HB.out B_c.out) 4 rfl
          have zz0 := cell_of_box (bx_later HB.out B_zz.out) 0 rfl
          have zz1 := cell_of_box (bx_later HB.out B_zz.out) 1 rfl
          have d0 := cell_of_box (bx_later HB.out B_d.out) 0 rfl
          have d1 := cell_of_box (bx_later HB.out B_d.out) 1 rfl
          go_wp2_with fail
          refine (take_o knew (P.out.later HB.out) (KN.out.later HB.out) (by omega) M.out).mono ?_
          rintro e wn ⟨a_u, k_u, rfl, ho, hb⟩
          have P_u := Lib.hid (Rd.of_own ho)
          replace HB := Lib.hid (below_then HB.out (by first | exact hb | exact below_alloc_then hb))
          clear hb ho c0 c1 c2 c3 c4 zz0 zz1 d0 d1
          go_upto_region 5 with fail
          obtain ⟨w2, hnew⟩ : ∃ w2, wn.alloc (.cells #[(.int .i64 kd), (.int .i64 ck), (.int .i64 cn), (.string cs), (.slice a_u m.length k_u)] 26) = w2 := ⟨_, rfl⟩
          have hbw : Below wn.heap.size wn w2 := by rw [← hnew]; exact below_alloc _ _
          have bnew : Bx w2 wn.heap.size #[(.int .i64 kd), (.int .i64 ck), (.int .i64 cn), (.string cs), (.slice a_u m.length k_u)] 26 := by rw [← hnew]; exact bx_new rfl
          rw [hnew]
          clear hnew
          obtain ⟨g_u, hg⟩ : ∃ g, wn.heap.size = g := ⟨_, rfl⟩
          rw [hg] at bnew ⊢
          replace P_u := Lib.hid (P_u.out.later hbw)
          have hbn := below_then HB.out hbw
          replace B_c := Lib.hid (bx_later hbn B_c.out)
          replace B_zz := Lib.hid (bx_later hbn B_zz.out)
          replace B_d := Lib.hid (bx_later hbn B_d.out)
          replace P := Lib.hid (P.out.later hbn)
          replace KN := Lib.hid (KN.out.later hbn)
          replace HB1 := Lib.hid (below_then HB1.out hbn)
          clear HB hbn hbw hg
          have HB := Lib.hid (Below.refl w2.heap.size w2)
          have B_u := Lib.hid bnew
          clear bnew
          have c0 := cell_of_box (bx_later HB.out B_c.out) 0 rfl
          have c1 := cell_of_box (bx_later HB.out B_c.out) 1 rfl
          have c2 := cell_of_box (bx_later HB.out B_c.out) 2 rfl
          have c3 := cell_of_box (bx_later HB.out B_c.out) 3 rfl
          have c4 := cell_of_box (bx_later HB.out B_c.out) 4 rfl
          have zz0 := cell_of_box (bx_later HB.out B_zz.out) 0 rfl
          have zz1 := cell_of_box (bx_later HB.out B_zz.out) 1 rfl
          have d0 := cell_of_box (bx_later HB.out B_d.out) 0 rfl
          have d1 := cell_of_box (bx_later HB.out B_d.out) 1 rfl
          have u0 := cell_of_box (bx_later HB.out B_u.out) 0 rfl
          have u1 := cell_of_box (bx_later HB.out B_u.out) 1 rfl
          have u2 := cell_of_box (bx_later HB.out B_u.out) 2 rfl
          have u3 := cell_of_box (bx_later HB.out B_u.out) 3 rfl
          have u4 := cell_of_box (bx_later HB.out B_u.out) 4 rfl
          go_wp2_with fail
          go_loopw [10, 36] (fun vs vi wr => ∃ (k : Nat) (b : Bool), k ≤ l.length ∧ vi = .int .i64 k ∧ vs = .bool b ∧ Hid (stayN (l.take k) z0 ⟨dd, dq⟩ knew = b) ∧ Hid (Below w2.heap.size w2 wr)) (fun _ vi _ => l.length - (intOf vi).toNat)
          case atStart => exact ⟨0, false, Nat.zero_le _, rfl, rfl, rfl, Below.refl _ _⟩
          case round =>
            obtain ⟨k, b, hk, rfl, rfl, hsb, hbw⟩ := hrel
            rename World => wr
            have HB := hbw
            clear c0 c1 c2 c3 c4 zz0 zz1 d0 d1 u0 u1 u2 u3 u4
            have c0 := cell_of_box (bx_later HB.out B_c.out) 0 rfl
            have c1 := cell_of_box (bx_later HB.out B_c.out) 1 rfl
            have c2 := cell_of_box (bx_later HB.out B_c.out) 2 rfl
            have c3 := cell_of_box (bx_later HB.out B_c.out) 3 rfl
            have c4 := cell_of_box (bx_later HB.out B_c.out) 4 rfl
            have zz0 := cell_of_box (bx_later HB.out B_zz.out) 0 rfl
            have zz1 := cell_of_box (bx_later HB.out B_zz.out) 1 rfl
            have d0 := cell_of_box (bx_later HB.out B_d.out) 0 rfl
            have d1 := cell_of_box (bx_later HB.out B_d.out) 1 rfl
            have u0 := cell_of_box (bx_later HB.out B_u.out) 0 rfl
            have u1 := cell_of_box (bx_later HB.out B_u.out) 1 rfl
            have u2 := cell_of_box (bx_later HB.out B_u.out) 2 rfl
            have u3 := cell_of_box (bx_later HB.out B_u.out) 3 rfl
            have u4 := cell_of_box (bx_later HB.out B_u.out) 4 rfl
            by_cases hlt : k < l.length
            · obtain ⟨x, hx⟩ : ∃ x, l[k] = x := ⟨_, rfl⟩
              obtain ⟨b1, o1, x1, e0, e1, e2, e3, e4, e5, e6, e7, e8, e9, e10, _⟩ := rd_prt (P.out.later hbw.out) rfl k hlt hx
              have hnx : stayN (l.take (k + 1)) z0 ⟨dd, dq⟩ knew = (b || (decide (x.v.n = z0) && (!decide (x.d = ⟨dd, dq⟩) && !hasV knew x.d))) := by
                have := hsb.out
                unfold stayN at this ⊢
                rw [List.take_succ_eq_append_getElem hlt, List.any_append, this, hx]
                simp
              have HX := Lib.hid hx
              clear hx
              obtain ⟨⟨xk, xn, xs⟩, ⟨xd, xq⟩, xat, xtm, ⟨xfd, xfq⟩, xaa, xg⟩ := x
              have hbx := below_alloc wr (.cells #[.int .i64 xk, .int .i64 xn, .string xs, .int .i64 xd, .int .i64 xq, .int .i64 xat, .int .i64 xtm, .int .i64 xfd, .int .i64 xfq, .int .i64 xaa, .bool xg] 43)
              have HBX := Lib.hid (below_then hbw.out hbx)
              have KX := Lib.hid ((KN.out.later hbw.out).later hbx)
              have y_c0 := cell_later hbx c0
              have y_c1 := cell_later hbx c1
              have y_c2 := cell_later hbx c2
              have y_c3 := cell_later hbx c3
              have y_c4 := cell_later hbx c4
              have y_zz0 := cell_later hbx zz0
              have y_zz1 := cell_later hbx zz1
              have y_d0 := cell_later hbx d0
              have y_d1 := cell_later hbx d1
              have y_u0 := cell_later hbx u0
              have y_u1 := cell_later hbx u1
              have y_u2 := cell_later hbx u2
              have y_u3 := cell_later hbx u3
              have y_u4 := cell_later hbx u4
              clear hbx
              cases b
              · by_cases q1 : xn = z0
                · have q1b : (xn == z0) = true := by simpa using q1
                  by_cases q2 : xd = dd ∧ xq = dq
                  · obtain ⟨rfl, rfl⟩ := q2
                    have q2b : (xd == xd) = true := by simp
                    have q3b : (xq == xq) = true := by simp
                    have HNX := Lib.hid (hnx.trans (show _ = false by simp))
                    clear hnx q1
                    go_wp2_with fail
                    go_roundw
                    case rel => exact ⟨k + 1, false, by omega, by go_num, rfl, HNX.out, HBX.out⟩
                    case measure => simp [intOf]; omega
                  · have hne : (⟨xd, xq⟩ : Dt) ≠ ⟨dd, dq⟩ := fun h => q2 (by cases h; exact ⟨rfl, rfl⟩)
                    cases hv : hasV knew ⟨xd, xq⟩
                    all_goals
                      have HNX := hnx.trans (show _ = _ by rw [decide_eq_true q1, decide_eq_false hne, hv]; try rfl)
                      have HNX := Lib.hid HNX
                      have HV := Lib.hid hv
                      clear hnx q1 hv
                      have q4 : (xd == dd && xq == dq) = false := by
                        cases e : (xd == dd && xq == dq) with
                        | false => rfl
                        | true => simp at e; exact absurd e q2
                      have q5 : (xd == dd) = false ∨ ((xd == dd) = true ∧ (xq == dq) = false) := by
                        cases e : (xd == dd) with
                        | false => exact .inl rfl
                        | true => rw [e] at q4; exact .inr ⟨rfl, by simpa using q4⟩
                      clear q2 hne q4
                      rcases q5 with q5 | ⟨q5, q6⟩
                    all_goals
                      go_wp2_with fail
                      refine (refHasV_b _ HV.out KX.out).mono ?_
                      rintro e w5 ⟨rfl, hb5⟩
                      have HB5 := Lib.hid (below_then HBX.out hb5)
                      clear hb5
                      go_wp2_with fail
                      go_roundw
                      case rel => exact ⟨k + 1, _, by omega, by go_num, rfl, HNX.out, HB5.out⟩
                      case measure => simp [intOf]; omega
                · have q1b : (xn == z0) = false := by simpa using q1
                  have HNX := Lib.hid (hnx.trans (show _ = false by rw [decide_eq_false q1]; rfl))
                  clear hnx q1
                  go_wp2_with fail
                  go_roundw
                  case rel => exact ⟨k + 1, false, by omega, by go_num, rfl, HNX.out, HBX.out⟩
                  case measure => simp [intOf]; omega
              · have HNX := Lib.hid (hnx.trans (show _ = true by rfl))
                clear hnx
                go_wp2_with fail
                go_roundw
                case rel => exact ⟨k + 1, true, by omega, by go_num, rfl, HNX.out, HBX.out⟩
                case measure => simp [intOf]; omega
            · obtain rfl : k = l.length := by omega
              have hsb' := hsb.out
              rw [List.take_length, ST.out] at hsb'
              subst hsb'
              clear hbw hsb
              go_wp2_with fail
              refine wp_region_flow (by kernel_rfl) 32 [(0, ⟨fun v => v = .bool true, fun _ _ _ _ => True⟩), (3, ⟨fun v => v = .bool true, fun _ _ _ _ => True⟩), (9, ⟨fun v => v = .bool st, fun _ _ _ _ => True⟩), (23, ⟨fun v => v = .bool true, fun _ _ _ _ => True⟩), (27, ⟨fun v => v = .bool true, fun _ _ _ _ => True⟩)] (by kernel_rfl) ?_ ?_ ?_
              · intro x hx
                simp only [List.mem_cons, List.not_mem_nil, or_false] at hx
                rcases hx with rfl | rfl | rfl | rfl | rfl
                · exact ⟨_, rfl⟩
                · exact ⟨_, rfl⟩
                · exact ⟨_, rfl⟩
                · exact ⟨_, rfl⟩
                · exact ⟨_, rfl⟩
              · intro x hx v lo hi w w' h hb
                simp only [List.mem_cons, List.not_mem_nil, or_false] at hx
                rcases hx with rfl | rfl | rfl | rfl | rfl
                · exact trivial
                · exact trivial
                · exact trivial
                · exact trivial
                · exact trivial
              · intro lo hi
                have kc0 := cell_regrown c0
                have kc1 := cell_regrown c1
                have kc2 := cell_regrown c2
                have kc3 := cell_regrown c3
                have kc4 := cell_regrown c4
                have kzz0 := cell_regrown zz0
                have kzz1 := cell_regrown zz1
                have kd0 := cell_regrown d0
                have kd1 := cell_regrown d1
                have ku0 := cell_regrown u0
                have ku1 := cell_regrown u1
                have ku2 := cell_regrown u2
                have ku3 := cell_regrown u3
                have ku4 := cell_regrown u4
                refine flowW_call rfl rfl ?_ ?_
                · intro W hW hF K hK
                  clear kc0 kc1 kc2 kc3 kc4 kzz0 kzz1 kd0 kd1 ku0 ku1 ku2 ku3 ku4
                  go_wp2_with fail
                  refine (alive_any _).mono ?_
                  rintro e wq ⟨rfl, hbq⟩
                  go_wp2_with fail
                  exact hK _ _ rfl trivial hbq
                rintro v rfl K hK
                go_simp
                refine hK _ ?_
                clear hK K
                refine flowW_plain rfl ?_
                go_big_quiet_step (fail)
                refine wpQuiet_nil ?_
                refine flowW_plain rfl ?_
                go_big_quiet_step (fail)
                refine wpQuiet_nil ?_
                refine flowW_call rfl rfl ?_ ?_
                · intro W hW hF K hK
                  clear kc0 kc1 kc2 kc3 kc4 kzz0 kzz1 kd0 kd1 ku0 ku1 ku2 ku3 ku4
                  go_wp2_with fail
                  refine (right_b true MR.out (P_u.out.later (below_then HB.out hW)) (by omega)).mono ?_
                  rintro e wq ⟨rfl, hbq⟩
                  go_wp2_with fail
                  exact hK _ _ rfl trivial hbq
                rintro v rfl K hK
                go_simp
                refine hK _ ?_
                clear hK K
                refine flowW_plain rfl ?_
                go_big_quiet_step (fail)
                refine wpQuiet_nil ?_
                refine flowW_plain rfl ?_
                go_big_quiet_step (fail)
                refine wpQuiet_nil ?_
                refine flowW_plain rfl ?_
                go_big_quiet_step (fail)
                refine wpQuiet_nil ?_
                refine flowW_plain rfl ?_
                go_big_quiet_step (fail)
                refine wpQuiet_nil ?_
                refine flowW_plain rfl ?_
                go_big_quiet_step (fail)
                refine wpQuiet_nil ?_
                refine flowW_call rfl rfl ?_ ?_
                · intro W hW hF K hK
                  clear kc0 kc1 kc2 kc3 kc4 kzz0 kzz1 kd0 kd1 ku0 ku1 ku2 ku3 ku4
                  go_wp2_with fail
                  refine (hasN_b st MS.out (P_u.out.later (below_then HB.out hW)) (by omega)).mono ?_
                  rintro e wq ⟨rfl, hbq⟩
                  go_wp2_with fail
                  exact hK _ _ rfl trivial hbq
                rintro v rfl K hK
                go_simp
                refine hK _ ?_
                clear hK K
                refine flowW_plain rfl ?_
                go_big_quiet_step (fail)
                refine wpQuiet_nil ?_
                refine flowW_plain rfl ?_
                go_big_quiet_step (fail)
                refine wpQuiet_nil ?_
                refine flowW_plain rfl ?_
                go_big_quiet_step (fail)
                refine wpQuiet_nil ?_
                refine flowW_plain rfl ?_
                go_big_quiet_step (fail)
                refine wpQuiet_nil ?_
                refine flowW_plain rfl ?_
                go_big_quiet_step (fail)
                refine wpQuiet_nil ?_
                refine flowW_plain rfl ?_
                go_big_quiet_step (fail)
                refine wpQuiet_nil ?_
                refine flowW_plain rfl ?_
                go_big_quiet_step (fail)
                refine wpQuiet_nil ?_
                refine flowW_plain rfl ?_
                go_big_quiet_step (fail)
                refine wpQuiet_nil ?_
                refine flowW_plain rfl ?_
                go_big_quiet_step (fail)
                refine wpQuiet_nil ?_
                refine flowW_plain rfl ?_
                go_big_quiet_step (fail)
                refine wpQuiet_nil ?_
                refine flowW_skip rfl ?_
                go_big_quiet_step (fail)
                refine wpQuiet_nil ?_
                refine flowW_skip rfl ?_
                go_big_quiet_step (fail)
                refine wpQuiet_nil ?_
                refine flowW_skip rfl ?_
                go_big_quiet_step (fail)
                refine wpQuiet_nil ?_
                refine flowW_skip rfl ?_
                go_big_quiet_step (fail)
                refine wpQuiet_nil ?_
                refine flowW_skip rfl ?_
                go_big_quiet_step (fail)
                refine wpQuiet_nil ?_
                refine flowW_skip rfl ?_
                go_big_quiet_step (fail)
                refine wpQuiet_nil ?_
                refine flowW_skip rfl ?_
                go_big_quiet_step (fail)
                refine wpQuiet_nil ?_
                refine flowW_skip rfl ?_
                go_big_quiet_step (fail)
                refine wpQuiet_nil ?_
                refine flowW_skip rfl ?_
                go_big_quiet_step (fail)
                refine wpQuiet_nil ?_
                refine flowW_plain rfl ?_
                go_big_quiet_step (fail)
                refine wpQuiet_nil ?_
                refine flowW_plain rfl ?_
                go_big_quiet_step (fail)
                refine wpQuiet_nil ?_
                refine flowW_plain rfl ?_
                go_big_quiet_step (fail)
                refine wpQuiet_nil ?_
                refine flowW_end fun wz hwz hF hD => ?_
                clear kc0 kc1 kc2 kc3 kc4 kzz0 kzz1 kd0 kd1 ku0 ku1 ku2 ku3 ku4
                simp only [List.drop_succ_cons, List.drop_zero]
                replace HB := Lib.hid (below_then HB.out hwz)
                clear hwz hF hD c0 c1 c2 c3 c4 zz0 zz1 d0 d1 u0 u1 u2 u3 u4
                have c0 := cell_of_box (bx_later HB.out B_c.out) 0 rfl
                have c1 := cell_of_box (bx_later HB.out B_c.out) 1 rfl
                have c2 := cell_of_box (bx_later HB.out B_c.out) 2 rfl
                have c3 := cell_of_box (bx_later HB.out B_c.out) 3 rfl
                have c4 := cell_of_box (bx_later HB.out B_c.out) 4 rfl
                have zz0 := cell_of_box (bx_later HB.out B_zz.out) 0 rfl
                have zz1 := cell_of_box (bx_later HB.out B_zz.out) 1 rfl
                have d0 := cell_of_box (bx_later HB.out B_d.out) 0 rfl
                have d1 := cell_of_box (bx_later HB.out B_d.out) 1 rfl
                have u0 := cell_of_box (bx_later HB.out B_u.out) 0 rfl
                have u1 := cell_of_box (bx_later HB.out B_u.out) 1 rfl
                have u2 := cell_of_box (bx_later HB.out B_u.out) 2 rfl
                have u3 := cell_of_box (bx_later HB.out B_u.out) 3 rfl
                have u4 := cell_of_box (bx_later HB.out B_u.out) 4 rfl
                go_wp2_with fail
                go_ret
                exact ⟨by first | rfl | exact ret_bool (by simp), below_then HB1.out HB.out⟩
        · have hzb : (z0 == z1) = false := by simpa using hz
          obtain ⟨b2, hlb⟩ : ∃ b, hasN l z1 = b := ⟨_, rfl⟩
          have hmb := hasN_take_other l ⟨dd, dq⟩ knew hz
          rw [hm, hlb] at hmb
          have LB := Lib.hid hlb
          have MB := Lib.hid hmb
          have M := Lib.hid hm
          clear hm hlen hself hrt hst hz hlb hmb
          have hbb : (b2 == b2) = true := by simp
          go_enter Try.func5, Try.ntmps5
          go_wp2_with fail
          rw [HW.out]
          go_wp2_with fail
          refine (few_b true F0.out (P.out.later HB.out)).mono ?_
          rintro e wn ⟨rfl, hb⟩
          replace HB := Lib.hid (below_then HB.out (by first | exact hb | exact below_alloc_then hb | exact below_alloc_then (below_alloc_then hb)))
          clear hb c0 c1 c2 c3 c4 zz0 zz1 d0 d1
          have c0 := cell_of_box (bx_later HB.out B_c.out) 0 rfl
          have c1 := cell_of_box (bx_later HB.out B_c.out) 1 rfl
          have c2 := cell_of_box (bx_later HB.out B_c.out) 2 rfl
          have c3 := cell_of_box (bx_later HB.out B_c.out) 3 rfl
          have c4 := cell_of_box (bx_later HB.out B_c.out) 4 rfl
          have zz0 := cell_of_box (bx_later HB.out B_zz.out) 0 rfl
          have zz1 := cell_of_box (bx_later HB.out B_zz.out) 1 rfl
          have d0 := cell_of_box (bx_later HB.out B_d.out) 0 rfl
          have d1 := cell_of_box (bx_later HB.out B_d.out) 1 rfl
          go_wp2_with fail
          refine (right_b true F2.out (P.out.later HB.out) (by omega)).mono ?_
          rintro e wn ⟨rfl, hb⟩
          replace HB := Lib.hid (below_then HB.out (by first | exact hb | exact below_alloc_then hb | exact below_alloc_then (below_alloc_then hb)))
          clear hb c0 c1 c2 c3 c4 zz0 zz1 d0 d1
          have c0 := cell_of_box (bx_later HB.out B_c.out) 0 rfl
          have c1 := cell_of_box (bx_later HB.out B_c.out) 1 rfl
          have c2 := cell_of_box (bx_later HB.out B_c.out) 2 rfl
          have c3 := cell_of_box (bx_later HB.out B_c.out) 3 rfl
          have c4 := cell_of_box (bx_later HB.out B_c.out) 4 rfl
          have zz0 := cell_of_box (bx_later HB.out B_zz.out) 0 rfl
          have zz1 := cell_of_box (bx_later HB.out B_zz.out) 1 rfl
          have d0 := cell_of_box (bx_later HB.out B_d.out) 0 rfl
          have d1 := cell_of_box (bx_later HB.out B_d.out) 1 rfl
          go_wp2_with fail
          refine (take_o knew (P.out.later HB.out) (KN.out.later HB.out) (by omega) M.out).mono ?_
          rintro e wn ⟨a_u, k_u, rfl, ho, hb⟩
          have P_u := Lib.hid (Rd.of_own ho)
          replace HB := Lib.hid (below_then HB.out (by first | exact hb | exact below_alloc_then hb))
          clear hb ho c0 c1 c2 c3 c4 zz0 zz1 d0 d1
          go_upto_region 5 with fail
          obtain ⟨w2, hnew⟩ : ∃ w2, wn.alloc (.cells #[(.int .i64 kd), (.int .i64 ck), (.int .i64 cn), (.string cs), (.slice a_u m.length k_u)] 26) = w2 := ⟨_, rfl⟩
          have hbw : Below wn.heap.size wn w2 := by rw [← hnew]; exact below_alloc _ _
          have bnew : Bx w2 wn.heap.size #[(.int .i64 kd), (.int .i64 ck), (.int .i64 cn), (.string cs), (.slice a_u m.length k_u)] 26 := by rw [← hnew]; exact bx_new rfl
          rw [hnew]
          clear hnew
          obtain ⟨g_u, hg⟩ : ∃ g, wn.heap.size = g := ⟨_, rfl⟩
          rw [hg] at bnew ⊢
          replace P_u := Lib.hid (P_u.out.later hbw)
          have hbn := below_then HB.out hbw
          replace B_c := Lib.hid (bx_later hbn B_c.out)
          replace B_zz := Lib.hid (bx_later hbn B_zz.out)
          replace B_d := Lib.hid (bx_later hbn B_d.out)
          replace P := Lib.hid (P.out.later hbn)
          replace KN := Lib.hid (KN.out.later hbn)
          replace HB1 := Lib.hid (below_then HB1.out hbn)
          clear HB hbn hbw hg
          have HB := Lib.hid (Below.refl w2.heap.size w2)
          have B_u := Lib.hid bnew
          clear bnew
          have c0 := cell_of_box (bx_later HB.out B_c.out) 0 rfl
          have c1 := cell_of_box (bx_later HB.out B_c.out) 1 rfl
          have c2 := cell_of_box (bx_later HB.out B_c.out) 2 rfl
          have c3 := cell_of_box (bx_later HB.out B_c.out) 3 rfl
          have c4 := cell_of_box (bx_later HB.out B_c.out) 4 rfl
          have zz0 := cell_of_box (bx_later HB.out B_zz.out) 0 rfl
          have zz1 := cell_of_box (bx_later HB.out B_zz.out) 1 rfl
          have d0 := cell_of_box (bx_later HB.out B_d.out) 0 rfl
          have d1 := cell_of_box (bx_later HB.out B_d.out) 1 rfl
          have u0 := cell_of_box (bx_later HB.out B_u.out) 0 rfl
          have u1 := cell_of_box (bx_later HB.out B_u.out) 1 rfl
          have u2 := cell_of_box (bx_later HB.out B_u.out) 2 rfl
          have u3 := cell_of_box (bx_later HB.out B_u.out) 3 rfl
          have u4 := cell_of_box (bx_later HB.out B_u.out) 4 rfl
          go_wp2_with fail
          go_loopw [10, 36] (fun vs vi wr => ∃ (k : Nat) (b : Bool), k ≤ l.length ∧ vi = .int .i64 k ∧ vs = .bool b ∧ Hid (stayN (l.take k) z0 ⟨dd, dq⟩ knew = b) ∧ Hid (Below w2.heap.size w2 wr)) (fun _ vi _ => l.length - (intOf vi).toNat)
          case atStart => exact ⟨0, false, Nat.zero_le _, rfl, rfl, rfl, Below.refl _ _⟩
          case round =>
            obtain ⟨k, b, hk, rfl, rfl, hsb, hbw⟩ := hrel
            rename World => wr
            have HB := hbw
            clear c0 c1 c2 c3 c4 zz0 zz1 d0 d1 u0 u1 u2 u3 u4
            have c0 := cell_of_box (bx_later HB.out B_c.out) 0 rfl
            have c1 := cell_of_box (bx_later HB.out B_c.out) 1 rfl
            have c2 := cell_of_box (bx_later HB.out B_c.out) 2 rfl
            have c3 := cell_of_box (bx_later HB.out B_c.out) 3 rfl
            have c4 := cell_of_box (bx_later HB.out B_c.out) 4 rfl
            have zz0 := cell_of_box (bx_later HB.out B_zz.out) 0 rfl
            have zz1 := cell_of_box (bx_later HB.out B_zz.out) 1 rfl
            have d0 := cell_of_box (bx_later HB.out B_d.out) 0 rfl
            have d1 := cell_of_box (bx_later HB.out B_d.out) 1 rfl
            have u0 := cell_of_box (bx_later HB.out B_u.out) 0 rfl
            have u1 := cell_of_box (bx_later HB.out B_u.out) 1 rfl
            have u2 := cell_of_box (bx_later HB.out B_u.out) 2 rfl
            have u3 := cell_of_box (bx_later HB.out B_u.out) 3 rfl
            have u4 := cell_of_box (bx_later HB.out B_u.out) 4 rfl
            by_cases hlt : k < l.length
            · obtain ⟨x, hx⟩ : ∃ x, l[k] = x := ⟨_, rfl⟩
              obtain ⟨b1, o1, x1, e0, e1, e2, e3, e4, e5, e6, e7, e8, e9, e10, _⟩ := rd_prt (P.out.later hbw.out) rfl k hlt hx
              have hnx : stayN (l.take (k + 1)) z0 ⟨dd, dq⟩ knew = (b || (decide (x.v.n = z0) && (!decide (x.d = ⟨dd, dq⟩) && !hasV knew x.d))) := by
                have := hsb.out
                unfold stayN at this ⊢
                rw [List.take_succ_eq_append_getElem hlt, List.any_append, this, hx]
                simp
              have HX := Lib.hid hx
              clear hx
              obtain ⟨⟨xk, xn, xs⟩, ⟨xd, xq⟩, xat, xtm, ⟨xfd, xfq⟩, xaa, xg⟩ := x
              have hbx := below_alloc wr (.cells #[.int .i64 xk, .int .i64 xn, .string xs, .int .i64 xd, .int .i64 xq, .int .i64 xat, .int .i64 xtm, .int .i64 xfd, .int .i64 xfq, .int .i64 xaa, .bool xg] 43)
              have HBX := Lib.hid (below_then hbw.out hbx)
              have KX := Lib.hid ((KN.out.later hbw.out).later hbx)
              have y_c0 := cell_later hbx c0
              have y_c1 := cell_later hbx c1
              have y_c2 := cell_later hbx c2
              have y_c3 := cell_later hbx c3
              have y_c4 := cell_later hbx c4
              have y_zz0 := cell_later hbx zz0
              have y_zz1 := cell_later hbx zz1
              have y_d0 := cell_later hbx d0
              have y_d1 := cell_later hbx d1
              have y_u0 := cell_later hbx u0
              have y_u1 := cell_later hbx u1
              have y_u2 := cell_later hbx u2
              have y_u3 := cell_later hbx u3
              have y_u4 := cell_later hbx u4
              clear hbx
              cases b
              · by_cases q1 : xn = z0
                · have q1b : (xn == z0) = true := by simpa using q1
                  by_cases q2 : xd = dd ∧ xq = dq
                  · obtain ⟨rfl, rfl⟩ := q2
                    have q2b : (xd == xd) = true := by simp
                    have q3b : (xq == xq) = true := by simp
                    have HNX := Lib.hid (hnx.trans (show _ = false by simp))
                    clear hnx q1
                    go_wp2_with fail
                    go_roundw
                    case rel => exact ⟨k + 1, false, by omega, by go_num, rfl, HNX.out, HBX.out⟩
                    case measure => simp [intOf]; omega
                  · have hne : (⟨xd, xq⟩ : Dt) ≠ ⟨dd, dq⟩ := fun h => q2 (by cases h; exact ⟨rfl, rfl⟩)
                    cases hv : hasV knew ⟨xd, xq⟩
                    all_goals
                      have HNX := hnx.trans (show _ = _ by rw [decide_eq_true q1, decide_eq_false hne, hv]; try rfl)
                      have HNX := Lib.hid HNX
                      have HV := Lib.hid hv
                      clear hnx q1 hv
                      have q4 : (xd == dd && xq == dq) = false := by
                        cases e : (xd == dd && xq == dq) with
                        | false => rfl
                        | true => simp at e; exact absurd e q2
                      have q5 : (xd == dd) = false ∨ ((xd == dd) = true ∧ (xq == dq) = false) := by
                        cases e : (xd == dd) with
                        | false => exact .inl rfl
                        | true => rw [e] at q4; exact .inr ⟨rfl, by simpa using q4⟩
                      clear q2 hne q4
                      rcases q5 with q5 | ⟨q5, q6⟩
                    all_goals
                      go_wp2_with fail
                      refine (refHasV_b _ HV.out KX.out).mono ?_
                      rintro e w5 ⟨rfl, hb5⟩
                      have HB5 := Lib.hid (below_then HBX.out hb5)
                      clear hb5
                      go_wp2_with fail
                      go_roundw
                      case rel => exact ⟨k + 1, _, by omega, by go_num, rfl, HNX.out, HB5.out⟩
                      case measure => simp [intOf]; omega
                · have q1b : (xn == z0) = false := by simpa using q1
                  have HNX := Lib.hid (hnx.trans (show _ = false by rw [decide_eq_false q1]; rfl))
                  clear hnx q1
                  go_wp2_with fail
                  go_roundw
                  case rel => exact ⟨k + 1, false, by omega, by go_num, rfl, HNX.out, HBX.out⟩
                  case measure => simp [intOf]; omega
              · have HNX := Lib.hid (hnx.trans (show _ = true by rfl))
                clear hnx
                go_wp2_with fail
                go_roundw
                case rel => exact ⟨k + 1, true, by omega, by go_num, rfl, HNX.out, HBX.out⟩
                case measure => simp [intOf]; omega
            · obtain rfl : k = l.length := by omega
              have hsb' := hsb.out
              rw [List.take_length, ST.out] at hsb'
              subst hsb'
              clear hbw hsb
              go_wp2_with fail
              refine wp_region_flow (by kernel_rfl) 32 [(0, ⟨fun v => v = .bool true, fun _ _ _ _ => True⟩), (3, ⟨fun v => v = .bool true, fun _ _ _ _ => True⟩), (9, ⟨fun v => v = .bool st, fun _ _ _ _ => True⟩), (23, ⟨fun v => v = .bool b2, fun _ _ _ _ => True⟩), (27, ⟨fun v => v = .bool b2, fun _ _ _ _ => True⟩)] (by kernel_rfl) ?_ ?_ ?_
              · intro x hx
                simp only [List.mem_cons, List.not_mem_nil, or_false] at hx
                rcases hx with rfl | rfl | rfl | rfl | rfl
                · exact ⟨_, rfl⟩
                · exact ⟨_, rfl⟩
                · exact ⟨_, rfl⟩
                · exact ⟨_, rfl⟩
                · exact ⟨_, rfl⟩
              · intro x hx v lo hi w w' h hb
                simp only [List.mem_cons, List.not_mem_nil, or_false] at hx
                rcases hx with rfl | rfl | rfl | rfl | rfl
                · exact trivial
                · exact trivial
                · exact trivial
                · exact trivial
                · exact trivial
              · intro lo hi
                have kc0 := cell_regrown c0
                have kc1 := cell_regrown c1
                have kc2 := cell_regrown c2
                have kc3 := cell_regrown c3
                have kc4 := cell_regrown c4
                have kzz0 := cell_regrown zz0
                have kzz1 := cell_regrown zz1
                have kd0 := cell_regrown d0
                have kd1 := cell_regrown d1
                have ku0 := cell_regrown u0
                have ku1 := cell_regrown u1
                have ku2 := cell_regrown u2
                have ku3 := cell_regrown u3
                have ku4 := cell_regrown u4
                refine flowW_call rfl rfl ?_ ?_
                · intro W hW hF K hK
                  clear kc0 kc1 kc2 kc3 kc4 kzz0 kzz1 kd0 kd1 ku0 ku1 ku2 ku3 ku4
                  go_wp2_with fail
                  refine (alive_any _).mono ?_
                  rintro e wq ⟨rfl, hbq⟩
                  go_wp2_with fail
                  exact hK _ _ rfl trivial hbq
                rintro v rfl K hK
                go_simp
                refine hK _ ?_
                clear hK K
                refine flowW_plain rfl ?_
                go_big_quiet_step (fail)
                refine wpQuiet_nil ?_
                refine flowW_plain rfl ?_
                go_big_quiet_step (fail)
                refine wpQuiet_nil ?_
                refine flowW_call rfl rfl ?_ ?_
                · intro W hW hF K hK
                  clear kc0 kc1 kc2 kc3 kc4 kzz0 kzz1 kd0 kd1 ku0 ku1 ku2 ku3 ku4
                  go_wp2_with fail
                  refine (right_b true MR.out (P_u.out.later (below_then HB.out hW)) (by omega)).mono ?_
                  rintro e wq ⟨rfl, hbq⟩
                  go_wp2_with fail
                  exact hK _ _ rfl trivial hbq
                rintro v rfl K hK
                go_simp
                refine hK _ ?_
                clear hK K
                refine flowW_plain rfl ?_
                go_big_quiet_step (fail)
                refine wpQuiet_nil ?_
                refine flowW_plain rfl ?_
                go_big_quiet_step (fail)
                refine wpQuiet_nil ?_
                refine flowW_plain rfl ?_
                go_big_quiet_step (fail)
                refine wpQuiet_nil ?_
                refine flowW_plain rfl ?_
                go_big_quiet_step (fail)
                refine wpQuiet_nil ?_
                refine flowW_plain rfl ?_
                go_big_quiet_step (fail)
                refine wpQuiet_nil ?_
                refine flowW_call rfl rfl ?_ ?_
                · intro W hW hF K hK
                  clear kc0 kc1 kc2 kc3 kc4 kzz0 kzz1 kd0 kd1 ku0 ku1 ku2 ku3 ku4
                  go_wp2_with fail
                  refine (hasN_b st MS.out (P_u.out.later (below_then HB.out hW)) (by omega)).mono ?_
                  rintro e wq ⟨rfl, hbq⟩
                  go_wp2_with fail
                  exact hK _ _ rfl trivial hbq
                rintro v rfl K hK
                go_simp
                refine hK _ ?_
                clear hK K
                refine flowW_plain rfl ?_
                go_big_quiet_step (fail)
                refine wpQuiet_nil ?_
                refine flowW_plain rfl ?_
                go_big_quiet_step (fail)
                refine wpQuiet_nil ?_
                refine flowW_plain rfl ?_
                go_big_quiet_step (fail)
                refine wpQuiet_nil ?_
                refine flowW_plain rfl ?_
                go_big_quiet_step (fail)
                refine wpQuiet_nil ?_
                refine flowW_plain rfl ?_
                go_big_quiet_step (fail)
                refine wpQuiet_nil ?_
                refine flowW_plain rfl ?_
                go_big_quiet_step (fail)
                refine wpQuiet_nil ?_
                refine flowW_plain rfl ?_
                go_big_quiet_step (fail)
                refine wpQuiet_nil ?_
                refine flowW_plain rfl ?_
                go_big_quiet_step (fail)
                refine wpQuiet_nil ?_
                refine flowW_plain rfl ?_
                go_big_quiet_step (fail)
                refine wpQuiet_nil ?_
                refine flowW_plain rfl ?_
                go_big_quiet_step (fail)
                refine wpQuiet_nil ?_
                refine flowW_plain rfl ?_
                go_big_quiet_step (fail)
                refine wpQuiet_nil ?_
                refine flowW_plain rfl ?_
                go_big_quiet_step (fail)
                refine wpQuiet_nil ?_
                refine flowW_plain rfl ?_
                go_big_quiet_step (fail)
                refine wpQuiet_nil ?_
                refine flowW_call rfl rfl ?_ ?_
                · intro W hW hF K hK
                  clear kc0 kc1 kc2 kc3 kc4 kzz0 kzz1 kd0 kd1 ku0 ku1 ku2 ku3 ku4
                  go_wp2_with fail
                  refine (hasN_b b2 MB.out (P_u.out.later (below_then HB.out hW)) (by omega)).mono ?_
                  rintro e wq ⟨rfl, hbq⟩
                  go_wp2_with fail
                  exact hK _ _ rfl trivial hbq
                rintro v rfl K hK
                go_simp
                refine hK _ ?_
                clear hK K
                refine flowW_plain rfl ?_
                go_big_quiet_step (fail)
                refine wpQuiet_nil ?_
                refine flowW_plain rfl ?_
                go_big_quiet_step (fail)
                refine wpQuiet_nil ?_
                refine flowW_plain rfl ?_
                go_big_quiet_step (fail)
                refine wpQuiet_nil ?_
                refine flowW_call rfl rfl ?_ ?_
                · intro W hW hF K hK
                  clear kc0 kc1 kc2 kc3 kc4 kzz0 kzz1 kd0 kd1 ku0 ku1 ku2 ku3 ku4
                  go_wp2_with fail
                  refine (hasN_b b2 LB.out (P.out.later (below_then HB.out hW)) (by omega)).mono ?_
                  rintro e wq ⟨rfl, hbq⟩
                  go_wp2_with fail
                  exact hK _ _ rfl trivial hbq
                rintro v rfl K hK
                go_simp
                refine hK _ ?_
                clear hK K
                refine flowW_plain rfl ?_
                go_big_quiet_step (fail)
                refine wpQuiet_nil ?_
                refine flowW_plain rfl ?_
                go_big_quiet_step (fail)
                refine wpQuiet_nil ?_
                refine flowW_plain rfl ?_
                go_big_quiet_step (fail)
                refine wpQuiet_nil ?_
                refine flowW_plain rfl ?_
                go_big_quiet_step (fail)
                refine wpQuiet_nil ?_
                refine flowW_end fun wz hwz hF hD => ?_
                clear kc0 kc1 kc2 kc3 kc4 kzz0 kzz1 kd0 kd1 ku0 ku1 ku2 ku3 ku4
                simp only [List.drop_succ_cons, List.drop_zero]
                replace HB := Lib.hid (below_then HB.out hwz)
                clear hwz hF hD c0 c1 c2 c3 c4 zz0 zz1 d0 d1 u0 u1 u2 u3 u4
                have c0 := cell_of_box (bx_later HB.out B_c.out) 0 rfl
                have c1 := cell_of_box (bx_later HB.out B_c.out) 1 rfl
                have c2 := cell_of_box (bx_later HB.out B_c.out) 2 rfl
                have c3 := cell_of_box (bx_later HB.out B_c.out) 3 rfl
                have c4 := cell_of_box (bx_later HB.out B_c.out) 4 rfl
                have zz0 := cell_of_box (bx_later HB.out B_zz.out) 0 rfl
                have zz1 := cell_of_box (bx_later HB.out B_zz.out) 1 rfl
                have d0 := cell_of_box (bx_later HB.out B_d.out) 0 rfl
                have d1 := cell_of_box (bx_later HB.out B_d.out) 1 rfl
                have u0 := cell_of_box (bx_later HB.out B_u.out) 0 rfl
                have u1 := cell_of_box (bx_later HB.out B_u.out) 1 rfl
                have u2 := cell_of_box (bx_later HB.out B_u.out) 2 rfl
                have u3 := cell_of_box (bx_later HB.out B_u.out) 3 rfl
                have u4 := cell_of_box (bx_later HB.out B_u.out) 4 rfl
                go_wp2_with fail
                go_ret
                exact ⟨by first | rfl | exact ret_bool (by simp), below_then HB1.out HB.out⟩

set_option maxRecDepth 100000 in
theorem lifted (os : Os) (started : os.Started) (H : Type) (enc : TypeId × Value → H) :
    ReturnsInHanded {} Try.checked os 5 .any (Rows.bagTakesSpec.pre6 enc Try.prog Try.f5 Rows.bagTakesRow.domain false) (Rows.bagTakesSpec.post enc Try.prog Try.f5 false true false false) := by
  refine returnsInHanded_of_change_sized (C := Try.checked) ownKnob_none started (by kernel_rfl) Try.func5
    (ChangeSpec.witness6 (enc := enc) (C := Try.checked) false ⟨#[], #[.agg #[.int .i64 0, .int .i64 0, .int .i64 0, .string ⟨#[]⟩, .slice none 0 0], .agg #[.int .i64 0, .int .i64 0], .agg #[.int .i64 0, .int .i64 0], .slice none 0 0], []⟩ 8 (by kernel_rfl) (by kernel_rfl) (by kernel_rfl) (by kernel_rfl)) ?_
  intro W base args ds gs before hval0 hW hcnd hsz0 _
  have hval : ∀ (j : Nat) t v, Try.f5.params[j]? = some t → args[j]? = some v → Value.okWide Try.prog W .any base t v := hval0
  have hW' := hW
  obtain ⟨p, q, hA0, hV, rfl, hfz, hnd⟩ := hW
  have hA : DataW.TrodAll enc Try.prog W 0 (fun _ => true) true Try.f5.params.toList args.toList ds p := hA0
  have hsz : (DataW.weightsEach Try.prog (Try.f5.params.toList ++ Rows.bagTakesSpec.plain.varTypes Try.prog) (ds ++ gs)).all (· ≤ reachBytes) = true := hsz0
  rw [Try.params5] at hA hval hsz
  obtain ⟨v0, vs0, d0, ds0, p0, q0, hargs, rfl, rfl, h0, r0r⟩ := trodAll_cons hA
  obtain ⟨v1, vs1, d1, ds1, p1, q1, rfl, rfl, rfl, h1, r1r⟩ := trodAll_cons r0r
  obtain ⟨v2, vs2, d2, ds2, p2, q2, rfl, rfl, rfl, h2, r2r⟩ := trodAll_cons r1r
  obtain ⟨v3, vs3, d3, ds3, p3, q3, rfl, rfl, rfl, h3, r3r⟩ := trodAll_cons r2r
  obtain ⟨rfl, rfl, rfl⟩ := trodAll_nil r3r
  obtain rfl : args = #[v0, v1, v2, v3] := by cases args; simp_all
  obtain ⟨rfl, rfl⟩ := trodVars_none hV
  have g0 := sized_at hsz (j := 0) rfl rfl
  have g1 := sized_at hsz (j := 1) rfl rfl
  have g2 := sized_at hsz (j := 2) rfl rfl
  have g3 := sized_at hsz (j := 3) rfl rfl
  obtain ⟨y0_0, y0_1, y0_2, y0_3, rfl, f0_0⟩ := open_cell (hval 0 26 v0 rfl rfl) h0
  obtain ⟨y1_0, y1_1, rfl⟩ := open_int2 (hval 1 35 v1 rfl rfl) h1
  obtain ⟨y2_0, rfl⟩ := open_dot (hval 2 37 v2 rfl rfl) h2
  obtain ⟨y3_0, f3_0⟩ := open_vec (hval 3 28 v3 rfl rfl) h3
  refine (walk y0_0 y0_1 y0_2 y0_3 y1_0 y1_1 y2_0 v3 y3_0 W f0_0 f3_0).mono fun e W' ⟨he, hg⟩ => ⟨_, he, law_post laidOut (by kernel_rfl) rfl Try.underlying4 rfl rfl hW' hg⟩

theorem over : Rows.bagTakesRow.holds Try.pinned (OpenSpec.ofChange Rows.bagTakesSpec) :=
  OpenClaim.holds_of_wide 5 Try.f5 rfl rfl rfl rfl rfl rfl rfl ⟨rfl, rfl, rfl, rfl, rfl⟩ rfl rfl rfl rfl rfl (by kernel_rfl) Try.func5 (by kernel_rfl)
    (of_decide_eq_true (by kernel_rfl)) (by unfold Func.isWrapper; first | (rw [if_pos (by decide +kernel)]; kernel_rfl) | (rw [if_neg (by decide +kernel)]; exact ⟨rfl, rfl⟩))
    (fun os started H enc _ => lifted os started H enc)

/-- THE STATEMENT. -/
theorem proved : Rows.BagTakesSaid :=
  over
#print axioms proved
end Go.Proofs.Ytnpciogpegmejaa.bagTakes
