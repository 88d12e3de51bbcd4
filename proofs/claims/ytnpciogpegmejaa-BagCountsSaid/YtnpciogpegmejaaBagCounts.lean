/-
  The law BagCounts.
-/
import Derived.Test.YtnpciogpegmejaaGOp
namespace Go.Proofs.Ytnpciogpegmejaa.bagCounts
open Go.ChangeShapes Go.WideShapes Go.ChangeAt Go.RowKit Go.Sort Go.BigFrame Go.Proofs.Ytnpciogpegmejaa
open Go.ChangeMaps (open_string shut_string)
attribute [local irreducible] FlowW

set_option maxRecDepth 100000 in
set_option maxHeartbeats 16000000 in
theorem walk (kd : Int) (cv : Val) (va : Value) (l : List Prt) (n : Int) (d : Dt) (w : World) (ha : PRd w va l) (_hn64 : -9223372036854775808 ≤ n ∧ n ≤ 9223372036854775807) :
    Calls Try.prog 7 #[.agg #[.int .i64 kd, .int .i64 cv.k, .int .i64 cv.n, .string cv.s, va], .int .i64 n, d.agg] w fun e w' => e = .returned (.bool true) ∧ Below w.heap.size w w' := by
  obtain ⟨ck, cn, cs⟩ := cv
  obtain ⟨ao, ca, rfl, -, hcm, -, -⟩ := id ha
  unfold maxLen at hcm
  obtain ⟨dd, dq⟩ := d
  obtain ⟨w1, hw1⟩ : ∃ w1, (w.alloc (.cells #[(.int .i64 kd), (.int .i64 ck), (.int .i64 cn), (.string cs), (.slice ao l.length ca)] 26)).alloc (.cells #[(.int .i64 dd), (.int .i64 dq)] 37) = w1 := ⟨_, rfl⟩
  have hb1 : Below w.heap.size w w1 := by rw [← hw1]; exact below_alloc_then (below_alloc _ _)
  have b_c : Bx w1 (w.heap.size) #[(.int .i64 kd), (.int .i64 ck), (.int .i64 cn), (.string cs), (.slice ao l.length ca)] 26 := by rw [← hw1]; exact bx_later (below_alloc _ _) (bx_new (by simp))
  have b_d : Bx w1 (w.heap.size + 1) #[(.int .i64 dd), (.int .i64 dq)] 37 := by rw [← hw1]; exact bx_new (by simp)
  have HW := Lib.hid hw1
  have HB1 := Lib.hid hb1
  have HB := Lib.hid (Below.refl w1.heap.size w1)
  have B_c := Lib.hid b_c
  have B_d := Lib.hid b_d
  have c0 := cell_of_box (bx_later HB.out B_c.out) 0 rfl
  have c1 := cell_of_box (bx_later HB.out B_c.out) 1 rfl
  have c2 := cell_of_box (bx_later HB.out B_c.out) 2 rfl
  have c3 := cell_of_box (bx_later HB.out B_c.out) 3 rfl
  have c4 := cell_of_box (bx_later HB.out B_c.out) 4 rfl
  have d0 := cell_of_box (bx_later HB.out B_d.out) 0 rfl
  have d1 := cell_of_box (bx_later HB.out B_d.out) 1 rfl
  clear hw1 hb1 b_c b_d
  have P := Lib.hid (ha.later HB1.out)
  clear ha
  cases hf0 : decide ((l.length : Int) ≤ 60)
  all_goals
    have F0 := Lib.hid hf0
  · clear hf0
    go_enter Try.func7, Try.ntmps7
    go_wp2_with fail
    rw [HW.out]
    go_wp2_with fail
    refine (few_b false F0.out (P.out.later HB.out)).mono ?_
    rintro e wn ⟨rfl, hb⟩
    replace HB := Lib.hid (below_then HB.out (by first | exact hb | exact below_alloc_then hb | exact below_alloc_then (below_alloc_then hb)))
    clear hb c0 c1 c2 c3 c4 d0 d1
    have c0 := cell_of_box (bx_later HB.out B_c.out) 0 rfl
    have c1 := cell_of_box (bx_later HB.out B_c.out) 1 rfl
    have c2 := cell_of_box (bx_later HB.out B_c.out) 2 rfl
    have c3 := cell_of_box (bx_later HB.out B_c.out) 3 rfl
    have c4 := cell_of_box (bx_later HB.out B_c.out) 4 rfl
    have d0 := cell_of_box (bx_later HB.out B_d.out) 0 rfl
    have d1 := cell_of_box (bx_later HB.out B_d.out) 1 rfl
    go_wp2_with fail
    refine (alive_any _).mono ?_
    rintro e wn ⟨rfl, hb⟩
    replace HB := Lib.hid (below_then HB.out (by first | exact hb | exact below_alloc_then hb | exact below_alloc_then (below_alloc_then hb)))
    clear hb c0 c1 c2 c3 c4 d0 d1
    have c0 := cell_of_box (bx_later HB.out B_c.out) 0 rfl
    have c1 := cell_of_box (bx_later HB.out B_c.out) 1 rfl
    have c2 := cell_of_box (bx_later HB.out B_c.out) 2 rfl
    have c3 := cell_of_box (bx_later HB.out B_c.out) 3 rfl
    have c4 := cell_of_box (bx_later HB.out B_c.out) 4 rfl
    have d0 := cell_of_box (bx_later HB.out B_d.out) 0 rfl
    have d1 := cell_of_box (bx_later HB.out B_d.out) 1 rfl
    go_wp2_with fail
    go_ret
    exact ⟨by first | rfl | exact ret_bool (by simp), below_then HB1.out HB.out⟩
  · have hl0 : l.length ≤ 60 := by have := of_decide_eq_true hf0; omega
    clear hf0
    cases hr1 : rcQ kd ⟨ck, cn, cs⟩ l
    all_goals
      have F1 := Lib.hid hr1
      clear hr1
    · go_enter Try.func7, Try.ntmps7
      go_wp2_with fail
      rw [HW.out]
      go_wp2_with fail
      refine (few_b true F0.out (P.out.later HB.out)).mono ?_
      rintro e wn ⟨rfl, hb⟩
      replace HB := Lib.hid (below_then HB.out (by first | exact hb | exact below_alloc_then hb | exact below_alloc_then (below_alloc_then hb)))
      clear hb c0 c1 c2 c3 c4 d0 d1
      have c0 := cell_of_box (bx_later HB.out B_c.out) 0 rfl
      have c1 := cell_of_box (bx_later HB.out B_c.out) 1 rfl
      have c2 := cell_of_box (bx_later HB.out B_c.out) 2 rfl
      have c3 := cell_of_box (bx_later HB.out B_c.out) 3 rfl
      have c4 := cell_of_box (bx_later HB.out B_c.out) 4 rfl
      have d0 := cell_of_box (bx_later HB.out B_d.out) 0 rfl
      have d1 := cell_of_box (bx_later HB.out B_d.out) 1 rfl
      go_wp2_with fail
      refine (right_b false F1.out (P.out.later HB.out) (by omega)).mono ?_
      rintro e wn ⟨rfl, hb⟩
      replace HB := Lib.hid (below_then HB.out (by first | exact hb | exact below_alloc_then hb | exact below_alloc_then (below_alloc_then hb)))
      clear hb c0 c1 c2 c3 c4 d0 d1
      have c0 := cell_of_box (bx_later HB.out B_c.out) 0 rfl
      have c1 := cell_of_box (bx_later HB.out B_c.out) 1 rfl
      have c2 := cell_of_box (bx_later HB.out B_c.out) 2 rfl
      have c3 := cell_of_box (bx_later HB.out B_c.out) 3 rfl
      have c4 := cell_of_box (bx_later HB.out B_c.out) 4 rfl
      have d0 := cell_of_box (bx_later HB.out B_d.out) 0 rfl
      have d1 := cell_of_box (bx_later HB.out B_d.out) 1 rfl
      go_wp2_with fail
      refine (alive_any _).mono ?_
      rintro e wn ⟨rfl, hb⟩
      replace HB := Lib.hid (below_then HB.out (by first | exact hb | exact below_alloc_then hb | exact below_alloc_then (below_alloc_then hb)))
      clear hb c0 c1 c2 c3 c4 d0 d1
      have c0 := cell_of_box (bx_later HB.out B_c.out) 0 rfl
      have c1 := cell_of_box (bx_later HB.out B_c.out) 1 rfl
      have c2 := cell_of_box (bx_later HB.out B_c.out) 2 rfl
      have c3 := cell_of_box (bx_later HB.out B_c.out) 3 rfl
      have c4 := cell_of_box (bx_later HB.out B_c.out) 4 rfl
      have d0 := cell_of_box (bx_later HB.out B_d.out) 0 rfl
      have d1 := cell_of_box (bx_later HB.out B_d.out) 1 rfl
      go_wp2_with fail
      go_ret
      exact ⟨by first | rfl | exact ret_bool (by simp), below_then HB1.out HB.out⟩
    · have hrc := rcQ_iff.1 F1.out
      obtain ⟨m, hm⟩ : ∃ m, addQ l n ⟨dd, dq⟩ = m := ⟨_, rfl⟩
      obtain ⟨m2, hm2⟩ : ∃ m2, takeQ m n ⟨dd, dq⟩ (allV l) = m2 := ⟨_, rfl⟩
      have hlen := addQ_length l n ⟨dd, dq⟩
      have hlen2 := takeQ_length m n ⟨dd, dq⟩ (allV l)
      have hcp := count_put l n ⟨dd, dq⟩
      have hct := count_take hrc.ok n ⟨dd, dq⟩
      have hnl := numsL_len l
      have hnm := numsL_len m
      rw [hm] at hlen hcp hct
      rw [hm2] at hlen2 hct
      have OKS := Lib.hid hrc.ok
      have hml : m.length ≤ 1000 := by omega
      have hml2 : m2.length ≤ 1000 := by omega
      have hll : l.length ≤ 1000 := by omega
      have hll6 : l.length ≤ 1000000 := by omega
      obtain ⟨q, hq⟩ : ∃ q : Int, ((numsL l).length : Int) = q := ⟨_, rfl⟩
      obtain ⟨r, hr⟩ : ∃ r : Int, ((numsL m).length : Int) = r := ⟨_, rfl⟩
      obtain ⟨t, ht⟩ : ∃ t : Int, ((numsL m2).length : Int) = t := ⟨_, rfl⟩
      have hq1 : 0 ≤ q ∧ q ≤ 1000 := by omega
      have hr1 : 0 ≤ r ∧ r ≤ 1000 := by omega
      rw [hq, hr] at hcp
      rw [hr, ht] at hct
      have hw1 : IntKind.i64.wrap (r - 1) = t := by rw [IntKind.wrap_i64]; omega
      have HW1 := Lib.hid hw1
      have CQ := Lib.hid hq
      have CR := Lib.hid hr
      have CTT := Lib.hid ht
      have M := Lib.hid hm
      have M2 := Lib.hid hm2
      clear hm hm2 hlen hlen2 hct hnl hnm hrc hw1 hq hr ht
      cases hn : hasN l n
      all_goals
        have HNN := Lib.hid hn
        rw [hn] at hcp
        clear hn
      · have hqr : r = q + 1 := by simpa using hcp
        have hw2 : IntKind.i64.wrap (q + 1) = r := by rw [IntKind.wrap_i64]; omega
        have HW2 := Lib.hid hw2
        clear hw2 hcp hqr
        go_enter Try.func7, Try.ntmps7
        go_wp2_with fail
        rw [HW.out]
        go_wp2_with fail
        refine (few_b true F0.out (P.out.later HB.out)).mono ?_
        rintro e wn ⟨rfl, hb⟩
        replace HB := Lib.hid (below_then HB.out (by first | exact hb | exact below_alloc_then hb | exact below_alloc_then (below_alloc_then hb)))
        clear hb c0 c1 c2 c3 c4 d0 d1
        have c0 := cell_of_box (bx_later HB.out B_c.out) 0 rfl
        have c1 := cell_of_box (bx_later HB.out B_c.out) 1 rfl
        have c2 := cell_of_box (bx_later HB.out B_c.out) 2 rfl
        have c3 := cell_of_box (bx_later HB.out B_c.out) 3 rfl
        have c4 := cell_of_box (bx_later HB.out B_c.out) 4 rfl
        have d0 := cell_of_box (bx_later HB.out B_d.out) 0 rfl
        have d1 := cell_of_box (bx_later HB.out B_d.out) 1 rfl
        go_wp2_with fail
        refine (right_b true F1.out (P.out.later HB.out) (by omega)).mono ?_
        rintro e wn ⟨rfl, hb⟩
        replace HB := Lib.hid (below_then HB.out (by first | exact hb | exact below_alloc_then hb | exact below_alloc_then (below_alloc_then hb)))
        clear hb c0 c1 c2 c3 c4 d0 d1
        have c0 := cell_of_box (bx_later HB.out B_c.out) 0 rfl
        have c1 := cell_of_box (bx_later HB.out B_c.out) 1 rfl
        have c2 := cell_of_box (bx_later HB.out B_c.out) 2 rfl
        have c3 := cell_of_box (bx_later HB.out B_c.out) 3 rfl
        have c4 := cell_of_box (bx_later HB.out B_c.out) 4 rfl
        have d0 := cell_of_box (bx_later HB.out B_d.out) 0 rfl
        have d1 := cell_of_box (bx_later HB.out B_d.out) 1 rfl
        go_wp2_with fail
        refine (hasN_b false HNN.out (P.out.later HB.out) hll6).mono ?_
        rintro e wn ⟨rfl, hb⟩
        replace HB := Lib.hid (below_then HB.out (by first | exact hb | exact below_alloc_then hb | exact below_alloc_then (below_alloc_then hb)))
        clear hb c0 c1 c2 c3 c4 d0 d1
        have c0 := cell_of_box (bx_later HB.out B_c.out) 0 rfl
        have c1 := cell_of_box (bx_later HB.out B_c.out) 1 rfl
        have c2 := cell_of_box (bx_later HB.out B_c.out) 2 rfl
        have c3 := cell_of_box (bx_later HB.out B_c.out) 3 rfl
        have c4 := cell_of_box (bx_later HB.out B_c.out) 4 rfl
        have d0 := cell_of_box (bx_later HB.out B_d.out) 0 rfl
        have d1 := cell_of_box (bx_later HB.out B_d.out) 1 rfl
        go_wp2_with fail
        go_loopw [8, 28] (fun va vi wr => ∃ k : Nat, k ≤ l.length ∧ vi = .int .i64 k ∧ Hid (Rd wr va (allV (l.take k)).length ((allV (l.take k)).map ic)) ∧ Hid (Below w1.heap.size w1 wr)) (fun _ vi _ => l.length - (intOf vi).toNat)
        case atStart => exact ⟨0, Nat.zero_le _, rfl, rd_nilI _, HB.out⟩
        case round =>
          obtain ⟨k, hk, rfl, hva, hbw⟩ := hrel
          rename World => wr
          clear HB
          have HB := hbw
          clear c0 c1 c2 c3 c4 d0 d1
          have c0 := cell_of_box (bx_later HB.out B_c.out) 0 rfl
          have c1 := cell_of_box (bx_later HB.out B_c.out) 1 rfl
          have c2 := cell_of_box (bx_later HB.out B_c.out) 2 rfl
          have c3 := cell_of_box (bx_later HB.out B_c.out) 3 rfl
          have c4 := cell_of_box (bx_later HB.out B_c.out) 4 rfl
          have d0 := cell_of_box (bx_later HB.out B_d.out) 0 rfl
          have d1 := cell_of_box (bx_later HB.out B_d.out) 1 rfl
          by_cases hlt : k < l.length
          · obtain ⟨x, hx⟩ : ∃ x, l[k] = x := ⟨_, rfl⟩
            obtain ⟨b1, o1, x1, e0, e1, e2, e3, e4, e5, e6, e7, e8, e9, e10, _⟩ := rd_prt (P.out.later hbw.out) rfl k hlt hx
            have hnx := allV_next l k hlt
            rw [hx] at hnx
            have hok := okQ_num (OKS.out x (by rw [← hx]; exact List.getElem_mem hlt))
            have hal := (allV_take (fun p hp => (okQ_num (OKS.out p hp)).2.1) k (by omega)).1
            obtain ⟨A, hA⟩ : ∃ A, allV (l.take k) = A := ⟨_, rfl⟩
            rw [hA] at hnx hal hva
            clear hx
            obtain ⟨⟨xk, xn, xs⟩, ⟨xd, xq⟩, xat, xtm, ⟨xfd, xfq⟩, xaa, xg⟩ := x
            obtain ⟨-, ⟨hd1, hd2⟩, -⟩ := hok
            have hd1 : 1 ≤ xd := hd1
            have hd2 : xd ≤ 64 := hd2
            obtain ⟨f, hf⟩ : ∃ f, ofV A xd = f := ⟨_, rfl⟩
            obtain ⟨gm, hgm⟩ : ∃ gm, max f xq = gm := ⟨_, rfl⟩
            have hmx : max f xq = gm := hgm
            have hnx : allV (l.take (k + 1)) = setL A xd gm := by rw [hnx, ← hgm, ← hf]
            obtain ⟨A2, hA2⟩ : ∃ A2, setL A xd gm = A2 := ⟨_, rfl⟩
            rw [hA2] at hnx
            obtain ⟨w5, hw5⟩ : ∃ w5, wr.alloc (.cells #[.int .i64 xk, .int .i64 xn, .string xs, .int .i64 xd, .int .i64 xq, .int .i64 xat, .int .i64 xtm, .int .i64 xfd, .int .i64 xfq, .int .i64 xaa, .bool xg] 43) = w5 := ⟨_, rfl⟩
            have hbx : Below wr.heap.size wr w5 := by rw [← hw5]; exact below_alloc _ _
            have bx : Bx w5 wr.heap.size #[.int .i64 xk, .int .i64 xn, .string xs, .int .i64 xd, .int .i64 xq, .int .i64 xat, .int .i64 xtm, .int .i64 xfd, .int .i64 xfq, .int .i64 xaa, .bool xg] 43 := by rw [← hw5]; exact bx_new rfl
            have y0 := cell_of_box bx 0 rfl
            have y1 := cell_of_box bx 1 rfl
            have y2 := cell_of_box bx 2 rfl
            have y3 := cell_of_box bx 3 rfl
            have y4 := cell_of_box bx 4 rfl
            have y5 := cell_of_box bx 5 rfl
            have y6 := cell_of_box bx 6 rfl
            have y7 := cell_of_box bx 7 rfl
            have y8 := cell_of_box bx 8 rfl
            have y9 := cell_of_box bx 9 rfl
            have y10 := cell_of_box bx 10 rfl
            have HRA := Lib.hid (hva.out.later hbx)
            have HBX := Lib.hid (below_then hbw.out hbx)
            have HNX := Lib.hid hnx
            have HF := Lib.hid hf
            have HA2 := Lib.hid hA2
            have HW5 := Lib.hid hw5
            have hal5 : A.length ≤ 100000 := by omega
            have HMX := Lib.hid hmx
            clear hnx hf hA hA2 hw5 hbx bx hva hgm hmx
            go_wp2_with fail
            rw [HW5.out]
            clear e0 e1 e2 e3 e4 e5 e6 e7 e8 e9 e10
            refine wp_region_flow (by kernel_rfl) 15 [(8, ⟨fun v => v = .int .i64 f, fun _ _ _ _ => True⟩), (12, ⟨fun v => v = .int .i64 gm, fun _ _ _ _ => True⟩), (13, ⟨fun _ => True, fun v _ _ w' => Rd w' v A2.length (A2.map ic)⟩)] (by kernel_rfl) ?_ ?_ ?_
            · intro x hx
              simp only [List.mem_cons, List.not_mem_nil, or_false] at hx
              rcases hx with rfl | rfl | rfl
              · exact ⟨_, rfl⟩
              · exact ⟨_, rfl⟩
              · exact ⟨undef, trivial⟩
            · intro x hx v lo hi w w' h hb
              simp only [List.mem_cons, List.not_mem_nil, or_false] at hx
              rcases hx with rfl | rfl | rfl
              · exact trivial
              · exact trivial
              · exact h.later hb
            · intro lo hi
              have ky0 := cell_regrown y0
              have ky1 := cell_regrown y1
              have ky2 := cell_regrown y2
              have ky3 := cell_regrown y3
              have ky4 := cell_regrown y4
              have ky5 := cell_regrown y5
              have ky6 := cell_regrown y6
              have ky7 := cell_regrown y7
              have ky8 := cell_regrown y8
              have ky9 := cell_regrown y9
              have ky10 := cell_regrown y10
              refine flowW_plain rfl ?_
              go_big_quiet_step (fail)
              refine wpQuiet_nil ?_
              refine flowW_plain rfl ?_
              go_big_quiet_step (fail)
              refine wpQuiet_nil ?_
              refine flowW_plain rfl ?_
              go_big_quiet_step (fail)
              refine wpQuiet_nil ?_
              refine flowW_plain rfl ?_
              go_big_quiet_step (fail)
              refine wpQuiet_nil ?_
              refine flowW_plain rfl ?_
              go_big_quiet_step (fail)
              refine wpQuiet_nil ?_
              refine flowW_plain rfl ?_
              go_big_quiet_step (fail)
              refine wpQuiet_nil ?_
              refine flowW_plain rfl ?_
              go_big_quiet_step (fail)
              refine wpQuiet_nil ?_
              refine flowW_plain rfl ?_
              go_big_quiet_step (fail)
              refine wpQuiet_nil ?_
              refine flowW_call rfl rfl ?_ ?_
              · intro W hW hF K hK
                clear ky0 ky1 ky2 ky3 ky4 ky5 ky6 ky7 ky8 ky9 ky10
                go_wp2_with fail
                refine (refOfV_any _ A xd _ (HRA.out.later hW)).mono ?_
                rintro e wq ⟨rfl, rfl⟩
                rw [HF.out]
                go_wp2_with fail
                exact hK _ _ rfl trivial (Below.refl _ _)
              rintro v rfl K hK
              go_simp
              refine hK _ ?_
              clear hK K
              refine flowW_plain rfl ?_
              go_big_quiet_step (fail)
              refine wpQuiet_nil ?_
              refine flowW_plain rfl ?_
              go_big_quiet_step (fail)
              refine wpQuiet_nil ?_
              refine flowW_plain rfl ?_
              go_big_quiet_step (fail)
              refine wpQuiet_nil ?_
              refine flowW_call rfl rfl ?_ ?_
              · intro W hW hF K hK
                clear ky0 ky1 ky2 ky3 ky4 ky5 ky6 ky7 ky8 ky9 ky10
                go_wp2_with fail
                exact hK _ _ (congrArg (Value.int .i64) HMX.out) trivial (Below.refl _ _)
              rintro v rfl K hK
              go_simp
              refine hK _ ?_
              clear hK K
              refine flowW_call rfl rfl ?_ ?_
              · intro W hW hF K hK
                clear ky0 ky1 ky2 ky3 ky4 ky5 ky6 ky7 ky8 ky9 ky10
                go_wp2_with fail
                have hset := refSet_any _ A xd gm _ (HRA.out.later hW) hd1 hd2 hal5
                rw [HA2.out] at hset
                refine hset.mono ?_
                rintro e wq ⟨v, rfl, ho, hbq⟩
                go_wp2_with fail
                exact hK _ _ trivial ho hbq
              rintro v ⟨⟩ K hK
              go_simp
              refine hK _ ?_
              clear hK K
              refine flowW_plain rfl ?_
              go_big_quiet_step (fail)
              refine wpQuiet_nil ?_
              refine flowW_end fun wz hwz hF hD => ?_
              clear ky0 ky1 ky2 ky3 ky4 ky5 ky6 ky7 ky8 ky9 ky10
              simp only [List.drop_succ_cons, List.drop_zero]
              have HR5 := Lib.hid (hF 13)
              have HB5 := Lib.hid (below_then HBX.out hwz)
              clear hF hD hwz
              go_wp2_with fail
              go_roundw
              case rel => exact ⟨k + 1, by omega, by go_num, by rw [HNX.out]; exact HR5.out, HB5.out⟩
              case measure => simp [intOf]; omega
          · obtain rfl : k = l.length := by omega
            have hva' := hva.out
            rw [List.take_length] at hva'
            have HVA := Lib.hid hva'
            clear hva hva' hbw
            have hbn := below_then HB.out (Below.refl wr.heap.size wr)
            clear c0 c1 c2 c3 c4 d0 d1
            replace B_c := Lib.hid (bx_later hbn B_c.out)
            replace B_d := Lib.hid (bx_later hbn B_d.out)
            replace P := Lib.hid (P.out.later hbn)
            replace HB1 := Lib.hid (below_then HB1.out hbn)
            clear HB hbn
            have HB := Lib.hid (Below.refl wr.heap.size wr)
            have c0 := cell_of_box (bx_later HB.out B_c.out) 0 rfl
            have c1 := cell_of_box (bx_later HB.out B_c.out) 1 rfl
            have c2 := cell_of_box (bx_later HB.out B_c.out) 2 rfl
            have c3 := cell_of_box (bx_later HB.out B_c.out) 3 rfl
            have c4 := cell_of_box (bx_later HB.out B_c.out) 4 rfl
            have d0 := cell_of_box (bx_later HB.out B_d.out) 0 rfl
            have d1 := cell_of_box (bx_later HB.out B_d.out) 1 rfl
            go_wp2_with fail
            refine (put_o (P.out.later HB.out) hll M.out).mono ?_
            rintro e wn ⟨a_u, k_u, rfl, ho, hb⟩
            have P_u := Lib.hid (Rd.of_own ho)
            replace HB := Lib.hid (below_then HB.out (by first | exact hb | exact below_alloc_then hb))
            clear hb ho c0 c1 c2 c3 c4 d0 d1
            go_upto_region 13 with fail
            obtain ⟨w2, hnew⟩ : ∃ w2, wn.alloc (.cells #[(.int .i64 kd), (.int .i64 ck), (.int .i64 cn), (.string cs), (.slice a_u m.length k_u)] 26) = w2 := ⟨_, rfl⟩
            have hbw : Below wn.heap.size wn w2 := by rw [← hnew]; exact below_alloc _ _
            have bnew : Bx w2 wn.heap.size #[(.int .i64 kd), (.int .i64 ck), (.int .i64 cn), (.string cs), (.slice a_u m.length k_u)] 26 := by rw [← hnew]; exact bx_new rfl
            rw [hnew]
            clear hnew
            obtain ⟨g_u, hg⟩ : ∃ g, wn.heap.size = g := ⟨_, rfl⟩
            rw [hg] at bnew ⊢
            replace P_u := Lib.hid (P_u.out.later hbw)
            have hbn := below_then HB.out hbw
            replace B_c := Lib.hid (bx_later hbn B_c.out)
            replace B_d := Lib.hid (bx_later hbn B_d.out)
            replace P := Lib.hid (P.out.later hbn)
            replace HVA := Lib.hid (HVA.out.later hbn)
            replace HB1 := Lib.hid (below_then HB1.out hbn)
            clear HB hbn hbw hg
            have HB := Lib.hid (Below.refl w2.heap.size w2)
            have B_u := Lib.hid bnew
            clear bnew
            have c0 := cell_of_box (bx_later HB.out B_c.out) 0 rfl
            have c1 := cell_of_box (bx_later HB.out B_c.out) 1 rfl
            have c2 := cell_of_box (bx_later HB.out B_c.out) 2 rfl
            have c3 := cell_of_box (bx_later HB.out B_c.out) 3 rfl
            have c4 := cell_of_box (bx_later HB.out B_c.out) 4 rfl
            have d0 := cell_of_box (bx_later HB.out B_d.out) 0 rfl
            have d1 := cell_of_box (bx_later HB.out B_d.out) 1 rfl
            have u0 := cell_of_box (bx_later HB.out B_u.out) 0 rfl
            have u1 := cell_of_box (bx_later HB.out B_u.out) 1 rfl
            have u2 := cell_of_box (bx_later HB.out B_u.out) 2 rfl
            have u3 := cell_of_box (bx_later HB.out B_u.out) 3 rfl
            have u4 := cell_of_box (bx_later HB.out B_u.out) 4 rfl
            go_wp2_with fail
            refine (take_o (allV l) (P_u.out.later HB.out) (HVA.out.later HB.out) hml M2.out).mono ?_
            rintro e wn ⟨a_t, k_t, rfl, ho, hb⟩
            have P_t := Lib.hid (Rd.of_own ho)
            replace HB := Lib.hid (below_then HB.out (by first | exact hb | exact below_alloc_then hb))
            clear hb ho c0 c1 c2 c3 c4 d0 d1 u0 u1 u2 u3 u4
            go_upto_region 14 with fail
            obtain ⟨w3, hnew⟩ : ∃ w3, wn.alloc (.cells #[(.int .i64 kd), (.int .i64 ck), (.int .i64 cn), (.string cs), (.slice a_t m2.length k_t)] 26) = w3 := ⟨_, rfl⟩
            have hbw : Below wn.heap.size wn w3 := by rw [← hnew]; exact below_alloc _ _
            have bnew : Bx w3 wn.heap.size #[(.int .i64 kd), (.int .i64 ck), (.int .i64 cn), (.string cs), (.slice a_t m2.length k_t)] 26 := by rw [← hnew]; exact bx_new rfl
            rw [hnew]
            clear hnew
            obtain ⟨g_t, hg⟩ : ∃ g, wn.heap.size = g := ⟨_, rfl⟩
            rw [hg] at bnew ⊢
            replace P_t := Lib.hid (P_t.out.later hbw)
            have hbn := below_then HB.out hbw
            replace B_c := Lib.hid (bx_later hbn B_c.out)
            replace B_d := Lib.hid (bx_later hbn B_d.out)
            replace B_u := Lib.hid (bx_later hbn B_u.out)
            replace P := Lib.hid (P.out.later hbn)
            replace HVA := Lib.hid (HVA.out.later hbn)
            replace P_u := Lib.hid (P_u.out.later hbn)
            replace HB1 := Lib.hid (below_then HB1.out hbn)
            clear HB hbn hbw hg
            have HB := Lib.hid (Below.refl w3.heap.size w3)
            have B_t := Lib.hid bnew
            clear bnew
            have c0 := cell_of_box (bx_later HB.out B_c.out) 0 rfl
            have c1 := cell_of_box (bx_later HB.out B_c.out) 1 rfl
            have c2 := cell_of_box (bx_later HB.out B_c.out) 2 rfl
            have c3 := cell_of_box (bx_later HB.out B_c.out) 3 rfl
            have c4 := cell_of_box (bx_later HB.out B_c.out) 4 rfl
            have d0 := cell_of_box (bx_later HB.out B_d.out) 0 rfl
            have d1 := cell_of_box (bx_later HB.out B_d.out) 1 rfl
            have u0 := cell_of_box (bx_later HB.out B_u.out) 0 rfl
            have u1 := cell_of_box (bx_later HB.out B_u.out) 1 rfl
            have u2 := cell_of_box (bx_later HB.out B_u.out) 2 rfl
            have u3 := cell_of_box (bx_later HB.out B_u.out) 3 rfl
            have u4 := cell_of_box (bx_later HB.out B_u.out) 4 rfl
            have t0 := cell_of_box (bx_later HB.out B_t.out) 0 rfl
            have t1 := cell_of_box (bx_later HB.out B_t.out) 1 rfl
            have t2 := cell_of_box (bx_later HB.out B_t.out) 2 rfl
            have t3 := cell_of_box (bx_later HB.out B_t.out) 3 rfl
            have t4 := cell_of_box (bx_later HB.out B_t.out) 4 rfl
            have hfd0 : ∀ (r : Int) (W : World), Sem.run Try.prog (Instr.field 23 (.agg #[.int .i64 1, .int .i64 r, .string ⟨#[]⟩]) 0) W = .ok (.int .i64 1) W := fun _ _ => by kernel_rfl
            have hfd1 : ∀ (r : Int) (W : World), Sem.run Try.prog (Instr.field 23 (.agg #[.int .i64 1, .int .i64 r, .string ⟨#[]⟩]) 1) W = .ok (.int .i64 r) W := fun _ _ => by kernel_rfl
            have hw1 := HW1.out
            have hw2 := HW2.out
            refine wp_region_flow (by kernel_rfl) 29 [(0, ⟨fun v => v = .bool true, fun _ _ _ _ => True⟩), (3, ⟨fun v => v = .agg #[.int .i64 1, .int .i64 r, .string ⟨#[]⟩], fun _ _ _ _ => True⟩), (4, ⟨fun v => v = .int .i64 r, fun _ _ _ _ => True⟩), (6, ⟨fun v => v = .agg #[.int .i64 1, .int .i64 q, .string ⟨#[]⟩], fun _ _ _ _ => True⟩), (7, ⟨fun v => v = .int .i64 q, fun _ _ _ _ => True⟩), (14, ⟨fun v => v = .agg #[.int .i64 1, .int .i64 t, .string ⟨#[]⟩], fun _ _ _ _ => True⟩), (15, ⟨fun v => v = .int .i64 t, fun _ _ _ _ => True⟩), (17, ⟨fun v => v = .agg #[.int .i64 1, .int .i64 r, .string ⟨#[]⟩], fun _ _ _ _ => True⟩), (18, ⟨fun v => v = .int .i64 r, fun _ _ _ _ => True⟩), (24, ⟨fun v => v = .agg #[.int .i64 1, .int .i64 q, .string ⟨#[]⟩], fun _ _ _ _ => True⟩), (25, ⟨fun v => v = .int .i64 1, fun _ _ _ _ => True⟩)] (by kernel_rfl) ?_ ?_ ?_
            · intro x hx
              simp only [List.mem_cons, List.not_mem_nil, or_false] at hx
              rcases hx with rfl | rfl | rfl | rfl | rfl | rfl | rfl | rfl | rfl | rfl | rfl
              · exact ⟨_, rfl⟩
              · exact ⟨_, rfl⟩
              · exact ⟨_, rfl⟩
              · exact ⟨_, rfl⟩
              · exact ⟨_, rfl⟩
              · exact ⟨_, rfl⟩
              · exact ⟨_, rfl⟩
              · exact ⟨_, rfl⟩
              · exact ⟨_, rfl⟩
              · exact ⟨_, rfl⟩
              · exact ⟨_, rfl⟩
            · intro x hx v lo hi w w' h hb
              simp only [List.mem_cons, List.not_mem_nil, or_false] at hx
              rcases hx with rfl | rfl | rfl | rfl | rfl | rfl | rfl | rfl | rfl | rfl | rfl
              · exact trivial
              · exact trivial
              · exact trivial
              · exact trivial
              · exact trivial
              · exact trivial
              · exact trivial
              · exact trivial
              · exact trivial
              · exact trivial
              · exact trivial
            · intro lo hi
              have kc0 := cell_regrown c0
              have kc1 := cell_regrown c1
              have kc2 := cell_regrown c2
              have kc3 := cell_regrown c3
              have kc4 := cell_regrown c4
              have kd0 := cell_regrown d0
              have kd1 := cell_regrown d1
              have ku0 := cell_regrown u0
              have ku1 := cell_regrown u1
              have ku2 := cell_regrown u2
              have ku3 := cell_regrown u3
              have ku4 := cell_regrown u4
              have kt0 := cell_regrown t0
              have kt1 := cell_regrown t1
              have kt2 := cell_regrown t2
              have kt3 := cell_regrown t3
              have kt4 := cell_regrown t4
              refine flowW_call rfl rfl ?_ ?_
              · intro W hW hF K hK
                clear kc0 kc1 kc2 kc3 kc4 kd0 kd1 ku0 ku1 ku2 ku3 ku4 kt0 kt1 kt2 kt3 kt4
                go_wp2_with fail
                refine (alive_any _).mono ?_
                rintro e wq ⟨rfl, hbq⟩
                go_wp2_with fail
                exact hK _ _ rfl trivial hbq
              rintro v rfl K hK
              go_simp
              refine hK _ ?_
              clear hK K
              refine flowW_plain rfl ?_
              go_big_quiet_step (fail)
              refine wpQuiet_nil ?_
              refine flowW_plain rfl ?_
              go_big_quiet_step (fail)
              refine wpQuiet_nil ?_
              refine flowW_call rfl rfl ?_ ?_
              · intro W hW hF K hK
                clear kc0 kc1 kc2 kc3 kc4 kd0 kd1 ku0 ku1 ku2 ku3 ku4 kt0 kt1 kt2 kt3 kt4
                go_wp2_with fail
                refine (show_p (P_u.out.later (below_then HB.out hW)) hml CR.out).mono ?_
                rintro e wq ⟨rfl, hbq⟩
                go_wp2_with fail
                exact hK _ _ rfl trivial hbq
              rintro v rfl K hK
              go_simp
              refine hK _ ?_
              clear hK K
              refine flowW_call rfl rfl ?_ ?_
              · intro W hW hF K hK
                clear kc0 kc1 kc2 kc3 kc4 kd0 kd1 ku0 ku1 ku2 ku3 ku4 kt0 kt1 kt2 kt3 kt4
                go_wp2_with fail
                first
                  | exact hK _ _ rfl trivial (Below.refl _ _)
                  | (rw [hfd1]; go_wp2_with fail; exact hK _ _ rfl trivial (Below.refl _ _))
              rintro v rfl K hK
              go_simp
              refine hK _ ?_
              clear hK K
              refine flowW_plain rfl ?_
              go_big_quiet_step (fail)
              refine wpQuiet_nil ?_
              refine flowW_call rfl rfl ?_ ?_
              · intro W hW hF K hK
                clear kc0 kc1 kc2 kc3 kc4 kd0 kd1 ku0 ku1 ku2 ku3 ku4 kt0 kt1 kt2 kt3 kt4
                go_wp2_with fail
                refine (show_p (P.out.later (below_then HB.out hW)) hll CQ.out).mono ?_
                rintro e wq ⟨rfl, hbq⟩
                go_wp2_with fail
                exact hK _ _ rfl trivial hbq
              rintro v rfl K hK
              go_simp
              refine hK _ ?_
              clear hK K
              refine flowW_call rfl rfl ?_ ?_
              · intro W hW hF K hK
                clear kc0 kc1 kc2 kc3 kc4 kd0 kd1 ku0 ku1 ku2 ku3 ku4 kt0 kt1 kt2 kt3 kt4
                go_wp2_with fail
                first
                  | exact hK _ _ rfl trivial (Below.refl _ _)
                  | (rw [hfd1]; go_wp2_with fail; exact hK _ _ rfl trivial (Below.refl _ _))
              rintro v rfl K hK
              go_simp
              refine hK _ ?_
              clear hK K
              refine flowW_plain rfl ?_
              go_big_quiet_step (fail)
              refine wpQuiet_nil ?_
              refine flowW_plain rfl ?_
              go_big_quiet_step (fail)
              refine wpQuiet_nil ?_
              refine flowW_plain rfl ?_
              go_big_quiet_step (fail)
              refine wpQuiet_nil ?_
              refine flowW_plain rfl ?_
              go_big_quiet_step (fail)
              refine wpQuiet_nil ?_
              refine flowW_plain rfl ?_
              go_big_quiet_step (fail)
              refine wpQuiet_nil ?_
              refine flowW_plain rfl ?_
              go_big_quiet_step (fail)
              refine wpQuiet_nil ?_
              refine flowW_call rfl rfl ?_ ?_
              · intro W hW hF K hK
                clear kc0 kc1 kc2 kc3 kc4 kd0 kd1 ku0 ku1 ku2 ku3 ku4 kt0 kt1 kt2 kt3 kt4
                go_wp2_with fail
                refine (show_p (P_t.out.later (below_then HB.out hW)) hml2 CTT.out).mono ?_
                rintro e wq ⟨rfl, hbq⟩
                go_wp2_with fail
                exact hK _ _ rfl trivial hbq
              rintro v rfl K hK
              go_simp
              refine hK _ ?_
              clear hK K
              refine flowW_call rfl rfl ?_ ?_
              · intro W hW hF K hK
                clear kc0 kc1 kc2 kc3 kc4 kd0 kd1 ku0 ku1 ku2 ku3 ku4 kt0 kt1 kt2 kt3 kt4
                go_wp2_with fail
                first
                  | exact hK _ _ rfl trivial (Below.refl _ _)
                  | (rw [hfd1]; go_wp2_with fail; exact hK _ _ rfl trivial (Below.refl _ _))
              rintro v rfl K hK
              go_simp
              refine hK _ ?_
              clear hK K
              refine flowW_plain rfl ?_
              go_big_quiet_step (fail)
              refine wpQuiet_nil ?_
              refine flowW_call rfl rfl ?_ ?_
              · intro W hW hF K hK
                clear kc0 kc1 kc2 kc3 kc4 kd0 kd1 ku0 ku1 ku2 ku3 ku4 kt0 kt1 kt2 kt3 kt4
                go_wp2_with fail
                refine (show_p (P_u.out.later (below_then HB.out hW)) hml CR.out).mono ?_
                rintro e wq ⟨rfl, hbq⟩
                go_wp2_with fail
                exact hK _ _ rfl trivial hbq
              rintro v rfl K hK
              go_simp
              refine hK _ ?_
              clear hK K
              refine flowW_call rfl rfl ?_ ?_
              · intro W hW hF K hK
                clear kc0 kc1 kc2 kc3 kc4 kd0 kd1 ku0 ku1 ku2 ku3 ku4 kt0 kt1 kt2 kt3 kt4
                go_wp2_with fail
                first
                  | exact hK _ _ rfl trivial (Below.refl _ _)
                  | (rw [hfd1]; go_wp2_with fail; exact hK _ _ rfl trivial (Below.refl _ _))
              rintro v rfl K hK
              go_simp
              refine hK _ ?_
              clear hK K
              refine flowW_plain rfl ?_
              go_big_quiet_step (fail)
              refine wpQuiet_nil ?_
              refine flowW_plain rfl ?_
              go_big_quiet_step (fail)
              refine wpQuiet_nil ?_
              refine flowW_plain rfl ?_
              go_big_quiet_step (fail)
              refine wpQuiet_nil ?_
              refine flowW_plain rfl ?_
              go_big_quiet_step (fail)
              refine wpQuiet_nil ?_
              refine flowW_plain rfl ?_
              go_big_quiet_step (fail)
              refine wpQuiet_nil ?_
              refine flowW_call rfl rfl ?_ ?_
              · intro W hW hF K hK
                clear kc0 kc1 kc2 kc3 kc4 kd0 kd1 ku0 ku1 ku2 ku3 ku4 kt0 kt1 kt2 kt3 kt4
                go_wp2_with fail
                refine (show_p (P.out.later (below_then HB.out hW)) hll CQ.out).mono ?_
                rintro e wq ⟨rfl, hbq⟩
                go_wp2_with fail
                exact hK _ _ rfl trivial hbq
              rintro v rfl K hK
              go_simp
              refine hK _ ?_
              clear hK K
              refine flowW_call rfl rfl ?_ ?_
              · intro W hW hF K hK
                clear kc0 kc1 kc2 kc3 kc4 kd0 kd1 ku0 ku1 ku2 ku3 ku4 kt0 kt1 kt2 kt3 kt4
                go_wp2_with fail
                first
                  | exact hK _ _ rfl trivial (Below.refl _ _)
                  | (rw [hfd0]; go_wp2_with fail; exact hK _ _ rfl trivial (Below.refl _ _))
              rintro v rfl K hK
              go_simp
              refine hK _ ?_
              clear hK K
              refine flowW_plain rfl ?_
              go_big_quiet_step (fail)
              refine wpQuiet_nil ?_
              refine flowW_plain rfl ?_
              go_big_quiet_step (fail)
              refine wpQuiet_nil ?_
              refine flowW_plain rfl ?_
              go_big_quiet_step (fail)
              refine wpQuiet_nil ?_
              refine flowW_end fun wz hwz hF hD => ?_
              clear kc0 kc1 kc2 kc3 kc4 kd0 kd1 ku0 ku1 ku2 ku3 ku4 kt0 kt1 kt2 kt3 kt4
              simp only [List.drop_succ_cons, List.drop_zero]
              replace HB := Lib.hid (below_then HB.out hwz)
              clear hwz hF hD c0 c1 c2 c3 c4 d0 d1 u0 u1 u2 u3 u4 t0 t1 t2 t3 t4
              have c0 := cell_of_box (bx_later HB.out B_c.out) 0 rfl
              have c1 := cell_of_box (bx_later HB.out B_c.out) 1 rfl
              have c2 := cell_of_box (bx_later HB.out B_c.out) 2 rfl
              have c3 := cell_of_box (bx_later HB.out B_c.out) 3 rfl
              have c4 := cell_of_box (bx_later HB.out B_c.out) 4 rfl
              have d0 := cell_of_box (bx_later HB.out B_d.out) 0 rfl
              have d1 := cell_of_box (bx_later HB.out B_d.out) 1 rfl
              have u0 := cell_of_box (bx_later HB.out B_u.out) 0 rfl
              have u1 := cell_of_box (bx_later HB.out B_u.out) 1 rfl
              have u2 := cell_of_box (bx_later HB.out B_u.out) 2 rfl
              have u3 := cell_of_box (bx_later HB.out B_u.out) 3 rfl
              have u4 := cell_of_box (bx_later HB.out B_u.out) 4 rfl
              have t0 := cell_of_box (bx_later HB.out B_t.out) 0 rfl
              have t1 := cell_of_box (bx_later HB.out B_t.out) 1 rfl
              have t2 := cell_of_box (bx_later HB.out B_t.out) 2 rfl
              have t3 := cell_of_box (bx_later HB.out B_t.out) 3 rfl
              have t4 := cell_of_box (bx_later HB.out B_t.out) 4 rfl
              go_wp2_with fail
              go_ret
              exact ⟨by first | rfl | exact ret_bool (by simp), below_then HB1.out HB.out⟩
      · have hqr : r = q := by simpa using hcp
        subst hqr
        have hw2 : IntKind.i64.wrap r = r := by rw [IntKind.wrap_i64]; omega
        have HW2 := Lib.hid hw2
        clear hw2 hcp
        go_enter Try.func7, Try.ntmps7
        go_wp2_with fail
        rw [HW.out]
        go_wp2_with fail
        refine (few_b true F0.out (P.out.later HB.out)).mono ?_
        rintro e wn ⟨rfl, hb⟩
        replace HB := Lib.hid (below_then HB.out (by first | exact hb | exact below_alloc_then hb | exact below_alloc_then (below_alloc_then hb)))
        clear hb c0 c1 c2 c3 c4 d0 d1
        have c0 := cell_of_box (bx_later HB.out B_c.out) 0 rfl
        have c1 := cell_of_box (bx_later HB.out B_c.out) 1 rfl
        have c2 := cell_of_box (bx_later HB.out B_c.out) 2 rfl
        have c3 := cell_of_box (bx_later HB.out B_c.out) 3 rfl
        have c4 := cell_of_box (bx_later HB.out B_c.out) 4 rfl
        have d0 := cell_of_box (bx_later HB.out B_d.out) 0 rfl
        have d1 := cell_of_box (bx_later HB.out B_d.out) 1 rfl
        go_wp2_with fail
        refine (right_b true F1.out (P.out.later HB.out) (by omega)).mono ?_
        rintro e wn ⟨rfl, hb⟩
        replace HB := Lib.hid (below_then HB.out (by first | exact hb | exact below_alloc_then hb | exact below_alloc_then (below_alloc_then hb)))
        clear hb c0 c1 c2 c3 c4 d0 d1
        have c0 := cell_of_box (bx_later HB.out B_c.out) 0 rfl
        have c1 := cell_of_box (bx_later HB.out B_c.out) 1 rfl
        have c2 := cell_of_box (bx_later HB.out B_c.out) 2 rfl
        have c3 := cell_of_box (bx_later HB.out B_c.out) 3 rfl
        have c4 := cell_of_box (bx_later HB.out B_c.out) 4 rfl
        have d0 := cell_of_box (bx_later HB.out B_d.out) 0 rfl
        have d1 := cell_of_box (bx_later HB.out B_d.out) 1 rfl
        go_wp2_with fail
        refine (hasN_b true HNN.out (P.out.later HB.out) hll6).mono ?_
        rintro e wn ⟨rfl, hb⟩
        replace HB := Lib.hid (below_then HB.out (by first | exact hb | exact below_alloc_then hb | exact below_alloc_then (below_alloc_then hb)))
        clear hb c0 c1 c2 c3 c4 d0 d1
        have c0 := cell_of_box (bx_later HB.out B_c.out) 0 rfl
        have c1 := cell_of_box (bx_later HB.out B_c.out) 1 rfl
        have c2 := cell_of_box (bx_later HB.out B_c.out) 2 rfl
        have c3 := cell_of_box (bx_later HB.out B_c.out) 3 rfl
        have c4 := cell_of_box (bx_later HB.out B_c.out) 4 rfl
        have d0 := cell_of_box (bx_later HB.out B_d.out) 0 rfl
        have d1 := cell_of_box (bx_later HB.out B_d.out) 1 rfl
        go_wp2_with fail
        go_loopw [8, 28] (fun va vi wr => ∃ k : Nat, k ≤ l.length ∧ vi = .int .i64 k ∧ Hid (Rd wr va (allV (l.take k)).length ((allV (l.take k)).map ic)) ∧ Hid (Below w1.heap.size w1 wr)) (fun _ vi _ => l.length - (intOf vi).toNat)
        case atStart => exact ⟨0, Nat.zero_le _, rfl, rd_nilI _, HB.out⟩
        case round =>
          obtain ⟨k, hk, rfl, hva, hbw⟩ := hrel
          rename World => wr
          clear HB
          have HB := hbw
          clear c0 c1 c2 c3 c4 d0 d1
          have c0 := cell_of_box (bx_later HB.out B_c.out) 0 rfl
          have c1 := cell_of_box (bx_later HB.out B_c.out) 1 rfl
          have c2 := cell_of_box (bx_later HB.out B_c.out) 2 rfl
          have c3 := cell_of_box (bx_later HB.out B_c.out) 3 rfl
          have c4 := cell_of_box (bx_later HB.out B_c.out) 4 rfl
          have d0 := cell_of_box (bx_later HB.out B_d.out) 0 rfl
          have d1 := cell_of_box (bx_later HB.out B_d.out) 1 rfl
          by_cases hlt : k < l.length
          · obtain ⟨x, hx⟩ : ∃ x, l[k] = x := ⟨_, rfl⟩
            obtain ⟨b1, o1, x1, e0, e1, e2, e3, e4, e5, e6, e7, e8, e9, e10, _⟩ := rd_prt (P.out.later hbw.out) rfl k hlt hx
            have hnx := allV_next l k hlt
            rw [hx] at hnx
            have hok := okQ_num (OKS.out x (by rw [← hx]; exact List.getElem_mem hlt))
            have hal := (allV_take (fun p hp => (okQ_num (OKS.out p hp)).2.1) k (by omega)).1
            obtain ⟨A, hA⟩ : ∃ A, allV (l.take k) = A := ⟨_, rfl⟩
            rw [hA] at hnx hal hva
            clear hx
            obtain ⟨⟨xk, xn, xs⟩, ⟨xd, xq⟩, xat, xtm, ⟨xfd, xfq⟩, xaa, xg⟩ := x
            obtain ⟨-, ⟨hd1, hd2⟩, -⟩ := hok
            have hd1 : 1 ≤ xd := hd1
            have hd2 : xd ≤ 64 := hd2
            obtain ⟨f, hf⟩ : ∃ f, ofV A xd = f := ⟨_, rfl⟩
            obtain ⟨gm, hgm⟩ : ∃ gm, max f xq = gm := ⟨_, rfl⟩
            have hmx : max f xq = gm := hgm
            have hnx : allV (l.take (k + 1)) = setL A xd gm := by rw [hnx, ← hgm, ← hf]
            obtain ⟨A2, hA2⟩ : ∃ A2, setL A xd gm = A2 := ⟨_, rfl⟩
            rw [hA2] at hnx
            obtain ⟨w5, hw5⟩ : ∃ w5, wr.alloc (.cells #[.int .i64 xk, .int .i64 xn, .string xs, .int .i64 xd, .int .i64 xq, .int .i64 xat, .int .i64 xtm, .int .i64 xfd, .int .i64 xfq, .int .i64 xaa, .bool xg] 43) = w5 := ⟨_, rfl⟩
            have hbx : Below wr.heap.size wr w5 := by rw [← hw5]; exact below_alloc _ _
            have bx : Bx w5 wr.heap.size #[.int .i64 xk, .int .i64 xn, .string xs, .int .i64 xd, .int .i64 xq, .int .i64 xat, .int .i64 xtm, .int .i64 xfd, .int .i64 xfq, .int .i64 xaa, .bool xg] 43 := by rw [← hw5]; exact bx_new rfl
            have y0 := cell_of_box bx 0 rfl
            have y1 := cell_of_box bx 1 rfl
            have y2 := cell_of_box bx 2 rfl
            have y3 := cell_of_box bx 3 rfl
            have y4 := cell_of_box bx 4 rfl
            have y5 := cell_of_box bx 5 rfl
            have y6 := cell_of_box bx 6 rfl
            have y7 := cell_of_box bx 7 rfl
            have y8 := cell_of_box bx 8 rfl
            have y9 := cell_of_box bx 9 rfl
            have y10 := cell_of_box bx 10 rfl
            have HRA := Lib.hid (hva.out.later hbx)
            have HBX := Lib.hid (below_then hbw.out hbx)
            have HNX := Lib.hid hnx
            have HF := Lib.hid hf
            have HA2 := Lib.hid hA2
            have HW5 := Lib.hid hw5
            have hal5 : A.length ≤ 100000 := by omega
            have HMX := Lib.hid hmx
            clear hnx hf hA hA2 hw5 hbx bx hva hgm hmx
            go_wp2_with fail
            rw [HW5.out]
            clear e0 e1 e2 e3 e4 e5 e6 e7 e8 e9 e10
            refine wp_region_flow (by kernel_rfl) 15 [(8, ⟨fun v => v = .int .i64 f, fun _ _ _ _ => True⟩), (12, ⟨fun v => v = .int .i64 gm, fun _ _ _ _ => True⟩), (13, ⟨fun _ => True, fun v _ _ w' => Rd w' v A2.length (A2.map ic)⟩)] (by kernel_rfl) ?_ ?_ ?_
            · intro x hx
              simp only [List.mem_cons, List.not_mem_nil, or_false] at hx
              rcases hx with rfl | rfl | rfl
              · exact ⟨_, rfl⟩
              · exact ⟨_, rfl⟩
              · exact ⟨undef, trivial⟩
            · intro x hx v lo hi w w' h hb
              simp only [List.mem_cons, List.not_mem_nil, or_false] at hx
              rcases hx with rfl | rfl | rfl
              · exact trivial
              · exact trivial
              · exact h.later hb
            · intro lo hi
              have ky0 := cell_regrown y0
              have ky1 := cell_regrown y1
              have ky2 := cell_regrown y2
              have ky3 := cell_regrown y3
              have ky4 := cell_regrown y4
              have ky5 := cell_regrown y5
              have ky6 := cell_regrown y6
              have ky7 := cell_regrown y7
              have ky8 := cell_regrown y8
              have ky9 := cell_regrown y9
              have ky10 := cell_regrown y10
              refine flowW_plain rfl ?_
              go_big_quiet_step (fail)
              refine wpQuiet_nil ?_
              refine flowW_plain rfl ?_
              go_big_quiet_step (fail)
              refine wpQuiet_nil ?_
              refine flowW_plain rfl ?_
              go_big_quiet_step (fail)
              refine wpQuiet_nil ?_
              refine flowW_plain rfl ?_
              go_big_quiet_step (fail)
              refine wpQuiet_nil ?_
              refine flowW_plain rfl ?_
              go_big_quiet_step (fail)
              refine wpQuiet_nil ?_
              refine flowW_plain rfl ?_
              go_big_quiet_step (fail)
              refine wpQuiet_nil ?_
              refine flowW_plain rfl ?_
              go_big_quiet_step (fail)
              refine wpQuiet_nil ?_
              refine flowW_plain rfl ?_
              go_big_quiet_step (fail)
              refine wpQuiet_nil ?_
              refine flowW_call rfl rfl ?_ ?_
              · intro W hW hF K hK
                clear ky0 ky1 ky2 ky3 ky4 ky5 ky6 ky7 ky8 ky9 ky10
                go_wp2_with fail
                refine (refOfV_any _ A xd _ (HRA.out.later hW)).mono ?_
                rintro e wq ⟨rfl, rfl⟩
                rw [HF.out]
                go_wp2_with fail
                exact hK _ _ rfl trivial (Below.refl _ _)
              rintro v rfl K hK
              go_simp
              refine hK _ ?_
              clear hK K
              refine flowW_plain rfl ?_
              go_big_quiet_step (fail)
              refine wpQuiet_nil ?_
              refine flowW_plain rfl ?_
              go_big_quiet_step (fail)
              refine wpQuiet_nil ?_
              refine flowW_plain rfl ?_
              go_big_quiet_step (fail)
              refine wpQuiet_nil ?_
              refine flowW_call rfl rfl ?_ ?_
              · intro W hW hF K hK
                clear ky0 ky1 ky2 ky3 ky4 ky5 ky6 ky7 ky8 ky9 ky10
                go_wp2_with fail
                exact hK _ _ (congrArg (Value.int .i64) HMX.out) trivial (Below.refl _ _)
              rintro v rfl K hK
              go_simp
              refine hK _ ?_
              clear hK K
              refine flowW_call rfl rfl ?_ ?_
              · intro W hW hF K hK
                clear ky0 ky1 ky2 ky3 ky4 ky5 ky6 ky7 ky8 ky9 ky10
                go_wp2_with fail
                have hset := refSet_any _ A xd gm _ (HRA.out.later hW) hd1 hd2 hal5
                rw [HA2.out] at hset
                refine hset.mono ?_
                rintro e wq ⟨v, rfl, ho, hbq⟩
                go_wp2_with fail
                exact hK _ _ trivial ho hbq
              rintro v ⟨⟩ K hK
              go_simp
              refine hK _ ?_
              clear hK K
              refine flowW_plain rfl ?_
              go_big_quiet_step (fail)
              refine wpQuiet_nil ?_
              refine flowW_end fun wz hwz hF hD => ?_
              clear ky0 ky1 ky2 ky3 ky4 ky5 ky6 ky7 ky8 ky9 ky10
              simp only [List.drop_succ_cons, List.drop_zero]
              have HR5 := Lib.hid (hF 13)
              have HB5 := Lib.hid (below_then HBX.out hwz)
              clear hF hD hwz
              go_wp2_with fail
              go_roundw
              case rel => exact ⟨k + 1, by omega, by go_num, by rw [HNX.out]; exact HR5.out, HB5.out⟩
              case measure => simp [intOf]; omega
          · obtain rfl : k = l.length := by omega
            have hva' := hva.out
            rw [List.take_length] at hva'
            have HVA := Lib.hid hva'
            clear hva hva' hbw
            have hbn := below_then HB.out (Below.refl wr.heap.size wr)
            clear c0 c1 c2 c3 c4 d0 d1
            replace B_c := Lib.hid (bx_later hbn B_c.out)
            replace B_d := Lib.hid (bx_later hbn B_d.out)
            replace P := Lib.hid (P.out.later hbn)
            replace HB1 := Lib.hid (below_then HB1.out hbn)
            clear HB hbn
            have HB := Lib.hid (Below.refl wr.heap.size wr)
            have c0 := cell_of_box (bx_later HB.out B_c.out) 0 rfl
            have c1 := cell_of_box (bx_later HB.out B_c.out) 1 rfl
            have c2 := cell_of_box (bx_later HB.out B_c.out) 2 rfl
            have c3 := cell_of_box (bx_later HB.out B_c.out) 3 rfl
            have c4 := cell_of_box (bx_later HB.out B_c.out) 4 rfl
            have d0 := cell_of_box (bx_later HB.out B_d.out) 0 rfl
            have d1 := cell_of_box (bx_later HB.out B_d.out) 1 rfl
            go_wp2_with fail
            refine (put_o (P.out.later HB.out) hll M.out).mono ?_
            rintro e wn ⟨a_u, k_u, rfl, ho, hb⟩
            have P_u := Lib.hid (Rd.of_own ho)
            replace HB := Lib.hid (below_then HB.out (by first | exact hb | exact below_alloc_then hb))
            clear hb ho c0 c1 c2 c3 c4 d0 d1
            go_upto_region 13 with fail
            obtain ⟨w2, hnew⟩ : ∃ w2, wn.alloc (.cells #[(.int .i64 kd), (.int .i64 ck), (.int .i64 cn), (.string cs), (.slice a_u m.length k_u)] 26) = w2 := ⟨_, rfl⟩
            have hbw : Below wn.heap.size wn w2 := by rw [← hnew]; exact below_alloc _ _
            have bnew : Bx w2 wn.heap.size #[(.int .i64 kd), (.int .i64 ck), (.int .i64 cn), (.string cs), (.slice a_u m.length k_u)] 26 := by rw [← hnew]; exact bx_new rfl
            rw [hnew]
            clear hnew
            obtain ⟨g_u, hg⟩ : ∃ g, wn.heap.size = g := ⟨_, rfl⟩
            rw [hg] at bnew ⊢
            replace P_u := Lib.hid (P_u.out.later hbw)
            have hbn := below_then HB.out hbw
            replace B_c := Lib.hid (bx_later hbn B_c.out)
            replace B_d := Lib.hid (bx_later hbn B_d.out)
            replace P := Lib.hid (P.out.later hbn)
            replace HVA := Lib.hid (HVA.out.later hbn)
            replace HB1 := Lib.hid (below_then HB1.out hbn)
            clear HB hbn hbw hg
            have HB := Lib.hid (Below.refl w2.heap.size w2)
            have B_u := Lib.hid bnew
            clear bnew
            have c0 := cell_of_box (bx_later HB.out B_c.out) 0 rfl
            have c1 := cell_of_box (bx_later HB.out B_c.out) 1 rfl
            have c2 := cell_of_box (bx_later HB.out B_c.out) 2 rfl
            have c3 := cell_of_box (bx_later HB.out B_c.out) 3 rfl
            have c4 := cell_of_box (bx_later HB.out B_c.out) 4 rfl
            have d0 := cell_of_box (bx_later HB.out B_d.out) 0 rfl
            have d1 := cell_of_box (bx_later HB.out B_d.out) 1 rfl
            have u0 := cell_of_box (bx_later HB.out B_u.out) 0 rfl
            have u1 := cell_of_box (bx_later HB.out B_u.out) 1 rfl
            have u2 := cell_of_box (bx_later HB.out B_u.out) 2 rfl
            have u3 := cell_of_box (bx_later HB.out B_u.out) 3 rfl
            have u4 := cell_of_box (bx_later HB.out B_u.out) 4 rfl
            go_wp2_with fail
            refine (take_o (allV l) (P_u.out.later HB.out) (HVA.out.later HB.out) hml M2.out).mono ?_
            rintro e wn ⟨a_t, k_t, rfl, ho, hb⟩
            have P_t := Lib.hid (Rd.of_own ho)
            replace HB := Lib.hid (below_then HB.out (by first | exact hb | exact below_alloc_then hb))
            clear hb ho c0 c1 c2 c3 c4 d0 d1 u0 u1 u2 u3 u4
            go_upto_region 14 with fail
            obtain ⟨w3, hnew⟩ : ∃ w3, wn.alloc (.cells #[(.int .i64 kd), (.int .i64 ck), (.int .i64 cn), (.string cs), (.slice a_t m2.length k_t)] 26) = w3 := ⟨_, rfl⟩
            have hbw : Below wn.heap.size wn w3 := by rw [← hnew]; exact below_alloc _ _
            have bnew : Bx w3 wn.heap.size #[(.int .i64 kd), (.int .i64 ck), (.int .i64 cn), (.string cs), (.slice a_t m2.length k_t)] 26 := by rw [← hnew]; exact bx_new rfl
            rw [hnew]
            clear hnew
            obtain ⟨g_t, hg⟩ : ∃ g, wn.heap.size = g := ⟨_, rfl⟩
            rw [hg] at bnew ⊢
            replace P_t := Lib.hid (P_t.out.later hbw)
            have hbn := below_then HB.out hbw
            replace B_c := Lib.hid (bx_later hbn B_c.out)
            replace B_d := Lib.hid (bx_later hbn B_d.out)
            replace B_u := Lib.hid (bx_later hbn B_u.out)
            replace P := Lib.hid (P.out.later hbn)
            replace HVA := Lib.hid (HVA.out.later hbn)
            replace P_u := Lib.hid (P_u.out.later hbn)
            replace HB1 := Lib.hid (below_then HB1.out hbn)
            clear HB hbn hbw hg
            have HB := Lib.hid (Below.refl w3.heap.size w3)
            have B_t := Lib.hid bnew
            clear bnew
            have c0 := cell_of_box (bx_later HB.out B_c.out) 0 rfl
            have c1 := cell_of_box (bx_later HB.out B_c.out) 1 rfl
            have c2 := cell_of_box (bx_later HB.out B_c.out) 2 rfl
            have c3 := cell_of_box (bx_later HB.out B_c.out) 3 rfl
            have c4 := cell_of_box (bx_later HB.out B_c.out) 4 rfl
            have d0 := cell_of_box (bx_later HB.out B_d.out) 0 rfl
            have d1 := cell_of_box (bx_later HB.out B_d.out) 1 rfl
            have u0 := cell_of_box (bx_later HB.out B_u.out) 0 rfl
            have u1 := cell_of_box (bx_later HB.out B_u.out) 1 rfl
            have u2 := cell_of_box (bx_later HB.out B_u.out) 2 rfl
            have u3 := cell_of_box (bx_later HB.out B_u.out) 3 rfl
            have u4 := cell_of_box (bx_later HB.out B_u.out) 4 rfl
            have t0 := cell_of_box (bx_later HB.out B_t.out) 0 rfl
            have t1 := cell_of_box (bx_later HB.out B_t.out) 1 rfl
            have t2 := cell_of_box (bx_later HB.out B_t.out) 2 rfl
            have t3 := cell_of_box (bx_later HB.out B_t.out) 3 rfl
            have t4 := cell_of_box (bx_later HB.out B_t.out) 4 rfl
            have hfd0 : ∀ (r : Int) (W : World), Sem.run Try.prog (Instr.field 23 (.agg #[.int .i64 1, .int .i64 r, .string ⟨#[]⟩]) 0) W = .ok (.int .i64 1) W := fun _ _ => by kernel_rfl
            have hfd1 : ∀ (r : Int) (W : World), Sem.run Try.prog (Instr.field 23 (.agg #[.int .i64 1, .int .i64 r, .string ⟨#[]⟩]) 1) W = .ok (.int .i64 r) W := fun _ _ => by kernel_rfl
            have hw1 := HW1.out
            have hw2 := HW2.out
            refine wp_region_flow (by kernel_rfl) 29 [(0, ⟨fun v => v = .bool true, fun _ _ _ _ => True⟩), (3, ⟨fun v => v = .agg #[.int .i64 1, .int .i64 r, .string ⟨#[]⟩], fun _ _ _ _ => True⟩), (4, ⟨fun v => v = .int .i64 r, fun _ _ _ _ => True⟩), (6, ⟨fun v => v = .agg #[.int .i64 1, .int .i64 r, .string ⟨#[]⟩], fun _ _ _ _ => True⟩), (7, ⟨fun v => v = .int .i64 r, fun _ _ _ _ => True⟩), (14, ⟨fun v => v = .agg #[.int .i64 1, .int .i64 t, .string ⟨#[]⟩], fun _ _ _ _ => True⟩), (15, ⟨fun v => v = .int .i64 t, fun _ _ _ _ => True⟩), (17, ⟨fun v => v = .agg #[.int .i64 1, .int .i64 r, .string ⟨#[]⟩], fun _ _ _ _ => True⟩), (18, ⟨fun v => v = .int .i64 r, fun _ _ _ _ => True⟩), (24, ⟨fun v => v = .agg #[.int .i64 1, .int .i64 r, .string ⟨#[]⟩], fun _ _ _ _ => True⟩), (25, ⟨fun v => v = .int .i64 1, fun _ _ _ _ => True⟩)] (by kernel_rfl) ?_ ?_ ?_
            · intro x hx
              simp only [List.mem_cons, List.not_mem_nil, or_false] at hx
              rcases hx with rfl | rfl | rfl | rfl | rfl | rfl | rfl | rfl | rfl | rfl | rfl
              · exact ⟨_, rfl⟩
              · exact ⟨_, rfl⟩
              · exact ⟨_, rfl⟩
              · exact ⟨_, rfl⟩
              · exact ⟨_, rfl⟩
              · exact ⟨_, rfl⟩
              · exact ⟨_, rfl⟩
              · exact ⟨_, rfl⟩
              · exact ⟨_, rfl⟩
              · exact ⟨_, rfl⟩
              · exact ⟨_, rfl⟩
            · intro x hx v lo hi w w' h hb
              simp only [List.mem_cons, List.not_mem_nil, or_false] at hx
              rcases hx with rfl | rfl | rfl | rfl | rfl | rfl | rfl | rfl | rfl | rfl | rfl
              · exact trivial
              · exact trivial
              · exact trivial
              · exact trivial
              · exact trivial
              · exact trivial
              · exact trivial
              · exact trivial
              · exact trivial
              · exact trivial
              · exact trivial
            · intro lo hi
              have kc0 := cell_regrown c0
              have kc1 := cell_regrown c1
              have kc2 := cell_regrown c2
              have kc3 := cell_regrown c3
              have kc4 := cell_regrown c4
              have kd0 := cell_regrown d0
              have kd1 := cell_regrown d1
              have ku0 := cell_regrown u0
              have ku1 := cell_regrown u1
              have ku2 := cell_regrown u2
              have ku3 := cell_regrown u3
              have ku4 := cell_regrown u4
              have kt0 := cell_regrown t0
              have kt1 := cell_regrown t1
              have kt2 := cell_regrown t2
              have kt3 := cell_regrown t3
              have kt4 := cell_regrown t4
              refine flowW_call rfl rfl ?_ ?_
              · intro W hW hF K hK
                clear kc0 kc1 kc2 kc3 kc4 kd0 kd1 ku0 ku1 ku2 ku3 ku4 kt0 kt1 kt2 kt3 kt4
                go_wp2_with fail
                refine (alive_any _).mono ?_
                rintro e wq ⟨rfl, hbq⟩
                go_wp2_with fail
                exact hK _ _ rfl trivial hbq
              rintro v rfl K hK
              go_simp
              refine hK _ ?_
              clear hK K
              refine flowW_plain rfl ?_
              go_big_quiet_step (fail)
              refine wpQuiet_nil ?_
              refine flowW_plain rfl ?_
              go_big_quiet_step (fail)
              refine wpQuiet_nil ?_
              refine flowW_call rfl rfl ?_ ?_
              · intro W hW hF K hK
                clear kc0 kc1 kc2 kc3 kc4 kd0 kd1 ku0 ku1 ku2 ku3 ku4 kt0 kt1 kt2 kt3 kt4
                go_wp2_with fail
                refine (show_p (P_u.out.later (below_then HB.out hW)) hml CR.out).mono ?_
                rintro e wq ⟨rfl, hbq⟩
                go_wp2_with fail
                exact hK _ _ rfl trivial hbq
              rintro v rfl K hK
              go_simp
              refine hK _ ?_
              clear hK K
              refine flowW_call rfl rfl ?_ ?_
              · intro W hW hF K hK
                clear kc0 kc1 kc2 kc3 kc4 kd0 kd1 ku0 ku1 ku2 ku3 ku4 kt0 kt1 kt2 kt3 kt4
                go_wp2_with fail
                first
                  | exact hK _ _ rfl trivial (Below.refl _ _)
                  | (rw [hfd1]; go_wp2_with fail; exact hK _ _ rfl trivial (Below.refl _ _))
              rintro v rfl K hK
              go_simp
              refine hK _ ?_
              clear hK K
              refine flowW_plain rfl ?_
              go_big_quiet_step (fail)
              refine wpQuiet_nil ?_
              refine flowW_call rfl rfl ?_ ?_
              · intro W hW hF K hK
                clear kc0 kc1 kc2 kc3 kc4 kd0 kd1 ku0 ku1 ku2 ku3 ku4 kt0 kt1 kt2 kt3 kt4
                go_wp2_with fail
                refine (show_p (P.out.later (below_then HB.out hW)) hll CQ.out).mono ?_
                rintro e wq ⟨rfl, hbq⟩
                go_wp2_with fail
                exact hK _ _ rfl trivial hbq
              rintro v rfl K hK
              go_simp
              refine hK _ ?_
              clear hK K
              refine flowW_call rfl rfl ?_ ?_
              · intro W hW hF K hK
                clear kc0 kc1 kc2 kc3 kc4 kd0 kd1 ku0 ku1 ku2 ku3 ku4 kt0 kt1 kt2 kt3 kt4
                go_wp2_with fail
                first
                  | exact hK _ _ rfl trivial (Below.refl _ _)
                  | (rw [hfd1]; go_wp2_with fail; exact hK _ _ rfl trivial (Below.refl _ _))
              rintro v rfl K hK
              go_simp
              refine hK _ ?_
              clear hK K
              refine flowW_plain rfl ?_
              go_big_quiet_step (fail)
              refine wpQuiet_nil ?_
              refine flowW_plain rfl ?_
              go_big_quiet_step (fail)
              refine wpQuiet_nil ?_
              refine flowW_plain rfl ?_
              go_big_quiet_step (fail)
              refine wpQuiet_nil ?_
              refine flowW_plain rfl ?_
              go_big_quiet_step (fail)
              refine wpQuiet_nil ?_
              refine flowW_plain rfl ?_
              go_big_quiet_step (fail)
              refine wpQuiet_nil ?_
              refine flowW_plain rfl ?_
              go_big_quiet_step (fail)
              refine wpQuiet_nil ?_
              refine flowW_call rfl rfl ?_ ?_
              · intro W hW hF K hK
                clear kc0 kc1 kc2 kc3 kc4 kd0 kd1 ku0 ku1 ku2 ku3 ku4 kt0 kt1 kt2 kt3 kt4
                go_wp2_with fail
                refine (show_p (P_t.out.later (below_then HB.out hW)) hml2 CTT.out).mono ?_
                rintro e wq ⟨rfl, hbq⟩
                go_wp2_with fail
                exact hK _ _ rfl trivial hbq
              rintro v rfl K hK
              go_simp
              refine hK _ ?_
              clear hK K
              refine flowW_call rfl rfl ?_ ?_
              · intro W hW hF K hK
                clear kc0 kc1 kc2 kc3 kc4 kd0 kd1 ku0 ku1 ku2 ku3 ku4 kt0 kt1 kt2 kt3 kt4
                go_wp2_with fail
                first
                  | exact hK _ _ rfl trivial (Below.refl _ _)
                  | (rw [hfd1]; go_wp2_with fail; exact hK _ _ rfl trivial (Below.refl _ _))
              rintro v rfl K hK
              go_simp
              refine hK _ ?_
              clear hK K
              refine flowW_plain rfl ?_
              go_big_quiet_step (fail)
              refine wpQuiet_nil ?_
              refine flowW_call rfl rfl ?_ ?_
              · intro W hW hF K hK
                clear kc0 kc1 kc2 kc3 kc4 kd0 kd1 ku0 ku1 ku2 ku3 ku4 kt0 kt1 kt2 kt3 kt4
                go_wp2_with fail
                refine (show_p (P_u.out.later (below_then HB.out hW)) hml CR.out).mono ?_
                rintro e wq ⟨rfl, hbq⟩
                go_wp2_with fail
                exact hK _ _ rfl trivial hbq
              rintro v rfl K hK
              go_simp
              refine hK _ ?_
              clear hK K
              refine flowW_call rfl rfl ?_ ?_
              · intro W hW hF K hK
                clear kc0 kc1 kc2 kc3 kc4 kd0 kd1 ku0 ku1 ku2 ku3 ku4 kt0 kt1 kt2 kt3 kt4
                go_wp2_with fail
                first
                  | exact hK _ _ rfl trivial (Below.refl _ _)
                  | (rw [hfd1]; go_wp2_with fail; exact hK _ _ rfl trivial (Below.refl _ _))
              rintro v rfl K hK
              go_simp
              refine hK _ ?_
              clear hK K
              refine flowW_plain rfl ?_
              go_big_quiet_step (fail)
              refine wpQuiet_nil ?_
              refine flowW_plain rfl ?_
              go_big_quiet_step (fail)
              refine wpQuiet_nil ?_
              refine flowW_plain rfl ?_
              go_big_quiet_step (fail)
              refine wpQuiet_nil ?_
              refine flowW_plain rfl ?_
              go_big_quiet_step (fail)
              refine wpQuiet_nil ?_
              refine flowW_plain rfl ?_
              go_big_quiet_step (fail)
              refine wpQuiet_nil ?_
              refine flowW_call rfl rfl ?_ ?_
              · intro W hW hF K hK
                clear kc0 kc1 kc2 kc3 kc4 kd0 kd1 ku0 ku1 ku2 ku3 ku4 kt0 kt1 kt2 kt3 kt4
                go_wp2_with fail
                refine (show_p (P.out.later (below_then HB.out hW)) hll CQ.out).mono ?_
                rintro e wq ⟨rfl, hbq⟩
                go_wp2_with fail
                exact hK _ _ rfl trivial hbq
              rintro v rfl K hK
              go_simp
              refine hK _ ?_
              clear hK K
              refine flowW_call rfl rfl ?_ ?_
              · intro W hW hF K hK
                clear kc0 kc1 kc2 kc3 kc4 kd0 kd1 ku0 ku1 ku2 ku3 ku4 kt0 kt1 kt2 kt3 kt4
                go_wp2_with fail
                first
                  | exact hK _ _ rfl trivial (Below.refl _ _)
                  | (rw [hfd0]; go_wp2_with fail; exact hK _ _ rfl trivial (Below.refl _ _))
              rintro v rfl K hK
              go_simp
              refine hK _ ?_
              clear hK K
              refine flowW_plain rfl ?_
              go_big_quiet_step (fail)
              refine wpQuiet_nil ?_
              refine flowW_plain rfl ?_
              go_big_quiet_step (fail)
              refine wpQuiet_nil ?_
              refine flowW_plain rfl ?_
              go_big_quiet_step (fail)
              refine wpQuiet_nil ?_
              refine flowW_end fun wz hwz hF hD => ?_
              clear kc0 kc1 kc2 kc3 kc4 kd0 kd1 ku0 ku1 ku2 ku3 ku4 kt0 kt1 kt2 kt3 kt4
              simp only [List.drop_succ_cons, List.drop_zero]
              replace HB := Lib.hid (below_then HB.out hwz)
              clear hwz hF hD c0 c1 c2 c3 c4 d0 d1 u0 u1 u2 u3 u4 t0 t1 t2 t3 t4
              have c0 := cell_of_box (bx_later HB.out B_c.out) 0 rfl
              have c1 := cell_of_box (bx_later HB.out B_c.out) 1 rfl
              have c2 := cell_of_box (bx_later HB.out B_c.out) 2 rfl
              have c3 := cell_of_box (bx_later HB.out B_c.out) 3 rfl
              have c4 := cell_of_box (bx_later HB.out B_c.out) 4 rfl
              have d0 := cell_of_box (bx_later HB.out B_d.out) 0 rfl
              have d1 := cell_of_box (bx_later HB.out B_d.out) 1 rfl
              have u0 := cell_of_box (bx_later HB.out B_u.out) 0 rfl
              have u1 := cell_of_box (bx_later HB.out B_u.out) 1 rfl
              have u2 := cell_of_box (bx_later HB.out B_u.out) 2 rfl
              have u3 := cell_of_box (bx_later HB.out B_u.out) 3 rfl
              have u4 := cell_of_box (bx_later HB.out B_u.out) 4 rfl
              have t0 := cell_of_box (bx_later HB.out B_t.out) 0 rfl
              have t1 := cell_of_box (bx_later HB.out B_t.out) 1 rfl
              have t2 := cell_of_box (bx_later HB.out B_t.out) 2 rfl
              have t3 := cell_of_box (bx_later HB.out B_t.out) 3 rfl
              have t4 := cell_of_box (bx_later HB.out B_t.out) 4 rfl
              go_wp2_with fail
              go_ret
              exact ⟨by first | rfl | exact ret_bool (by simp), below_then HB1.out HB.out⟩

set_option maxRecDepth 100000 in
theorem lifted (os : Os) (started : os.Started) (H : Type) (enc : TypeId × Value → H) :
    ReturnsInHanded {} Try.checked os 7 .any (Rows.bagCountsSpec.pre6 enc Try.prog Try.f7 Rows.bagCountsRow.domain false) (Rows.bagCountsSpec.post enc Try.prog Try.f7 false true false false) := by
  refine returnsInHanded_of_change_sized (C := Try.checked) ownKnob_none started (by kernel_rfl) Try.func7
    (ChangeSpec.witness6 (enc := enc) (C := Try.checked) false ⟨#[], #[.agg #[.int .i64 0, .int .i64 0, .int .i64 0, .string ⟨#[]⟩, .slice none 0 0], .int .i64 0, .agg #[.int .i64 0, .int .i64 0]], []⟩ 8 (by kernel_rfl) (by kernel_rfl) (by kernel_rfl) (by kernel_rfl)) ?_
  intro W base args ds gs before hval0 hW hcnd hsz0 _
  have hval : ∀ (j : Nat) t v, Try.f7.params[j]? = some t → args[j]? = some v → Value.okWide Try.prog W .any base t v := hval0
  have hW' := hW
  obtain ⟨p, q, hA0, hV, rfl, hfz, hnd⟩ := hW
  have hA : DataW.TrodAll enc Try.prog W 0 (fun _ => true) true Try.f7.params.toList args.toList ds p := hA0
  have hsz : (DataW.weightsEach Try.prog (Try.f7.params.toList ++ Rows.bagCountsSpec.plain.varTypes Try.prog) (ds ++ gs)).all (· ≤ reachBytes) = true := hsz0
  rw [Try.params7] at hA hval hsz
  obtain ⟨v0, vs0, d0, ds0, p0, q0, hargs, rfl, rfl, h0, r0r⟩ := trodAll_cons hA
  obtain ⟨v1, vs1, d1, ds1, p1, q1, rfl, rfl, rfl, h1, r1r⟩ := trodAll_cons r0r
  obtain ⟨v2, vs2, d2, ds2, p2, q2, rfl, rfl, rfl, h2, r2r⟩ := trodAll_cons r1r
  obtain ⟨rfl, rfl, rfl⟩ := trodAll_nil r2r
  obtain rfl : args = #[v0, v1, v2] := by cases args; simp_all
  obtain ⟨rfl, rfl⟩ := trodVars_none hV
  have g0 := sized_at hsz (j := 0) rfl rfl
  have g1 := sized_at hsz (j := 1) rfl rfl
  have g2 := sized_at hsz (j := 2) rfl rfl
  obtain ⟨y0_0, y0_1, y0_2, y0_3, rfl, f0_0⟩ := open_cell (hval 0 26 v0 rfl rfl) h0
  obtain ⟨a1, rfl, rfl, rfl, w1⟩ := open_int Try.underlying3 (hval 1 3 v1 rfl rfl) h1
  obtain ⟨y2_0, rfl⟩ := open_dot (hval 2 37 v2 rfl rfl) h2
  refine (walk y0_0 y0_1 y0_2 y0_3 a1 y2_0 W f0_0 (wf_i64 w1)).mono fun e W' ⟨he, hg⟩ => ⟨_, he, law_post laidOut (by kernel_rfl) rfl Try.underlying4 rfl rfl hW' hg⟩

theorem over : Rows.bagCountsRow.holds Try.pinned (OpenSpec.ofChange Rows.bagCountsSpec) :=
  OpenClaim.holds_of_wide 7 Try.f7 rfl rfl rfl rfl rfl rfl rfl ⟨rfl, rfl, rfl, rfl, rfl⟩ rfl rfl rfl rfl rfl (by kernel_rfl) Try.func7 (by kernel_rfl)
    (of_decide_eq_true (by kernel_rfl)) (by unfold Func.isWrapper; first | (rw [if_pos (by decide +kernel)]; kernel_rfl) | (rw [if_neg (by decide +kernel)]; exact ⟨rfl, rfl⟩))
    (fun os started H enc _ => lifted os started H enc)

/-- THE STATEMENT. -/
theorem proved : Rows.BagCountsSaid :=
  over
#print axioms proved
end Go.Proofs.Ytnpciogpegmejaa.bagCounts
