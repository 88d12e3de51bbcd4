/-
  The law MultiGreatest.
-/
import Derived.Test.YtagbaejgjhmokaaML3
namespace Go.Proofs.Ytagbaejgjhmokaa.multiGreatest
open Go.ChangeShapes Go.WideShapes Go.ChangeAt Go.RowKit Go.Sort Go.BigFrame Go.Proofs.Ytagbaejgjhmokaa
open Go.ChangeMaps (open_string shut_string)

set_option maxRecDepth 100000 in
set_option maxHeartbeats 8000000 in
theorem walk (kd1 : Int) (cv1 : Val) (va1 : Value) (l1 : List Prt) (w : World) (ha1 : PRd w va1 l1) :
    Calls Try.prog 8 #[.agg #[.int .i64 kd1, .int .i64 cv1.k, .int .i64 cv1.n, .string cv1.s, va1]] w fun e w' => e = .returned (.bool true) ∧ Below w.heap.size w w' := by
  obtain ⟨ck1, cn1, cs1⟩ := cv1
  obtain ⟨ao1, ca1, rfl, -, hcm1, -, -⟩ := id ha1
  unfold maxLen at hcm1
  obtain ⟨w1, hw1⟩ : ∃ w1, w.alloc (.cells #[(.int .i64 kd1), (.int .i64 ck1), (.int .i64 cn1), (.string cs1), (.slice ao1 l1.length ca1)] 26) = w1 := ⟨_, rfl⟩
  have hb1 : Below w.heap.size w w1 := by rw [← hw1]; exact below_alloc _ _
  have b_c : Bx w1 (w.heap.size) #[(.int .i64 kd1), (.int .i64 ck1), (.int .i64 cn1), (.string cs1), (.slice ao1 l1.length ca1)] 26 := by rw [← hw1]; exact bx_new (by simp)
  have HW := Lib.hid hw1
  have HB1 := Lib.hid hb1
  have HB := Lib.hid (Below.refl w1.heap.size w1)
  have B_c := Lib.hid b_c
  have c0 := cell_of_box (bx_later HB.out B_c.out) 0 rfl
  have c1 := cell_of_box (bx_later HB.out B_c.out) 1 rfl
  have c2 := cell_of_box (bx_later HB.out B_c.out) 2 rfl
  have c3 := cell_of_box (bx_later HB.out B_c.out) 3 rfl
  have c4 := cell_of_box (bx_later HB.out B_c.out) 4 rfl
  clear hw1 hb1 b_c
  have P1 := Lib.hid (ha1.later HB1.out)
  clear ha1
  cases hr0 : rightC l1
  all_goals
    have F0 := Lib.hid hr0
    clear hr0
  · go_enter Try.func8, Try.ntmps8
    go_wp2_with fail
    rw [HW.out]
    go_wp2_with fail
    refine (lawRight_b false F0.out (P1.out.later HB.out)).mono ?_
    rintro e wn ⟨rfl, hb⟩
    replace HB := Lib.hid (below_then HB.out (by first | exact hb | exact below_alloc_then hb | exact below_alloc_then (below_alloc_then hb)))
    clear hb c0 c1 c2 c3 c4
    have c0 := cell_of_box (bx_later HB.out B_c.out) 0 rfl
    have c1 := cell_of_box (bx_later HB.out B_c.out) 1 rfl
    have c2 := cell_of_box (bx_later HB.out B_c.out) 2 rfl
    have c3 := cell_of_box (bx_later HB.out B_c.out) 3 rfl
    have c4 := cell_of_box (bx_later HB.out B_c.out) 4 rfl
    go_wp2_with fail
    refine (alive_any _).mono ?_
    rintro e wn ⟨rfl, hb⟩
    replace HB := Lib.hid (below_then HB.out (by first | exact hb | exact below_alloc_then hb | exact below_alloc_then (below_alloc_then hb)))
    clear hb c0 c1 c2 c3 c4
    have c0 := cell_of_box (bx_later HB.out B_c.out) 0 rfl
    have c1 := cell_of_box (bx_later HB.out B_c.out) 1 rfl
    have c2 := cell_of_box (bx_later HB.out B_c.out) 2 rfl
    have c3 := cell_of_box (bx_later HB.out B_c.out) 3 rfl
    have c4 := cell_of_box (bx_later HB.out B_c.out) 4 rfl
    go_wp2_with fail
    go_ret
    exact ⟨by first | rfl | exact ret_bool (by simp), below_then HB1.out HB.out⟩
  · by_cases hne : l1.length = 0
    · have HNE := Lib.hid hne
      clear hne
      go_enter Try.func8, Try.ntmps8
      go_wp2_with fail
      rw [HW.out]
      go_wp2_with fail
      refine (lawRight_b true F0.out (P1.out.later HB.out)).mono ?_
      rintro e wn ⟨rfl, hb⟩
      replace HB := Lib.hid (below_then HB.out (by first | exact hb | exact below_alloc_then hb | exact below_alloc_then (below_alloc_then hb)))
      clear hb c0 c1 c2 c3 c4
      have c0 := cell_of_box (bx_later HB.out B_c.out) 0 rfl
      have c1 := cell_of_box (bx_later HB.out B_c.out) 1 rfl
      have c2 := cell_of_box (bx_later HB.out B_c.out) 2 rfl
      have c3 := cell_of_box (bx_later HB.out B_c.out) 3 rfl
      have c4 := cell_of_box (bx_later HB.out B_c.out) 4 rfl
      have hz1 : ((l1.length : Int) == 0) = true := beq_iff_eq.2 (by have := HNE.out; omega)
      have hz2 : (l1.length == 0) = true := beq_iff_eq.2 HNE.out
      go_wp2_with fail
      refine (alive_any _).mono ?_
      rintro e wn ⟨rfl, hb⟩
      replace HB := Lib.hid (below_then HB.out (by first | exact hb | exact below_alloc_then hb | exact below_alloc_then (below_alloc_then hb)))
      clear hb c0 c1 c2 c3 c4
      have c0 := cell_of_box (bx_later HB.out B_c.out) 0 rfl
      have c1 := cell_of_box (bx_later HB.out B_c.out) 1 rfl
      have c2 := cell_of_box (bx_later HB.out B_c.out) 2 rfl
      have c3 := cell_of_box (bx_later HB.out B_c.out) 3 rfl
      have c4 := cell_of_box (bx_later HB.out B_c.out) 4 rfl
      go_wp2_with fail
      go_ret
      exact ⟨by first | rfl | exact ret_bool (by simp), below_then HB1.out HB.out⟩
    · have hz1 : ((l1.length : Int) == 0) = false := beq_eq_false_iff_ne.2 (by omega)
      have hz2 : (l1.length == 0) = false := beq_eq_false_iff_ne.2 hne
      have hl0 : l1.length ≤ 60 := by
        have := F0.out
        unfold rightC at this
        simp only [Bool.and_eq_true, decide_eq_true_eq] at this
        omega
      obtain ⟨L, hL⟩ : ∃ L, valsL l1 = L := ⟨_, rfl⟩
      obtain ⟨sv, hs⟩ : ∃ sv, showL l1 = sv := ⟨_, rfl⟩
      have hrise : RiseV L := by rw [← hL]; exact valsL_rise l1
      have hll : L.length ≤ l1.length := by rw [← hL]; exact valsL_len l1
      have hne1 : l1 ≠ [] := fun h => by rw [h] at hne; exact hne rfl
      have hmem : sv ∈ L := by rw [← hL, ← hs]; exact show_mem hne1
      have hmet : ∃ p ∈ l1, p.v = sv := mem_valsL.1 (by rw [hL]; exact hmem)
      have hmax : ∀ p ∈ l1, lessV sv p.v = false := fun p hp => by rw [← hs]; exact show_max (mem_valsL.2 ⟨p, hp, rfl⟩)
      have hpos : 0 < L.length := List.length_pos_of_mem hmem
      have hlast : ∀ (h : L.length - 1 < L.length), L[L.length - 1] = sv := fun h => by
        have h1 : sv = L.getLast?.getD nilV := by rw [← hs]; unfold showL; rw [hL]
        rw [h1, List.getLast?_eq_getElem?, List.getElem?_eq_getElem h]; rfl
      obtain ⟨sk, sn, ss⟩ := sv
      have hL60 : L.length ≤ 60 := by omega
      have HL := Lib.hid hL
      have HS := Lib.hid hs
      have RISE := Lib.hid hrise
      have HMEM := Lib.hid hmem
      have HMET := Lib.hid hmet
      have HMAX := Lib.hid hmax
      have HLAST := Lib.hid hlast
      have HPOS := Lib.hid hpos
      have HLL := Lib.hid hll
      clear hL hs hrise hll hne1 hmem hmet hmax hlast
      go_enter Try.func8, Try.ntmps8
      go_wp2_with fail
      rw [HW.out]
      go_wp2_with fail
      refine (lawRight_b true F0.out (P1.out.later HB.out)).mono ?_
      rintro e wn ⟨rfl, hb⟩
      replace HB := Lib.hid (below_then HB.out (by first | exact hb | exact below_alloc_then hb | exact below_alloc_then (below_alloc_then hb)))
      clear hb c0 c1 c2 c3 c4
      have c0 := cell_of_box (bx_later HB.out B_c.out) 0 rfl
      have c1 := cell_of_box (bx_later HB.out B_c.out) 1 rfl
      have c2 := cell_of_box (bx_later HB.out B_c.out) 2 rfl
      have c3 := cell_of_box (bx_later HB.out B_c.out) 3 rfl
      have c4 := cell_of_box (bx_later HB.out B_c.out) 4 rfl
      go_upto_region 3 with fail
      refine wp_region_flow (by kernel_rfl) 5 [(1, ⟨fun v => v = .agg #[.int .i64 sk, .int .i64 sn, .string ss], fun _ _ _ _ => True⟩), (3, ⟨fun v => ∃ a k, v = .slice a L.length k, fun v lo hi w' => ∃ a k, v = .slice a L.length k ∧ OwnV w' lo (.slice a L.length k) L ∧ ∀ b, (Value.slice a L.length k).ownBlock = some b → b < hi⟩), (4, ⟨fun v => ∃ g : Nat, v = .pointer (some ⟨g, 0, none⟩), fun v lo hi w' => ∃ g : Nat, v = .pointer (some ⟨g, 0, none⟩) ∧ Bx w' g #[.int .i64 0, .int .i64 0, .string ⟨#[]⟩] 23 ∧ wn.heap.size ≤ g ∧ lo ≤ g ∧ g < hi⟩)] (by kernel_rfl) ?_ ?_ ?_
      · intro x hx
        simp only [List.mem_cons, List.not_mem_nil, or_false] at hx
        rcases hx with rfl | rfl | rfl
        · exact ⟨_, rfl⟩
        · exact ⟨_, none, 0, rfl⟩
        · exact ⟨_, 0, rfl⟩
      · intro x hx v lo hi w w' h hb
        simp only [List.mem_cons, List.not_mem_nil, or_false] at hx
        rcases hx with rfl | rfl | rfl
        · exact trivial
        · obtain ⟨a, k, rfl, ho, hh⟩ := h
          exact ⟨a, k, rfl, own_later ho hb, hh⟩
        · obtain ⟨g, rfl, h1, h2, h3, h4⟩ := h
          exact ⟨g, rfl, bx_later hb h1, h2, h3, h4⟩
      · intro lo hi
        have kc0 := cell_regrown c0
        have kc1 := cell_regrown c1
        have kc2 := cell_regrown c2
        have kc3 := cell_regrown c3
        have kc4 := cell_regrown c4
        refine flowW_plain rfl ?_
        go_big_quiet_step (fail)
        refine wpQuiet_nil ?_
        refine flowW_call rfl rfl ?_ ?_
        · intro W hW hF K hK
          clear kc0 kc1 kc2 kc3 kc4
          go_wp2_with fail
          refine (show_p (P1.out.later (below_then HB.out hW)) (by omega) HS.out).mono ?_
          rintro e wq ⟨rfl, hbq⟩
          go_wp2_with fail
          exact hK _ _ rfl trivial hbq
        rintro v rfl K hK
        go_simp
        refine hK _ ?_
        clear hK K
        refine flowW_plain rfl ?_
        go_big_quiet_step (fail)
        refine wpQuiet_nil ?_
        refine flowW_call rfl rfl ?_ ?_
        · intro W hW hF K hK
          clear kc0 kc1 kc2 kc3 kc4
          go_wp2_with fail
          refine (values_o (P1.out.later (below_then HB.out hW)) (by omega) HL.out).mono ?_
          rintro e wq ⟨a, k, rfl, ho, hbq⟩
          go_wp2_with fail
          exact hK _ _ ⟨a, k, rfl⟩ ⟨a, k, rfl, ho, fun b hb => (ho.lt b hb).2⟩ hbq
        rintro v ⟨a3, k3, rfl⟩ K hK
        go_simp
        refine hK _ ?_
        clear hK K
        refine flowW_call rfl rfl ?_ ?_
        · intro W hW hF K hK
          clear kc0 kc1 kc2 kc3 kc4
          go_wp2_with fail
          exact hK _ _ ⟨_, rfl⟩ ⟨_, rfl, bx_new rfl, hW.size, Nat.le_refl _, by simp⟩ (below_alloc _ _)
        rintro v ⟨g4, rfl⟩ K hK
        go_simp
        refine hK _ ?_
        clear hK K
        refine flowW_end fun wz hwz hF hD => ?_
        clear kc0 kc1 kc2 kc3 kc4
        simp only [List.drop_succ_cons, List.drop_zero]
        obtain ⟨_, _, he, hv, hvh⟩ := hF 3
        cases he
        obtain ⟨_, he, bg, hg, hg1, hg2⟩ := hF 4
        cases he
        have hdj : hi 3 ≤ lo 4 ∨ hi 4 ≤ lo 3 := hD 3 4 (by decide) rfl rfl
        replace hg1 : lo 4 ≤ g4 := hg1
        replace hg2 : g4 < hi 4 := hg2
        refine wpList_store_box rfl _ _ rfl rfl rfl (by kernel_rfl) bg rfl rfl rfl rfl ?_
        have hbn := below_row (below_then HB.out hwz) (Nat.le_trans HB.out.size hg) #[.int .i64 sk, .int .i64 sn, .string ss]
        have bn := bx_row bg #[.int .i64 sk, .int .i64 sn, .string ss]
        have hvn : Rd (wz.setRow g4 #[.int .i64 sk, .int .i64 sn, .string ss]) (.slice a3 L.length k3) L.length (vCs L) := Rd.of_own (own_rowN hv (fun b hb e => by have h1 : b < hi 3 := hvh b hb; have h2 : lo 3 ≤ b := (hv.lt b hb).1; omega) _)
        have HBN := Lib.hid hbn
        have BN := Lib.hid bn
        have HV := Lib.hid hvn
        clear hbn bn bg hF hD hdj hg1 hg2 hvh hv hvn c0 c1 c2 c3 c4
        go_wp2_with fail
        replace B_c := Lib.hid (bx_later HBN.out B_c.out)
        replace P1 := Lib.hid (P1.out.later HBN.out)
        replace HB1 := Lib.hid (below_then HB1.out HBN.out)
        clear HBN HB hwz hg
        generalize wz.setRow g4 #[.int .i64 sk, .int .i64 sn, .string ss] = w2 at *
        have HB := Lib.hid (Below.refl w2.heap.size w2)
        have B_s := BN
        clear BN
        go_loopw [5] (fun vi wr => ∃ k : Nat, k + 1 ≤ L.length ∧ vi = .int .i64 ((k : Int) + 1) ∧ Hid (Ext w2 wr)) (fun vi _ => L.length + 1 - (intOf vi).toNat)
        case atStart => exact ⟨0, by omega, rfl, Below.refl _ _⟩
        case round =>
          obtain ⟨k, hk, rfl, hbw⟩ := hrel
          rename World => wr
          by_cases hlt : k + 1 < L.length
          · obtain ⟨x, hx⟩ : ∃ x, L[k] = x := ⟨_, rfl⟩
            obtain ⟨y, hy⟩ : ∃ y, L[k + 1] = y := ⟨_, rfl⟩
            have hless : lessV ⟨x.k, x.n, x.s⟩ ⟨y.k, y.n, y.s⟩ = true := by
              have := List.pairwise_iff_getElem.1 RISE.out k (k + 1) (by omega) hlt (by omega)
              rw [hx, hy] at this; exact this
            obtain ⟨b1, o1, x1, e0, e1, e2, _⟩ := rd_v (HV.out.later hbw.out) rfl k (by omega) hx
            obtain ⟨b2, o2, x2, f0, f1, f2, _⟩ := rd_v (HV.out.later hbw.out) rfl (k + 1) hlt hy
            have hc1 : ((k + 1 : Nat) : Int) = (k : Int) + 1 := by omega
            rw [hc1] at x2
            have q1 : (k : Int) + 1 - 1 = (k : Int) := by omega
            have q2 : (0 : Int) ≤ (k : Int) := by omega
            have q3 : (k : Int) < (L.length : Int) := by omega
            have q4 : (0 : Int) ≤ (k : Int) + 1 := by omega
            have q5 : (k : Int) + 1 < (L.length : Int) := by omega
            have hwr : IntKind.i64.wrap (k : Int) = (k : Int) := by rw [IntKind.wrap_i64]; omega
            have HLE := Lib.hid hless
            clear hx hy hless hc1
            have cS : ∀ d os, Calls Try.prog 25 #[.agg #[.int .i64 x.k, .int .i64 x.n, .string x.s], .agg #[.int .i64 y.k, .int .i64 y.n, .string y.s]] (grow (redrawn wr d) os) fun e w'' => e = .returned (.bool (lessV ⟨x.k, x.n, x.s⟩ ⟨y.k, y.n, y.s⟩)) ∧ ∃ p : Regrown, w'' = grow (redrawn wr p.d) p.os := fun d os => Calls.regrown_of ((refLessV_any x.k x.n x.s y.k y.n y.s _))
            rw [HLE.out] at cS
            go_wp2_with fail
            have ke0 := cell_regrown e0
            have ke1 := cell_regrown e1
            have ke2 := cell_regrown e2
            have kf0 := cell_regrown f0
            have kf1 := cell_regrown f1
            have kf2 := cell_regrown f2
            refine wp_region_quiet_below (by kernel_rfl) (by kernel_rfl) ?_
            repeat (go_big_quiet_step (first | exact cS _ _))
            refine wpQuiet_nil ?_
            intro _ hw'
            obtain ⟨⟨dq, osq⟩, hw''⟩ := hw'
            subst hw''
            clear ke0 ke1 ke2 kf0 kf1 kf2 cS
            have hb3 := below_regrown wr dq osq
            generalize grow (redrawn wr dq) osq = w3 at *
            replace e0 := cell_later hb3 e0
            replace e1 := cell_later hb3 e1
            replace e2 := cell_later hb3 e2
            replace f0 := cell_later hb3 f0
            replace f1 := cell_later hb3 f1
            replace f2 := cell_later hb3 f2
            have HB3 := Lib.hid (below_then hbw.out hb3)
            clear hb3
            go_wp2_with fail
            go_roundw
            case rel => exact ⟨k + 1, by omega, by go_num, HB3.out⟩
            case measure => simp [intOf]; omega
          · have hkn : k + 1 = L.length := by omega
            have hki : (k : Int) + 1 = (L.length : Int) := by omega
            have q6 : ¬ (k : Int) + 1 < (L.length : Int) := by omega
            have HKI := Lib.hid hki
            clear hki hkn
            replace HB := hbw
            have c0 := cell_of_box (bx_later HB.out B_c.out) 0 rfl
            have c1 := cell_of_box (bx_later HB.out B_c.out) 1 rfl
            have c2 := cell_of_box (bx_later HB.out B_c.out) 2 rfl
            have c3 := cell_of_box (bx_later HB.out B_c.out) 3 rfl
            have c4 := cell_of_box (bx_later HB.out B_c.out) 4 rfl
            have s0 := cell_of_box (bx_later HB.out B_s.out) 0 rfl
            have s1 := cell_of_box (bx_later HB.out B_s.out) 1 rfl
            have s2 := cell_of_box (bx_later HB.out B_s.out) 2 rfl
            go_wp2_with fail
            clear c0 c1 c2 c3 c4 s0 s1 s2
            go_loopw [6, 43] (fun vm vi w4 => ∃ j : Nat, j ≤ l1.length ∧ vi = .int .i64 j ∧ vm = .bool ((l1.take j).any fun p => sameV p.v ⟨sk, sn, ss⟩) ∧ Hid (Ext w2 w4)) (fun _ vi _ => l1.length - (intOf vi).toNat)
            case atStart => exact ⟨0, Nat.zero_le _, rfl, rfl, HB.out⟩
            case round =>
              obtain ⟨j, hj, rfl, rfl, hbw4⟩ := hrel
              rename World => w4
              clear HB
              have HB := hbw4
              have c0 := cell_of_box (bx_later HB.out B_c.out) 0 rfl
              have c1 := cell_of_box (bx_later HB.out B_c.out) 1 rfl
              have c2 := cell_of_box (bx_later HB.out B_c.out) 2 rfl
              have c3 := cell_of_box (bx_later HB.out B_c.out) 3 rfl
              have c4 := cell_of_box (bx_later HB.out B_c.out) 4 rfl
              have s0 := cell_of_box (bx_later HB.out B_s.out) 0 rfl
              have s1 := cell_of_box (bx_later HB.out B_s.out) 1 rfl
              have s2 := cell_of_box (bx_later HB.out B_s.out) 2 rfl
              by_cases hlt4 : j < l1.length
              · obtain ⟨x, hx⟩ : ∃ x, l1[j] = x := ⟨_, rfl⟩
                obtain ⟨b1, o1, x1, e0, e1, e2, e3, e4, e5, e6, e7, e8, e9, e10, _⟩ := rd_prt (P1.out.later HB.out) rfl j hlt4 hx
                obtain ⟨⟨xk, xn, xs⟩, ⟨xd, xq⟩, xat, xtm, ⟨xfd, xfq⟩, xaa, xg⟩ := x
                have hnext : ((l1.take (j + 1)).any fun p => sameV p.v ⟨sk, sn, ss⟩) = (((l1.take j).any fun p => sameV p.v ⟨sk, sn, ss⟩) || sameV ⟨xk, xn, xs⟩ ⟨sk, sn, ss⟩) := by
                  rw [List.take_succ_eq_append_getElem hlt4, List.any_append, hx]; simp
                have hless : lessV ⟨sk, sn, ss⟩ ⟨xk, xn, xs⟩ = false := HMAX.out ⟨⟨xk, xn, xs⟩, ⟨xd, xq⟩, xat, xtm, ⟨xfd, xfq⟩, xaa, xg⟩ (by rw [← hx]; exact List.getElem_mem hlt4)
                have HNX := Lib.hid hnext
                have HLE := Lib.hid hless
                clear hx hnext hless
                cases hm : (l1.take j).any fun p => sameV p.v ⟨sk, sn, ss⟩
                all_goals
                  have HM := Lib.hid hm
                  clear hm
                · by_cases e1 : xk = sk
                  · subst e1
                    by_cases e2 : xn = sn
                    · subst e2
                      by_cases e3 : xs = ss
                      · subst e3
                        have HSM : Hid (sameV ⟨xk, xn, xs⟩ ⟨xk, xn, xs⟩ = true) := sameV_iff.2 rfl
                        have hbx := below_alloc w4 (.cells #[.int .i64 xk, .int .i64 xn, .string xs, .int .i64 xd, .int .i64 xq, .int .i64 xat, .int .i64 xtm, .int .i64 xfd, .int .i64 xfq, .int .i64 xaa, .bool xg] 32)
                        have s0' := cell_later hbx s0
                        have s1' := cell_later hbx s1
                        have s2' := cell_later hbx s2
                        have HBX := Lib.hid hbx
                        clear hbx
                        go_wp2_with fail
                        refine (refLessV_b (k := xk) (n := xn) (s := xs) (k' := xk) (n' := xn) (s' := xs) false HLE.out).mono ?_
                        rintro e w5 ⟨rfl, hb5⟩
                        replace HB := Lib.hid (below_then HB.out (below_then HBX.out hb5))
                        clear hb5
                        go_wp2_with fail
                        go_roundw
                        case rel => exact ⟨j + 1, by omega, by go_num, by rw [HNX.out, HM.out, HSM.out]; rfl, HB.out⟩
                        case measure => simp [intOf]; omega
                      · have b4 : ¬ xs.toList = ss.toList := fun h => e3 (toList_inj h)
                        have b5 : (xs.toList == ss.toList) = false := beq_eq_false_iff_ne.2 b4
                        have HSM : Hid (sameV ⟨xk, xn, xs⟩ ⟨xk, xn, ss⟩ = false) := not_true'.2 fun h => e3 (congrArg Val.s (sameV_iff.1 h))
                        clear e3
                        have hbx := below_alloc w4 (.cells #[.int .i64 xk, .int .i64 xn, .string xs, .int .i64 xd, .int .i64 xq, .int .i64 xat, .int .i64 xtm, .int .i64 xfd, .int .i64 xfq, .int .i64 xaa, .bool xg] 32)
                        have s0' := cell_later hbx s0
                        have s1' := cell_later hbx s1
                        have s2' := cell_later hbx s2
                        have HBX := Lib.hid hbx
                        clear hbx
                        go_wp2_with fail
                        refine (refLessV_b (k := xk) (n := xn) (s := ss) (k' := xk) (n' := xn) (s' := xs) false HLE.out).mono ?_
                        rintro e w5 ⟨rfl, hb5⟩
                        replace HB := Lib.hid (below_then HB.out (below_then HBX.out hb5))
                        clear hb5
                        go_wp2_with fail
                        go_roundw
                        case rel => exact ⟨j + 1, by omega, by go_num, by rw [HNX.out, HM.out, HSM.out]; rfl, HB.out⟩
                        case measure => simp [intOf]; omega
                    · have b2 : (xn == sn) = false := beq_eq_false_iff_ne.2 e2
                      have HSM : Hid (sameV ⟨xk, xn, xs⟩ ⟨xk, sn, ss⟩ = false) := not_true'.2 fun h => e2 (congrArg Val.n (sameV_iff.1 h))
                      clear e2
                      have hbx := below_alloc w4 (.cells #[.int .i64 xk, .int .i64 xn, .string xs, .int .i64 xd, .int .i64 xq, .int .i64 xat, .int .i64 xtm, .int .i64 xfd, .int .i64 xfq, .int .i64 xaa, .bool xg] 32)
                      have s0' := cell_later hbx s0
                      have s1' := cell_later hbx s1
                      have s2' := cell_later hbx s2
                      have HBX := Lib.hid hbx
                      clear hbx
                      go_wp2_with fail
                      refine (refLessV_b (k := xk) (n := sn) (s := ss) (k' := xk) (n' := xn) (s' := xs) false HLE.out).mono ?_
                      rintro e w5 ⟨rfl, hb5⟩
                      replace HB := Lib.hid (below_then HB.out (below_then HBX.out hb5))
                      clear hb5
                      go_wp2_with fail
                      go_roundw
                      case rel => exact ⟨j + 1, by omega, by go_num, by rw [HNX.out, HM.out, HSM.out]; rfl, HB.out⟩
                      case measure => simp [intOf]; omega
                  · have b1 : (xk == sk) = false := beq_eq_false_iff_ne.2 e1
                    have HSM : Hid (sameV ⟨xk, xn, xs⟩ ⟨sk, sn, ss⟩ = false) := not_true'.2 fun h => e1 (congrArg Val.k (sameV_iff.1 h))
                    clear e1
                    have hbx := below_alloc w4 (.cells #[.int .i64 xk, .int .i64 xn, .string xs, .int .i64 xd, .int .i64 xq, .int .i64 xat, .int .i64 xtm, .int .i64 xfd, .int .i64 xfq, .int .i64 xaa, .bool xg] 32)
                    have s0' := cell_later hbx s0
                    have s1' := cell_later hbx s1
                    have s2' := cell_later hbx s2
                    have HBX := Lib.hid hbx
                    clear hbx
                    go_wp2_with fail
                    refine (refLessV_b (k := sk) (n := sn) (s := ss) (k' := xk) (n' := xn) (s' := xs) false HLE.out).mono ?_
                    rintro e w5 ⟨rfl, hb5⟩
                    replace HB := Lib.hid (below_then HB.out (below_then HBX.out hb5))
                    clear hb5
                    go_wp2_with fail
                    go_roundw
                    case rel => exact ⟨j + 1, by omega, by go_num, by rw [HNX.out, HM.out, HSM.out]; rfl, HB.out⟩
                    case measure => simp [intOf]; omega
                · have hbx := below_alloc w4 (.cells #[.int .i64 xk, .int .i64 xn, .string xs, .int .i64 xd, .int .i64 xq, .int .i64 xat, .int .i64 xtm, .int .i64 xfd, .int .i64 xfq, .int .i64 xaa, .bool xg] 32)
                  have s0' := cell_later hbx s0
                  have s1' := cell_later hbx s1
                  have s2' := cell_later hbx s2
                  have HBX := Lib.hid hbx
                  clear hbx
                  go_wp2_with fail
                  refine (refLessV_b (k := sk) (n := sn) (s := ss) (k' := xk) (n' := xn) (s' := xs) false HLE.out).mono ?_
                  rintro e w5 ⟨rfl, hb5⟩
                  replace HB := Lib.hid (below_then HB.out (below_then HBX.out hb5))
                  clear hb5
                  go_wp2_with fail
                  go_roundw
                  case rel => exact ⟨j + 1, by omega, by go_num, by rw [HNX.out, HM.out]; rfl, HB.out⟩
                  case measure => simp [intOf]; omega
              · have hjn : j = l1.length := by omega
                subst hjn
                have hmt : (l1.any fun p => sameV p.v ⟨sk, sn, ss⟩) = true := by
                  obtain ⟨p, hp, he⟩ := HMET.out
                  exact List.any_eq_true.2 ⟨p, hp, sameV_iff.2 he⟩
                rw [List.take_of_length_le (Nat.le_refl _), hmt]
                have hlp : L.length - 1 < L.length := by have := HPOS.out; omega
                have hla := HLAST.out hlp
                obtain ⟨q, hq⟩ : ∃ q, L.length - 1 = q := ⟨_, rfl⟩
                have hql : q < L.length := by omega
                have hlq : L[q] = ⟨sk, sn, ss⟩ := by have h1 : L[L.length - 1] = L[q] := by congr 1
                                                     rw [← h1]; exact hla
                obtain ⟨b1, o1, x1, e0, e1, e2, _⟩ := rd_v (HV.out.later HB.out) rfl q hql hlq
                have q1 : (L.length : Int) - 1 = (q : Int) := by omega
                have q2 : (0 : Int) ≤ (q : Int) := by omega
                have q3 : (q : Int) < (L.length : Int) := by omega
                have q4 : decide ((1 : Int) ≤ (L.length : Int)) = true := decide_eq_true (by omega)
                have q5 : decide (1 ≤ L.length) = true := decide_eq_true (by omega)
                have q7 : ¬ L.length = 0 := by omega
                have hwr : IntKind.i64.wrap (q : Int) = (q : Int) := by rw [IntKind.wrap_i64]; omega
                clear hmt hla hlq hq
                have cA : ∀ d os, Calls Try.prog 11 #[] (grow (redrawn w4 d) os) fun e w'' => e = .returned (.bool true) ∧ ∃ p : Regrown, w'' = grow (redrawn w4 p.d) p.os := fun d os => Calls.regrown_of ((alive_any _))
                go_wp2_with fail
                have ke0 := cell_regrown e0
                have ke1 := cell_regrown e1
                have ke2 := cell_regrown e2
                have ks0 := cell_regrown s0
                have ks1 := cell_regrown s1
                have ks2 := cell_regrown s2
                refine wp_region_quiet_below (by kernel_rfl) (by kernel_rfl) ?_
                repeat (go_big_quiet_step (first | exact cA _ _))
                refine wpQuiet_nil ?_
                intro _ hw'
                obtain ⟨⟨dq, osq⟩, hw''⟩ := hw'
                subst hw''
                clear ke0 ke1 ke2 ks0 ks1 ks2 cA
                have hb6 := below_regrown w4 dq osq
                generalize grow (redrawn w4 dq) osq = w6 at *
                replace e0 := cell_later hb6 e0
                replace e1 := cell_later hb6 e1
                replace e2 := cell_later hb6 e2
                replace s0 := cell_later hb6 s0
                replace s1 := cell_later hb6 s1
                replace s2 := cell_later hb6 s2
                go_wp2_with fail
                go_ret
                exact ⟨by first | rfl | exact ret_bool (by simp), below_then HB1.out (below_then HB.out hb6)⟩

set_option maxRecDepth 100000 in
theorem lifted (os : Os) (started : os.Started) (H : Type) (enc : TypeId × Value → H) :
    ReturnsInHanded {} Try.checked os 8 .any (Rows.multiGreatestSpec.pre6 enc Try.prog Try.f8 Rows.multiGreatestRow.domain false) (Rows.multiGreatestSpec.post enc Try.prog Try.f8 false true false false) := by
  refine returnsInHanded_of_change_sized (C := Try.checked) ownKnob_none started (by kernel_rfl) Try.func8
    (ChangeSpec.witness6 (enc := enc) (C := Try.checked) false ⟨#[], #[.agg #[.int .i64 0, .int .i64 0, .int .i64 0, .string ⟨#[]⟩, .slice none 0 0]], []⟩ 8 (by kernel_rfl) (by kernel_rfl) (by kernel_rfl) (by kernel_rfl)) ?_
  intro W base args ds gs before hval0 hW hcnd hsz0 _
  have hval : ∀ (j : Nat) t v, Try.f8.params[j]? = some t → args[j]? = some v → Value.okWide Try.prog W .any base t v := hval0
  have hW' := hW
  obtain ⟨p, q, hA0, hV, rfl, hfz, hnd⟩ := hW
  have hA : DataW.TrodAll enc Try.prog W 0 (fun _ => true) true Try.f8.params.toList args.toList ds p := hA0
  have hsz : (DataW.weightsEach Try.prog (Try.f8.params.toList ++ Rows.multiGreatestSpec.plain.varTypes Try.prog) (ds ++ gs)).all (· ≤ reachBytes) = true := hsz0
  rw [Try.params8] at hA hval hsz
  obtain ⟨v0, vs0, d0, ds0, p0, q0, hargs, rfl, rfl, h0, r0r⟩ := trodAll_cons hA
  obtain ⟨rfl, rfl, rfl⟩ := trodAll_nil r0r
  obtain rfl : args = #[v0] := by cases args; simp_all
  obtain ⟨rfl, rfl⟩ := trodVars_none hV
  have g0 := sized_at hsz (j := 0) rfl rfl
  obtain ⟨y0_0, y0_1, y0_2, y0_3, rfl, f0_0⟩ := open_cell (hval 0 26 v0 rfl rfl) h0
  refine (walk y0_0 y0_1 y0_2 y0_3 W f0_0).mono fun e W' ⟨he, hg⟩ => ⟨_, he, law_post laidOut (by kernel_rfl) rfl Try.underlying4 rfl rfl hW' hg⟩

theorem over : Rows.multiGreatestRow.holds Try.pinned (OpenSpec.ofChange Rows.multiGreatestSpec) :=
  OpenClaim.holds_of_wide 8 Try.f8 rfl rfl rfl rfl rfl rfl rfl ⟨rfl, rfl, rfl, rfl, rfl⟩ rfl rfl rfl rfl rfl (by kernel_rfl) Try.func8 (by kernel_rfl)
    (of_decide_eq_true (by kernel_rfl)) (by unfold Func.isWrapper; first | (rw [if_pos (by decide +kernel)]; kernel_rfl) | (rw [if_neg (by decide +kernel)]; exact ⟨rfl, rfl⟩))
    (fun os started H enc _ => lifted os started H enc)

/-- THE STATEMENT. -/
theorem proved : Rows.MultiGreatestSaid :=
  over
#print axioms proved
end Go.Proofs.Ytagbaejgjhmokaa.multiGreatest
