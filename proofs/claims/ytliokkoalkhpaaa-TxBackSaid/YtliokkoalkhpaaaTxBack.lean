/-
  The law TxBack. (printed by tools/gen_l17.py)
-/
import Derived.Test.YtliokkoalkhpaaaWG
namespace Go.Proofs.Ytliokkoalkhpaaa.txBack
open Go.ChangeShapes Go.WideShapes Go.ChangeAt Go.RowKit Go.Sort Go.BigFrame Go.Proofs.Ytliokkoalkhpaaa
open Go.ChangeMaps (open_string shut_string)
attribute [local irreducible] FlowW

set_option maxRecDepth 100000 in
set_option maxHeartbeats 16000000 in
theorem walk (t : TxM) (c x : Int) (w : World) (hr : t.Reads w) (hb : t.Bd) (hc : 0 ≤ c ∧ c ≤ 65535) (hx : 0 ≤ x ∧ x ≤ 255) :
    Calls Try.prog 6 #[t.agg, .int .u16 c, .int .u8 x] w fun e w' => e = .returned (.bool true) ∧ Below w.heap.size w w' := by
  obtain ⟨dev, seq, time, deps, ops, els, fm, hands, note, whom, upto, vd, vo, ve, vh⟩ := t
  obtain ⟨hd, ho, he, hh⟩ := hr
  obtain ⟨hb1, hb2, hb3, hb4, hb5⟩ := hb
  replace hb1 : ∀ x ∈ [dev, seq, time, firmI fm, note, whom, upto], okI x := hb1
  dsimp only at hd ho he hh hb2 hb3 hb4 hb5
  obtain ⟨ad, cd, hvvd, hc1vd, hc2vd, -, -⟩ := id hd
  obtain ⟨nd, hnd⟩ : ∃ n, deps.length = n := ⟨_, rfl⟩
  rw [hnd] at hvvd hc1vd
  subst hvvd
  unfold maxLen at hc2vd
  have HND := Lib.hid hnd
  clear hnd
  obtain ⟨ao, co, hvvo, hc1vo, hc2vo, -, -⟩ := id ho.1
  obtain ⟨no, hno⟩ : ∃ n, ops.length = n := ⟨_, rfl⟩
  rw [hno] at hvvo hc1vo
  subst hvvo
  unfold maxLen at hc2vo
  have HNO := Lib.hid hno
  clear hno
  obtain ⟨ae, ce, hvve, hc1ve, hc2ve, -, -⟩ := id he.1
  obtain ⟨ne, hne⟩ : ∃ n, els.length = n := ⟨_, rfl⟩
  rw [hne] at hvve hc1ve
  subst hvve
  unfold maxLen at hc2ve
  have HNE := Lib.hid hne
  clear hne
  obtain ⟨ah, ch, hvvh, hc1vh, hc2vh, -, -⟩ := id hh
  obtain ⟨nh, hnh⟩ : ∃ n, hands.length = n := ⟨_, rfl⟩
  rw [hnh] at hvvh hc1vh
  subst hvvh
  unfold maxLen at hc2vh
  have HNH := Lib.hid hnh
  clear hnh
  change Calls Try.prog 6 #[.agg #[.int .i64 dev, .int .i64 seq, .int .i64 time, .slice ad nd cd, .slice ao no co, .slice ae ne ce, .bool fm, .slice ah nh ch, .int .i64 note, .int .i64 whom, .int .i64 upto], .int .u16 c, .int .u8 x] w _
  obtain ⟨w1, hw1⟩ : ∃ w1, w.alloc (.cells #[(.int .i64 dev), (.int .i64 seq), (.int .i64 time), (.slice ad nd cd), (.slice ao no co), (.slice ae ne ce), (.bool fm), (.slice ah nh ch), (.int .i64 note), (.int .i64 whom), (.int .i64 upto)] 27) = w1 := ⟨_, rfl⟩
  have hb1 : Below w.heap.size w w1 := by rw [← hw1]; exact below_alloc _ _
  have b_p : Bx w1 (w.heap.size) #[(.int .i64 dev), (.int .i64 seq), (.int .i64 time), (.slice ad nd cd), (.slice ao no co), (.slice ae ne ce), (.bool fm), (.slice ah nh ch), (.int .i64 note), (.int .i64 whom), (.int .i64 upto)] 27 := by rw [← hw1]; exact bx_new (by simp)
  have HW := Lib.hid hw1
  have HB1 := Lib.hid hb1
  have HB := Lib.hid (Below.refl w1.heap.size w1)
  have B_p := Lib.hid b_p
  have p0 := cell_of_box (bx_later HB.out B_p.out) 0 rfl
  have p1 := cell_of_box (bx_later HB.out B_p.out) 1 rfl
  have p2 := cell_of_box (bx_later HB.out B_p.out) 2 rfl
  have p3 := cell_of_box (bx_later HB.out B_p.out) 3 rfl
  have p4 := cell_of_box (bx_later HB.out B_p.out) 4 rfl
  have p5 := cell_of_box (bx_later HB.out B_p.out) 5 rfl
  have p6 := cell_of_box (bx_later HB.out B_p.out) 6 rfl
  have p7 := cell_of_box (bx_later HB.out B_p.out) 7 rfl
  have p8 := cell_of_box (bx_later HB.out B_p.out) 8 rfl
  have p9 := cell_of_box (bx_later HB.out B_p.out) 9 rfl
  have p10 := cell_of_box (bx_later HB.out B_p.out) 10 rfl
  clear hw1 hb1 b_p
  have HD := Lib.hid (hd.later HB1.out)
  have HO := Lib.hid (ho.later HB1.out)
  have HE := Lib.hid (he.later HB1.out)
  have HH := Lib.hid (hh.later HB1.out)
  have HB1_ := Lib.hid hb1
  have HB2_ := Lib.hid hb2
  have HB3_ := Lib.hid hb3
  have HB4_ := Lib.hid hb4
  have HB5_ := Lib.hid hb5
  clear hd ho he hh hb1 hb2 hb3 hb4 hb5
  obtain ⟨bt, hbt⟩ : ∃ bt, bytesT (⟨dev, seq, time, trimL deps, ops.map OpM.op, els.map OpM.op, fm, hands, note, whom, upto⟩ : TxT) = bt := ⟨_, rfl⟩
  obtain ⟨nb, hnb⟩ : ∃ nb, bt.length = nb := ⟨_, rfl⟩
  have hnp : 1 ≤ nb := by rw [← hnb, ← hbt]; exact bytesT_pos _
  obtain ⟨k, hk, hkn⟩ := rem_of hc hnp
  obtain ⟨y, hy⟩ := byte_of hx
  have HBT := Lib.hid hbt
  have HNB := Lib.hid hnb
  have HC := Lib.hid hc
  have HY := Lib.hid hy
  clear hbt hnb hx hy
  cases hf0 : fewQ nd nh ops els
  all_goals
    have F0 := Lib.hid hf0
  · clear hf0
    go_enter Try.func6, Try.ntmps6
    go_wp2_with fail
    rw [HW.out]
    go_wp2_with fail
    refine (few_b false F0.out HNO.out HNE.out (HO.out.later HB.out) (HE.out.later HB.out)).mono ?_
    rintro e wn ⟨rfl, hb⟩
    replace HB := Lib.hid (below_then HB.out (by first | exact hb | exact below_alloc_then hb | exact below_alloc_then (below_alloc_then hb)))
    clear hb p0 p1 p2 p3 p4 p5 p6 p7 p8 p9 p10
    have p0 := cell_of_box (bx_later HB.out B_p.out) 0 rfl
    have p1 := cell_of_box (bx_later HB.out B_p.out) 1 rfl
    have p2 := cell_of_box (bx_later HB.out B_p.out) 2 rfl
    have p3 := cell_of_box (bx_later HB.out B_p.out) 3 rfl
    have p4 := cell_of_box (bx_later HB.out B_p.out) 4 rfl
    have p5 := cell_of_box (bx_later HB.out B_p.out) 5 rfl
    have p6 := cell_of_box (bx_later HB.out B_p.out) 6 rfl
    have p7 := cell_of_box (bx_later HB.out B_p.out) 7 rfl
    have p8 := cell_of_box (bx_later HB.out B_p.out) 8 rfl
    have p9 := cell_of_box (bx_later HB.out B_p.out) 9 rfl
    have p10 := cell_of_box (bx_later HB.out B_p.out) 10 rfl
    go_wp2_with fail
    refine (alive_any _).mono ?_
    rintro e wn ⟨rfl, hb⟩
    replace HB := Lib.hid (below_then HB.out (by first | exact hb | exact below_alloc_then hb | exact below_alloc_then (below_alloc_then hb)))
    clear hb p0 p1 p2 p3 p4 p5 p6 p7 p8 p9 p10
    have p0 := cell_of_box (bx_later HB.out B_p.out) 0 rfl
    have p1 := cell_of_box (bx_later HB.out B_p.out) 1 rfl
    have p2 := cell_of_box (bx_later HB.out B_p.out) 2 rfl
    have p3 := cell_of_box (bx_later HB.out B_p.out) 3 rfl
    have p4 := cell_of_box (bx_later HB.out B_p.out) 4 rfl
    have p5 := cell_of_box (bx_later HB.out B_p.out) 5 rfl
    have p6 := cell_of_box (bx_later HB.out B_p.out) 6 rfl
    have p7 := cell_of_box (bx_later HB.out B_p.out) 7 rfl
    have p8 := cell_of_box (bx_later HB.out B_p.out) 8 rfl
    have p9 := cell_of_box (bx_later HB.out B_p.out) 9 rfl
    have p10 := cell_of_box (bx_later HB.out B_p.out) 10 rfl
    go_wp2_with fail
    go_ret
    exact ⟨by first | rfl | exact ret_bool (by simp), below_then HB1.out HB.out⟩
  · have FF := Lib.hid (few_facts F0.out HB3_.out HB4_.out)
    have HL1 : Hid (nd ≤ 1000000) := by show _ ≤ _; have := FF.out.fd; omega
    have HL2 : Hid (no ≤ 2000) := by show _ ≤ _; have := FF.out.fo; have := HNO.out; omega
    have HL3 : Hid (ne ≤ 2000) := by show _ ≤ _; have := FF.out.fe; have := HNE.out; omega
    have HL4 : Hid (nh ≤ 2000) := by show _ ≤ _; have := FF.out.fh; omega
    clear hf0
    have hok := (trim_ok HB1_.out (by have := HL1.out; have := HND.out; omega) HB2_.out (by have := HL2.out; have := HNO.out; omega) FF.out.fof (by have := HL3.out; have := HNE.out; omega) FF.out.fef (by have := HL4.out; have := HNH.out; omega) HB5_.out)
    have hpt := parseT_bytes hok
    have hps := parseT_short hok (k := k) (by rw [HBT.out, HNB.out]; exact hkn)
    have hpl := parseT_long hok y
    rw [HBT.out] at hpt hps hpl
    have HPT := Lib.hid hpt
    have HPS := Lib.hid hps
    have HPL := Lib.hid hpl
    clear hok hpt hps hpl
    go_enter Try.func6, Try.ntmps6
    go_wp2_with fail
    rw [HW.out]
    go_wp2_with fail
    refine (few_b true F0.out HNO.out HNE.out (HO.out.later HB.out) (HE.out.later HB.out)).mono ?_
    rintro e wn ⟨rfl, hb⟩
    replace HB := Lib.hid (below_then HB.out (by first | exact hb | exact below_alloc_then hb | exact below_alloc_then (below_alloc_then hb)))
    clear hb p0 p1 p2 p3 p4 p5 p6 p7 p8 p9 p10
    have p0 := cell_of_box (bx_later HB.out B_p.out) 0 rfl
    have p1 := cell_of_box (bx_later HB.out B_p.out) 1 rfl
    have p2 := cell_of_box (bx_later HB.out B_p.out) 2 rfl
    have p3 := cell_of_box (bx_later HB.out B_p.out) 3 rfl
    have p4 := cell_of_box (bx_later HB.out B_p.out) 4 rfl
    have p5 := cell_of_box (bx_later HB.out B_p.out) 5 rfl
    have p6 := cell_of_box (bx_later HB.out B_p.out) 6 rfl
    have p7 := cell_of_box (bx_later HB.out B_p.out) 7 rfl
    have p8 := cell_of_box (bx_later HB.out B_p.out) 8 rfl
    have p9 := cell_of_box (bx_later HB.out B_p.out) 9 rfl
    have p10 := cell_of_box (bx_later HB.out B_p.out) 10 rfl
    go_wp2_with fail
    refine (bytesT_any fm deps ops els hands _ HND.out HNO.out HNE.out HNH.out (HD.out.later HB.out) (HO.out.later HB.out) (HE.out.later HB.out) (HH.out.later HB.out) HB1_.out HL1.out HB2_.out HL2.out FF.out.fof HL3.out FF.out.fef HL4.out HB5_.out).mono ?_
    rintro e w2 ⟨vb, rfl, hob, hb⟩
    rw [HBT.out] at hob
    obtain ⟨ba, bcap, rfl, hbc1, hbc2, -, -⟩ := Rd.of_own hob
    have hrb := Rd.of_own hob
    rw [HNB.out] at hrb hbc1 ⊢
    unfold maxLen at hbc2
    have HRB := Lib.hid hrb
    clear hob hrb
    replace HB := Lib.hid (below_then HB.out (by first | exact hb | exact below_alloc_then hb | exact below_alloc_then (below_alloc_then hb)))
    clear hb p0 p1 p2 p3 p4 p5 p6 p7 p8 p9 p10
    have p0 := cell_of_box (bx_later HB.out B_p.out) 0 rfl
    have p1 := cell_of_box (bx_later HB.out B_p.out) 1 rfl
    have p2 := cell_of_box (bx_later HB.out B_p.out) 2 rfl
    have p3 := cell_of_box (bx_later HB.out B_p.out) 3 rfl
    have p4 := cell_of_box (bx_later HB.out B_p.out) 4 rfl
    have p5 := cell_of_box (bx_later HB.out B_p.out) 5 rfl
    have p6 := cell_of_box (bx_later HB.out B_p.out) 6 rfl
    have p7 := cell_of_box (bx_later HB.out B_p.out) 7 rfl
    have p8 := cell_of_box (bx_later HB.out B_p.out) 8 rfl
    have p9 := cell_of_box (bx_later HB.out B_p.out) 9 rfl
    have p10 := cell_of_box (bx_later HB.out B_p.out) 10 rfl
    have hnl : nb ≤ 900000000 := by
      have h1 := HBT.out
      have h2 := HNB.out
      rw [← h2, ← h1]
      exact bytesT_len (by have := HL1.out; have := HND.out; omega) FF.out.fo FF.out.fof FF.out.fe FF.out.fef (by have := HL4.out; have := HNH.out; omega)
    go_wp2_with fail
    refine (parse_some HRB.out HNB.out (by omega) HPT.out).mono ?_
    rintro e w3 ⟨t3, htx, he, hr3, hb⟩
    obtain ⟨dev3, seq3, time3, deps3, ops3, els3, fm3, hands3, note3, whom3, upto3, vd3, vo3, ve3, vh3⟩ := t3
    obtain ⟨hd3, ho3, he3, hh3⟩ := hr3
    dsimp only at hd3 ho3 he3 hh3
    obtain ⟨ad3, cd3, hvvd3, hc1vd3, hc2vd3, -, -⟩ := id hd3
    obtain ⟨nd3, hnd3⟩ : ∃ n, deps3.length = n := ⟨_, rfl⟩
    rw [hnd3] at hvvd3 hc1vd3
    subst hvvd3
    unfold maxLen at hc2vd3
    have HND3 := Lib.hid hnd3
    clear hnd3
    obtain ⟨ao3, co3, hvvo3, hc1vo3, hc2vo3, -, -⟩ := id ho3.1
    obtain ⟨no3, hno3⟩ : ∃ n, ops3.length = n := ⟨_, rfl⟩
    rw [hno3] at hvvo3 hc1vo3
    subst hvvo3
    unfold maxLen at hc2vo3
    have HNO3 := Lib.hid hno3
    clear hno3
    obtain ⟨ae3, ce3, hvve3, hc1ve3, hc2ve3, -, -⟩ := id he3.1
    obtain ⟨ne3, hne3⟩ : ∃ n, els3.length = n := ⟨_, rfl⟩
    rw [hne3] at hvve3 hc1ve3
    subst hvve3
    unfold maxLen at hc2ve3
    have HNE3 := Lib.hid hne3
    clear hne3
    obtain ⟨ah3, ch3, hvvh3, hc1vh3, hc2vh3, -, -⟩ := id hh3
    obtain ⟨nh3, hnh3⟩ : ∃ n, hands3.length = n := ⟨_, rfl⟩
    rw [hnh3] at hvvh3 hc1vh3
    subst hvvh3
    unfold maxLen at hc2vh3
    have HNH3 := Lib.hid hnh3
    clear hnh3
    obtain rfl : e = .returned (.tuple #[.agg #[.int .i64 dev3, .int .i64 seq3, .int .i64 time3, .slice ad3 nd3 cd3, .slice ao3 no3 co3, .slice ae3 ne3 ce3, .bool fm3, .slice ah3 nh3 ch3, .int .i64 note3, .int .i64 whom3, .int .i64 upto3], .int .i64 0]) := he
    replace htx := htx.symm
    simp only [TxM.tx, TxT.mk.injEq] at htx
    obtain ⟨rfl, rfl, rfl, hdt, hot, het, rfl, rfl, rfl, rfl, rfl⟩ := htx
    have HDT := Lib.hid hdt.symm
    have HOT := Lib.hid hot.symm
    have HET := Lib.hid het.symm
    have HD3 := Lib.hid hd3
    have HO3 := Lib.hid ho3
    have HE3 := Lib.hid he3
    have HH3 := Lib.hid hh3
    replace HRB := Lib.hid (HRB.out.later hb)
    clear hd3 ho3 he3 hh3 hdt hot het
    replace HB := Lib.hid (below_then HB.out (by first | exact hb | exact below_alloc_then hb | exact below_alloc_then (below_alloc_then hb)))
    clear hb p0 p1 p2 p3 p4 p5 p6 p7 p8 p9 p10
    have p0 := cell_of_box (bx_later HB.out B_p.out) 0 rfl
    have p1 := cell_of_box (bx_later HB.out B_p.out) 1 rfl
    have p2 := cell_of_box (bx_later HB.out B_p.out) 2 rfl
    have p3 := cell_of_box (bx_later HB.out B_p.out) 3 rfl
    have p4 := cell_of_box (bx_later HB.out B_p.out) 4 rfl
    have p5 := cell_of_box (bx_later HB.out B_p.out) 5 rfl
    have p6 := cell_of_box (bx_later HB.out B_p.out) 6 rfl
    have p7 := cell_of_box (bx_later HB.out B_p.out) 7 rfl
    have p8 := cell_of_box (bx_later HB.out B_p.out) 8 rfl
    have p9 := cell_of_box (bx_later HB.out B_p.out) 9 rfl
    have p10 := cell_of_box (bx_later HB.out B_p.out) 10 rfl
    go_upto_region 5 with fail
    clear p0 p1 p2 p3 p4 p5 p6 p7 p8 p9 p10
    obtain ⟨w4, hw4⟩ : ∃ w4, w3.alloc (.cells #[.int .i64 dev, .int .i64 seq, .int .i64 time, .slice ad3 nd3 cd3, .slice ao3 no3 co3, .slice ae3 ne3 ce3, .bool fm, .slice ah3 nh3 ch3, .int .i64 note, .int .i64 whom, .int .i64 upto] 27) = w4 := ⟨_, rfl⟩
    rw [hw4]
    have hb : Below w3.heap.size w3 w4 := by rw [← hw4]; exact below_alloc _ _
    have hx4 : Bx w4 w3.heap.size #[.int .i64 dev, .int .i64 seq, .int .i64 time, .slice ad3 nd3 cd3, .slice ao3 no3 co3, .slice ae3 ne3 ce3, .bool fm, .slice ah3 nh3 ch3, .int .i64 note, .int .i64 whom, .int .i64 upto] 27 := by rw [← hw4]; exact bx_new rfl
    obtain ⟨gx, hgx⟩ : ∃ gx, w3.heap.size = gx := ⟨_, rfl⟩
    rw [hgx] at hx4 ⊢
    have HX := Lib.hid hx4
    replace HRB := Lib.hid (HRB.out.later hb)
    replace HD3 := Lib.hid (HD3.out.later hb)
    replace HO3 := Lib.hid (HO3.out.later hb)
    replace HE3 := Lib.hid (HE3.out.later hb)
    replace HH3 := Lib.hid (HH3.out.later hb)
    replace HB := Lib.hid (below_then HB.out hb)
    clear hb hx4 hw4 hgx
    have p0 := cell_of_box (bx_later HB.out B_p.out) 0 rfl
    have x0 := cell_of_box HX.out 0 rfl
    have p1 := cell_of_box (bx_later HB.out B_p.out) 1 rfl
    have x1 := cell_of_box HX.out 1 rfl
    have p2 := cell_of_box (bx_later HB.out B_p.out) 2 rfl
    have x2 := cell_of_box HX.out 2 rfl
    have p3 := cell_of_box (bx_later HB.out B_p.out) 3 rfl
    have x3 := cell_of_box HX.out 3 rfl
    have p4 := cell_of_box (bx_later HB.out B_p.out) 4 rfl
    have x4 := cell_of_box HX.out 4 rfl
    have p5 := cell_of_box (bx_later HB.out B_p.out) 5 rfl
    have x5 := cell_of_box HX.out 5 rfl
    have p6 := cell_of_box (bx_later HB.out B_p.out) 6 rfl
    have x6 := cell_of_box HX.out 6 rfl
    have p7 := cell_of_box (bx_later HB.out B_p.out) 7 rfl
    have x7 := cell_of_box HX.out 7 rfl
    have p8 := cell_of_box (bx_later HB.out B_p.out) 8 rfl
    have x8 := cell_of_box HX.out 8 rfl
    have p9 := cell_of_box (bx_later HB.out B_p.out) 9 rfl
    have x9 := cell_of_box HX.out 9 rfl
    have p10 := cell_of_box (bx_later HB.out B_p.out) 10 rfl
    have x10 := cell_of_box HX.out 10 rfl
    have e0 : ((nb : Int) == 0) = false := by simp; omega
    have HSM : Hid (SameTx (⟨dev, seq, time, deps3, ops3.map OpM.op, els3.map OpM.op, fm, hands, note, whom, upto⟩ : TxT) ⟨dev, seq, time, deps, ops.map OpM.op, els.map OpM.op, fm, hands, note, whom, upto⟩) := by
      refine ⟨rfl, rfl, rfl, rfl, rfl, rfl, rfl, rfl, ?_, HOT.out, HET.out⟩
      show SameV deps3 deps
      rw [HDT.out]
      exact fun q => ofV_trim deps q
    have HD3L : Hid (deps3.length ≤ 1000000) := by show _ ≤ _; have h1 := HDT.out; have h2 := trimL_len deps; have h3 := HL1.out; have h4 := HND.out; rw [h1]; omega
    have hnd3 : nd3 ≤ 1000000000 := by have := HD3L.out; have := HND3.out; omega
    have hnd1 : nd ≤ 1000000000 := by have := HL1.out; omega
    refine wp_region_flow (by kernel_rfl) 22 [(10, ⟨fun v => v = .bool true, fun _ _ _ _ => True⟩), (18, ⟨fun _ => True, fun v _ _ w' => Rd w' v (trimL deps).length ((trimL deps).map ic)⟩), (19, ⟨fun v => v = .bool true, fun _ _ _ _ => True⟩)] (by kernel_rfl) ?_ ?_ ?_
    · intro x hx
      simp only [List.mem_cons, List.not_mem_nil, or_false] at hx
      rcases hx with rfl | rfl | rfl
      · exact ⟨_, rfl⟩
      · exact ⟨.bool true, trivial⟩
      · exact ⟨_, rfl⟩
    · intro x hx v lo hi w w' h hb
      simp only [List.mem_cons, List.not_mem_nil, or_false] at hx
      rcases hx with rfl | rfl | rfl
      · exact trivial
      · exact h.later hb
      · exact trivial
    · intro lo hi
      have kp0 := cell_regrown p0
      have kp1 := cell_regrown p1
      have kp2 := cell_regrown p2
      have kp3 := cell_regrown p3
      have kp4 := cell_regrown p4
      have kp5 := cell_regrown p5
      have kp6 := cell_regrown p6
      have kp7 := cell_regrown p7
      have kp8 := cell_regrown p8
      have kp9 := cell_regrown p9
      have kp10 := cell_regrown p10
      have kx0 := cell_regrown x0
      have kx1 := cell_regrown x1
      have kx2 := cell_regrown x2
      have kx3 := cell_regrown x3
      have kx4 := cell_regrown x4
      have kx5 := cell_regrown x5
      have kx6 := cell_regrown x6
      have kx7 := cell_regrown x7
      have kx8 := cell_regrown x8
      have kx9 := cell_regrown x9
      have kx10 := cell_regrown x10
      refine flowW_plain rfl ?_
      go_big_quiet_step (fail)
      refine wpQuiet_nil ?_
      refine flowW_plain rfl ?_
      go_big_quiet_step (fail)
      refine wpQuiet_nil ?_
      refine flowW_plain rfl ?_
      go_big_quiet_step (fail)
      refine wpQuiet_nil ?_
      refine flowW_plain rfl ?_
      go_big_quiet_step (fail)
      refine wpQuiet_nil ?_
      refine flowW_plain rfl ?_
      go_big_quiet_step (fail)
      refine wpQuiet_nil ?_
      refine flowW_plain rfl ?_
      go_big_quiet_step (fail)
      refine wpQuiet_nil ?_
      refine flowW_plain rfl ?_
      go_big_quiet_step (fail)
      refine wpQuiet_nil ?_
      refine flowW_plain rfl ?_
      go_big_quiet_step (fail)
      refine wpQuiet_nil ?_
      refine flowW_plain rfl ?_
      go_big_quiet_step (fail)
      refine wpQuiet_nil ?_
      refine flowW_plain rfl ?_
      go_big_quiet_step (fail)
      refine wpQuiet_nil ?_
      refine flowW_call rfl rfl ?_ ?_
      · intro W hW hF K hK
        clear kp0 kp1 kp2 kp3 kp4 kp5 kp6 kp7 kp8 kp9 kp10 kx0 kx1 kx2 kx3 kx4 kx5 kx6 kx7 kx8 kx9 kx10
        go_wp2_with fail
        refine (sameTx_any true fm deps3 ops3 els3 hands fm deps ops els hands _ HND3.out HNH3.out (HD3.out.later hW) (HO3.out.later hW) (HE3.out.later hW) (HH3.out.later hW) hnd3 HND.out HNH.out (HD.out.later (below_then HB.out hW)) (HO.out.later (below_then HB.out hW)) (HE.out.later (below_then HB.out hW)) (HH.out.later (below_then HB.out hW)) hnd1 ⟨fun _ => HSM.out, fun _ => rfl⟩).mono ?_
        rintro e wq ⟨rfl, hbq⟩
        go_wp2_with fail
        exact hK _ _ rfl trivial hbq
      rintro v rfl K hK
      go_simp
      refine hK _ ?_
      clear hK K
      refine flowW_plain rfl ?_
      go_big_quiet_step (fail)
      refine wpQuiet_nil ?_
      refine flowW_plain rfl ?_
      go_big_quiet_step (fail)
      refine wpQuiet_nil ?_
      refine flowW_plain rfl ?_
      go_big_quiet_step (fail)
      refine wpQuiet_nil ?_
      refine flowW_plain rfl ?_
      go_big_quiet_step (fail)
      refine wpQuiet_nil ?_
      refine flowW_plain rfl ?_
      go_big_quiet_step (fail)
      refine wpQuiet_nil ?_
      refine flowW_plain rfl ?_
      go_big_quiet_step (fail)
      refine wpQuiet_nil ?_
      refine flowW_plain rfl ?_
      go_big_quiet_step (fail)
      refine wpQuiet_nil ?_
      refine flowW_call rfl rfl ?_ ?_
      · intro W hW hF K hK
        clear kp0 kp1 kp2 kp3 kp4 kp5 kp6 kp7 kp8 kp9 kp10 kx0 kx1 kx2 kx3 kx4 kx5 kx6 kx7 kx8 kx9 kx10
        go_wp2_with fail
        refine (refTrim_b (HD.out.later (below_then HB.out hW))).mono ?_
        rintro e wq ⟨vq, rfl, hoq, hbq⟩
        go_wp2_with fail
        exact hK _ _ trivial hoq hbq
      rintro v - K hK
      go_simp
      refine hK _ ?_
      clear hK K
      refine flowW_call rfl rfl ?_ ?_
      · intro W hW hF K hK
        clear kp0 kp1 kp2 kp3 kp4 kp5 kp6 kp7 kp8 kp9 kp10 kx0 kx1 kx2 kx3 kx4 kx5 kx6 kx7 kx8 kx9 kx10
        have h18 := hF 18 rfl
        go_wp2_with fail
        refine (refEqual_t (HD3.out.later hW) h18 HD3L.out HDT.out).mono ?_
        rintro e wq ⟨rfl, hbq⟩
        go_wp2_with fail
        exact hK _ _ rfl trivial hbq
      rintro v rfl K hK
      go_simp
      refine hK _ ?_
      clear hK K
      refine flowW_plain rfl ?_
      go_big_quiet_step (fail)
      refine wpQuiet_nil ?_
      refine flowW_plain rfl ?_
      go_big_quiet_step (fail)
      refine wpQuiet_nil ?_
      refine flowW_end fun w5 hw5 hF hD => ?_
      clear kp0 kp1 kp2 kp3 kp4 kp5 kp6 kp7 kp8 kp9 kp10 kx0 kx1 kx2 kx3 kx4 kx5 kx6 kx7 kx8 kx9 kx10
      simp only [List.drop_succ_cons, List.drop_zero]
      have HRB5 := Lib.hid (HRB.out.later hw5)
      replace HB := Lib.hid (below_then HB.out hw5)
      clear hw5 hF hD p0 x0 p1 x1 p2 x2 p3 x3 p4 x4 p5 x5 p6 x6 p7 x7 p8 x8 p9 x9 p10 x10
      obtain ⟨sa, sc, hsl, hsr⟩ := run_part_hi elB HRB5.out (by simp [HNB.out]) k (by omega)
      rw [Nat.mul_one, ← List.map_take] at hsr
      have HSR := Lib.hid hsr
      have HTL : Hid ((bt.take k).length = k) := by show _ = _; rw [List.length_take, HNB.out]; omega
      obtain ⟨fa, hfl, hfr⟩ := run_part_full elB HRB5.out (by simp [HNB.out])
      have HFR := Lib.hid hfr
      clear hsr hfr
      obtain ⟨hc1, hc2⟩ := HC.out
      go_wp2_with fail
      refine (parse_none HSR.out HTL.out (by omega) HPS.out).mono ?_
      rintro e w6 ⟨rfl, hb⟩
      go_upto_region 8 with fail
      obtain ⟨w7, hw7⟩ : ∃ w7, w6.alloc (.cells #[.int .i64 0, .int .i64 0, .int .i64 0, .slice none 0 0, .slice none 0 0, .slice none 0 0, .bool false, .slice none 0 0, .int .i64 0, .int .i64 0, .int .i64 0] 27) = w7 := ⟨_, rfl⟩
      rw [hw7]
      have hb7 : Below w5.heap.size w5 w7 := by rw [← hw7]; exact below_then hb (below_alloc _ _)
      replace HB := Lib.hid (below_then HB.out hb7)
      have hfr7 : Rd (w7.alloc (.cells #[.int .u8 x] 5)) (.slice fa nb nb) nb (bt.map bc) := (HFR.out.later hb7).later (below_alloc _ _)
      clear hb hb7 hw7 hsl
      go_wp2_with (at_builtin; refine wpList_app_full (y := .slice (some ⟨w7.heap.size, 0, none⟩) 1 1) (m := 1) (news := [.int .u8 x]) (n := nb) (ao := fa) elB ⟨_, elB.ty, fun k h => nomatch h⟩ rfl _ _ rfl rfl rfl hfr7 (by simp [HNB.out]) (Src.of_rd (rd_lit w7 #[.int .u8 x] 5 1 (by decide)) rfl) (by unfold maxLen; omega) (by omega) ?_; intro v8 w8 hr8 hb8; have HR8 : Hid (Rd w8 v8 (nb + 1) ((bt ++ [y]).map bc)) := (by show Rd _ _ _ _; rw [List.map_append, List.map_singleton, ← HY.out]; exact hr8); have HB8 := Lib.hid (below_then HB.out (below_alloc_then hb8)); clear hr8 hb8 hfr7)
      refine (parse_none HR8.out (by simp [HNB.out]) (by omega) HPL.out).mono ?_
      rintro e w9 ⟨rfl, hb⟩
      have HB9 := Lib.hid (below_then HB8.out hb)
      clear hb
      go_wp2_with fail
      refine (alive_any _).mono ?_
      rintro e w10 ⟨rfl, hb⟩
      have HB10 := Lib.hid (below_then HB9.out (below_alloc_then hb))
      clear hb
      go_wp2_with fail
      go_ret
      exact ⟨rfl, below_then HB1.out HB10.out⟩

set_option maxRecDepth 100000 in
theorem lifted (os : Os) (started : os.Started) (H : Type) (enc : TypeId × Value → H) :
    ReturnsInHanded {} Try.checked os 6 .any (Rows.txBackSpec.pre6 enc Try.prog Try.f6 Rows.txBackRow.domain false) (Rows.txBackSpec.post enc Try.prog Try.f6 false true false false) := by
  refine returnsInHanded_of_change_sized (C := Try.checked) ownKnob_none started (by kernel_rfl) Try.func6
    (ChangeSpec.witness6 (enc := enc) (C := Try.checked) false ⟨#[], #[.agg #[.int .i64 0, .int .i64 0, .int .i64 0, .slice none 0 0, .slice none 0 0, .slice none 0 0, .bool false, .slice none 0 0, .int .i64 0, .int .i64 0, .int .i64 0], .int .u16 0, .int .u8 0], []⟩ 8 (by kernel_rfl) (by kernel_rfl) (by kernel_rfl) (by kernel_rfl)) ?_
  intro W base args ds gs before hval0 hW hcnd hsz0 _
  have hval : ∀ (j : Nat) t v, Try.f6.params[j]? = some t → args[j]? = some v → Value.okWide Try.prog W .any base t v := hval0
  have hW' := hW
  obtain ⟨p, q, hA0, hV, rfl, hfz, hnd⟩ := hW
  have hA : DataW.TrodAll enc Try.prog W 0 (fun _ => true) true Try.f6.params.toList args.toList ds p := hA0
  have hsz : (DataW.weightsEach Try.prog (Try.f6.params.toList ++ Rows.txBackSpec.plain.varTypes Try.prog) (ds ++ gs)).all (· ≤ reachBytes) = true := hsz0
  rw [Try.params6] at hA hval hsz
  obtain ⟨v0, vs0, d0, ds0, p0, q0, hargs, rfl, rfl, h0, r0r⟩ := trodAll_cons hA
  obtain ⟨v1, vs1, d1, ds1, p1, q1, rfl, rfl, rfl, h1, r1r⟩ := trodAll_cons r0r
  obtain ⟨v2, vs2, d2, ds2, p2, q2, rfl, rfl, rfl, h2, r2r⟩ := trodAll_cons r1r
  obtain ⟨rfl, rfl, rfl⟩ := trodAll_nil r2r
  obtain rfl : args = #[v0, v1, v2] := by cases args; simp_all
  obtain ⟨rfl, rfl⟩ := trodVars_none hV
  have g0 := sized_at hsz (j := 0) rfl rfl
  have g1 := sized_at hsz (j := 1) rfl rfl
  have g2 := sized_at hsz (j := 2) rfl rfl
  obtain ⟨y0_0, rfl, f0_0, f0_1⟩ := open_tx (hval 0 27 v0 rfl rfl) h0
  obtain ⟨a1, rfl, rfl, rfl, w1⟩ := open_int Try.underlying45 (hval 1 45 v1 rfl rfl) h1
  obtain ⟨a2, rfl, rfl, rfl, w2⟩ := open_int Try.underlying5 (hval 2 5 v2 rfl rfl) h2
  refine (walk y0_0 a1 a2 W f0_0 f0_1 (wf_u16T w1) (wf_u8T w2)).mono fun e W' ⟨he, hg⟩ => ⟨_, he, law_post laidOut (by kernel_rfl) rfl Try.underlying4 rfl rfl hW' hg⟩

theorem over : Rows.txBackRow.holds Try.pinned (OpenSpec.ofChange Rows.txBackSpec) :=
  OpenClaim.holds_of_wide 6 Try.f6 rfl rfl rfl rfl rfl rfl rfl ⟨rfl, rfl, rfl, rfl, rfl⟩ rfl rfl rfl rfl rfl (by kernel_rfl) Try.func6 (by kernel_rfl)
    (of_decide_eq_true (by kernel_rfl)) (by unfold Func.isWrapper; first | (rw [if_pos (by decide +kernel)]; kernel_rfl) | (rw [if_neg (by decide +kernel)]; exact ⟨rfl, rfl⟩))
    (fun os started H enc _ => lifted os started H enc)

/-- THE STATEMENT. -/
theorem proved : Rows.TxBackSaid :=
  over
#print axioms proved
end Go.Proofs.Ytliokkoalkhpaaa.txBack
