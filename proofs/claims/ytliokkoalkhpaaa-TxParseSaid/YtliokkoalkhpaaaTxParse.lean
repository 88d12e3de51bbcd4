/-
  The law TxParse. (printed by tools/gen_l17.py)
-/
import Derived.Test.YtliokkoalkhpaaaWG
import Derived.Test.YtliokkoalkhpaaaWH
namespace Go.Proofs.Ytliokkoalkhpaaa.txParse
open Go.ChangeShapes Go.WideShapes Go.ChangeAt Go.RowKit Go.Sort Go.BigFrame Go.Proofs.Ytliokkoalkhpaaa
open Go.ChangeMaps (open_string shut_string)
attribute [local irreducible] FlowW

set_option maxRecDepth 100000 in
set_option maxHeartbeats 16000000 in
theorem walk (v : Value) (l : List UInt8) (w : World) (h : Rd w v l.length (l.map bc)) :
    Calls Try.prog 5 #[v] w fun e w' => e = .returned (.bool true) ∧ Below w.heap.size w w' := by
  obtain ⟨a, c, rfl, hna, hma, -, -⟩ := id h
  obtain ⟨n, hn⟩ : ∃ n, l.length = n := ⟨_, rfl⟩
  rw [hn] at h hna ⊢
  have HA := Lib.hid h
  have HN := Lib.hid hn
  unfold maxLen at hma
  clear h hn
  by_cases hlen : 3000 < n
  · have g1 : decide (3000 < (n : Int)) = true := decide_eq_true (by omega)
    have g2 : decide (3000 < n) = true := decide_eq_true (by omega)
    go_enter Try.func5, Try.ntmps5
    go_wp2_with fail
    refine (alive_any _).mono ?_
    rintro e w1 ⟨rfl, hb⟩
    have HB := Lib.hid hb
    clear hb
    go_wp2_with fail
    go_ret
    exact ⟨rfl, HB.out⟩
  · have g1 : decide (3000 < (n : Int)) = false := decide_eq_false (by omega)
    have g2 : decide (3000 < n) = false := decide_eq_false (by omega)
    cases hp : parseT l with
    | none =>
      have C := Lib.hid (parse_none HA.out HN.out (by omega) hp)
      have HP := Lib.hid hp
      clear hp
      go_enter Try.func5, Try.ntmps5
      go_wp2_with fail
      refine C.out.mono ?_
      rintro e w1 ⟨rfl, hb1⟩
      have HB := Lib.hid hb1
      clear hb1
      go_upto_region 4 with fail
      obtain ⟨w2, hw2⟩ : ∃ w2, w1.alloc (.cells #[.int .i64 0, .int .i64 0, .int .i64 0, .slice none 0 0, .slice none 0 0, .slice none 0 0, .bool false, .slice none 0 0, .int .i64 0, .int .i64 0, .int .i64 0] 27) = w2 := ⟨_, rfl⟩
      rw [hw2]
      have hb : Below w1.heap.size w1 w2 := by rw [← hw2]; exact below_alloc _ _
      have hx : Bx w2 w1.heap.size #[.int .i64 0, .int .i64 0, .int .i64 0, .slice none 0 0, .slice none 0 0, .slice none 0 0, .bool false, .slice none 0 0, .int .i64 0, .int .i64 0, .int .i64 0] 27 := by rw [← hw2]; exact bx_new rfl
      obtain ⟨gx, hgx⟩ : ∃ gx, w1.heap.size = gx := ⟨_, rfl⟩
      rw [hgx] at hx ⊢
      replace HB := Lib.hid (below_then HB.out hb)
      have HX := Lib.hid hx
      clear hx hw2 hgx
      clear hb
      go_wp2_with fail
      refine (refParse_none (HA.out.later HB.out) HN.out (by omega) HP.out).mono ?_
      rintro e w3 ⟨rfl, hb⟩
      replace HB := Lib.hid (below_then HB.out hb)
      replace HX := Lib.hid (bx_later hb HX.out)
      clear hb
      go_upto_region 5 with fail
      obtain ⟨w4, hw4⟩ : ∃ w4, w3.alloc (.cells #[.int .i64 0, .int .i64 0, .int .i64 0, .slice none 0 0, .slice none 0 0, .slice none 0 0, .bool false, .slice none 0 0, .int .i64 0, .int .i64 0, .int .i64 0] 27) = w4 := ⟨_, rfl⟩
      rw [hw4]
      have hb : Below w3.heap.size w3 w4 := by rw [← hw4]; exact below_alloc _ _
      have hx : Bx w4 w3.heap.size #[.int .i64 0, .int .i64 0, .int .i64 0, .slice none 0 0, .slice none 0 0, .slice none 0 0, .bool false, .slice none 0 0, .int .i64 0, .int .i64 0, .int .i64 0] 27 := by rw [← hw4]; exact bx_new rfl
      obtain ⟨gy, hgy⟩ : ∃ gy, w3.heap.size = gy := ⟨_, rfl⟩
      rw [hgy] at hx ⊢
      replace HB := Lib.hid (below_then HB.out hb)
      have HY := Lib.hid hx
      clear hx hw4 hgy
      replace HX := Lib.hid (bx_later hb HX.out)
      clear hb
      go_wp2_with fail
      refine (alive_any _).mono ?_
      rintro e w5 ⟨rfl, hb⟩
      replace HB := Lib.hid (below_then HB.out hb)
      replace HX := Lib.hid (bx_later hb HX.out)
      replace HY := Lib.hid (bx_later hb HY.out)
      clear hb
      have x0 := cell_of_box HX.out 0 rfl
      have x1 := cell_of_box HX.out 1 rfl
      have x2 := cell_of_box HX.out 2 rfl
      have x3 := cell_of_box HX.out 3 rfl
      have x4 := cell_of_box HX.out 4 rfl
      have x5 := cell_of_box HX.out 5 rfl
      have x6 := cell_of_box HX.out 6 rfl
      have x7 := cell_of_box HX.out 7 rfl
      have x8 := cell_of_box HX.out 8 rfl
      have x9 := cell_of_box HX.out 9 rfl
      have x10 := cell_of_box HX.out 10 rfl
      have y0 := cell_of_box HY.out 0 rfl
      have y1 := cell_of_box HY.out 1 rfl
      have y2 := cell_of_box HY.out 2 rfl
      have y3 := cell_of_box HY.out 3 rfl
      have y4 := cell_of_box HY.out 4 rfl
      have y5 := cell_of_box HY.out 5 rfl
      have y6 := cell_of_box HY.out 6 rfl
      have y7 := cell_of_box HY.out 7 rfl
      have y8 := cell_of_box HY.out 8 rfl
      have y9 := cell_of_box HY.out 9 rfl
      have y10 := cell_of_box HY.out 10 rfl
      go_wp2_with fail
      refine (sameTx_any true false [] [] [] [] false [] [] [] [] _ rfl rfl (rd_nil0 _) (ord_nil0 _) (ord_nil0 _) (rd_nil0 _) (by decide) rfl rfl (rd_nil0 _) (ord_nil0 _) (ord_nil0 _) (rd_nil0 _) (by decide) ⟨fun _ => ⟨rfl, rfl, rfl, rfl, rfl, rfl, rfl, rfl, fun _ => rfl, rfl, rfl⟩, fun _ => rfl⟩).mono ?_
      rintro e w6 ⟨rfl, hb⟩
      replace HB := Lib.hid (below_then HB.out hb)
      have x3' := cell_of_box (bx_later hb HX.out) 3 rfl
      have y3' := cell_of_box (bx_later hb HY.out) 3 rfl
      clear x0 x1 x2 x3 x4 x5 x6 x7 x8 x9 x10
      clear y0 y1 y2 y3 y4 y5 y6 y7 y8 y9 y10
      clear hb
      go_wp2_with fail
      go_ret
      exact ⟨rfl, HB.out⟩
    | some t0 =>
      have C := Lib.hid (parse_some HA.out HN.out (by omega) hp)
      have HP := Lib.hid hp
      clear hp
      go_enter Try.func5, Try.ntmps5
      go_wp2_with fail
      refine C.out.mono ?_
      rintro e w1 ⟨t, htx, hret, hr, hb1⟩
      obtain ⟨dev, seq, time, deps, ops, els, fm, hands, note, whom, upto, vd, vo, ve, vh⟩ := t
      obtain ⟨hd, ho, he, hh⟩ := hr
      dsimp only at hd ho he hh
      obtain ⟨ad, cd, hvvd, hc1vd, hc2vd, -, -⟩ := id hd
      obtain ⟨nd, hnd⟩ : ∃ n, deps.length = n := ⟨_, rfl⟩
      rw [hnd] at hvvd hc1vd
      subst hvvd
      unfold maxLen at hc2vd
      have HND := Lib.hid hnd
      clear hnd
      obtain ⟨ao, co, hvvo, hc1vo, hc2vo, -, -⟩ := id ho.1
      obtain ⟨no, hno⟩ : ∃ n, ops.length = n := ⟨_, rfl⟩
      rw [hno] at hvvo hc1vo
      subst hvvo
      unfold maxLen at hc2vo
      have HNO := Lib.hid hno
      clear hno
      obtain ⟨ae, ce, hvve, hc1ve, hc2ve, -, -⟩ := id he.1
      obtain ⟨ne, hne⟩ : ∃ n, els.length = n := ⟨_, rfl⟩
      rw [hne] at hvve hc1ve
      subst hvve
      unfold maxLen at hc2ve
      have HNE := Lib.hid hne
      clear hne
      obtain ⟨ah, ch, hvvh, hc1vh, hc2vh, -, -⟩ := id hh
      obtain ⟨nh, hnh⟩ : ∃ n, hands.length = n := ⟨_, rfl⟩
      rw [hnh] at hvvh hc1vh
      subst hvvh
      unfold maxLen at hc2vh
      have HNH := Lib.hid hnh
      clear hnh
      obtain rfl : e = .returned (.tuple #[.agg #[.int .i64 dev, .int .i64 seq, .int .i64 time, .slice ad nd cd, .slice ao no co, .slice ae ne ce, .bool fm, .slice ah nh ch, .int .i64 note, .int .i64 whom, .int .i64 upto], .int .i64 0]) := hret
      have HB := Lib.hid hb1
      clear hb1
      have HD := Lib.hid hd
      have HO := Lib.hid ho
      have HE := Lib.hid he
      have HH := Lib.hid hh
      clear hd ho he hh
      have HTX := Lib.hid htx
      clear htx
      go_upto_region 4 with fail
      obtain ⟨w2, hw2⟩ : ∃ w2, w1.alloc (.cells #[.int .i64 dev, .int .i64 seq, .int .i64 time, .slice ad nd cd, .slice ao no co, .slice ae ne ce, .bool fm, .slice ah nh ch, .int .i64 note, .int .i64 whom, .int .i64 upto] 27) = w2 := ⟨_, rfl⟩
      rw [hw2]
      have hb : Below w1.heap.size w1 w2 := by rw [← hw2]; exact below_alloc _ _
      have hx : Bx w2 w1.heap.size #[.int .i64 dev, .int .i64 seq, .int .i64 time, .slice ad nd cd, .slice ao no co, .slice ae ne ce, .bool fm, .slice ah nh ch, .int .i64 note, .int .i64 whom, .int .i64 upto] 27 := by rw [← hw2]; exact bx_new rfl
      obtain ⟨gx, hgx⟩ : ∃ gx, w1.heap.size = gx := ⟨_, rfl⟩
      rw [hgx] at hx ⊢
      replace HB := Lib.hid (below_then HB.out hb)
      have HX := Lib.hid hx
      clear hx hw2 hgx
      replace HD := Lib.hid (HD.out.later hb)
      replace HO := Lib.hid (HO.out.later hb)
      replace HE := Lib.hid (HE.out.later hb)
      replace HH := Lib.hid (HH.out.later hb)
      clear hb
      go_wp2_with fail
      refine (refParse_some (HA.out.later HB.out) HN.out (by omega) HP.out).mono ?_
      rintro e w3 ⟨t2, htx2, hret, hr2, hb⟩
      obtain ⟨dev2, seq2, time2, deps2, ops2, els2, fm2, hands2, note2, whom2, upto2, vd2, vo2, ve2, vh2⟩ := t2
      obtain ⟨hd2, ho2, he2, hh2⟩ := hr2
      dsimp only at hd2 ho2 he2 hh2
      obtain ⟨ad2, cd2, hvvd2, hc1vd2, hc2vd2, -, -⟩ := id hd2
      obtain ⟨nd2, hnd2⟩ : ∃ n, deps2.length = n := ⟨_, rfl⟩
      rw [hnd2] at hvvd2 hc1vd2
      subst hvvd2
      unfold maxLen at hc2vd2
      have HND2 := Lib.hid hnd2
      clear hnd2
      obtain ⟨ao2, co2, hvvo2, hc1vo2, hc2vo2, -, -⟩ := id ho2.1
      obtain ⟨no2, hno2⟩ : ∃ n, ops2.length = n := ⟨_, rfl⟩
      rw [hno2] at hvvo2 hc1vo2
      subst hvvo2
      unfold maxLen at hc2vo2
      have HNO2 := Lib.hid hno2
      clear hno2
      obtain ⟨ae2, ce2, hvve2, hc1ve2, hc2ve2, -, -⟩ := id he2.1
      obtain ⟨ne2, hne2⟩ : ∃ n, els2.length = n := ⟨_, rfl⟩
      rw [hne2] at hvve2 hc1ve2
      subst hvve2
      unfold maxLen at hc2ve2
      have HNE2 := Lib.hid hne2
      clear hne2
      obtain ⟨ah2, ch2, hvvh2, hc1vh2, hc2vh2, -, -⟩ := id hh2
      obtain ⟨nh2, hnh2⟩ : ∃ n, hands2.length = n := ⟨_, rfl⟩
      rw [hnh2] at hvvh2 hc1vh2
      subst hvvh2
      unfold maxLen at hc2vh2
      have HNH2 := Lib.hid hnh2
      clear hnh2
      obtain rfl : e = .returned (.tuple #[.agg #[.int .i64 dev2, .int .i64 seq2, .int .i64 time2, .slice ad2 nd2 cd2, .slice ao2 no2 co2, .slice ae2 ne2 ce2, .bool fm2, .slice ah2 nh2 ch2, .int .i64 note2, .int .i64 whom2, .int .i64 upto2], .int .i64 0]) := hret
      replace HB := Lib.hid (below_then HB.out hb)
      replace HX := Lib.hid (bx_later hb HX.out)
      replace HD := Lib.hid (HD.out.later hb)
      replace HO := Lib.hid (HO.out.later hb)
      replace HE := Lib.hid (HE.out.later hb)
      replace HH := Lib.hid (HH.out.later hb)
      clear hb
      have HD2 := Lib.hid hd2
      have HO2 := Lib.hid ho2
      have HE2 := Lib.hid he2
      have HH2 := Lib.hid hh2
      clear hd2 ho2 he2 hh2
      have hrf := (read_facts (t := ⟨dev, seq, time, deps, ops, els, fm, hands, note, whom, upto, .slice none 0 0, .slice none 0 0, .slice none 0 0, .slice none 0 0⟩) (HP.out.trans (congrArg some HTX.out.symm)) (by have := HN.out; omega)).deps.1
      have HNL : Hid (nd ≤ 1000000000) := by show _ ≤ _; have h3 := HND.out; dsimp only at hrf; omega
      clear hrf
      have hq := HTX.out.trans htx2.symm
      clear htx2 HTX
      simp only [TxM.tx, TxT.mk.injEq] at hq
      obtain ⟨rfl, rfl, rfl, hdt, hot, het, rfl, rfl, rfl, rfl, rfl⟩ := hq
      obtain rfl : nd2 = nd := by rw [← HND2.out, ← HND.out, hdt]
      have HDT := Lib.hid hdt
      have HOT := Lib.hid hot
      have HET := Lib.hid het
      have hnl : nd2 ≤ 1000000000 := HNL.out
      clear hdt hot het
      go_upto_region 5 with fail
      obtain ⟨w4, hw4⟩ : ∃ w4, w3.alloc (.cells #[.int .i64 dev, .int .i64 seq, .int .i64 time, .slice ad2 nd2 cd2, .slice ao2 no2 co2, .slice ae2 ne2 ce2, .bool fm, .slice ah2 nh2 ch2, .int .i64 note, .int .i64 whom, .int .i64 upto] 27) = w4 := ⟨_, rfl⟩
      rw [hw4]
      have hb : Below w3.heap.size w3 w4 := by rw [← hw4]; exact below_alloc _ _
      have hx : Bx w4 w3.heap.size #[.int .i64 dev, .int .i64 seq, .int .i64 time, .slice ad2 nd2 cd2, .slice ao2 no2 co2, .slice ae2 ne2 ce2, .bool fm, .slice ah2 nh2 ch2, .int .i64 note, .int .i64 whom, .int .i64 upto] 27 := by rw [← hw4]; exact bx_new rfl
      obtain ⟨gy, hgy⟩ : ∃ gy, w3.heap.size = gy := ⟨_, rfl⟩
      rw [hgy] at hx ⊢
      replace HB := Lib.hid (below_then HB.out hb)
      have HY := Lib.hid hx
      clear hx hw4 hgy
      replace HX := Lib.hid (bx_later hb HX.out)
      replace HD := Lib.hid (HD.out.later hb)
      replace HO := Lib.hid (HO.out.later hb)
      replace HE := Lib.hid (HE.out.later hb)
      replace HH := Lib.hid (HH.out.later hb)
      replace HD2 := Lib.hid (HD2.out.later hb)
      replace HO2 := Lib.hid (HO2.out.later hb)
      replace HE2 := Lib.hid (HE2.out.later hb)
      replace HH2 := Lib.hid (HH2.out.later hb)
      clear hb
      go_wp2_with fail
      refine (alive_any _).mono ?_
      rintro e w5 ⟨rfl, hb⟩
      replace HB := Lib.hid (below_then HB.out hb)
      replace HX := Lib.hid (bx_later hb HX.out)
      replace HY := Lib.hid (bx_later hb HY.out)
      replace HD := Lib.hid (HD.out.later hb)
      replace HO := Lib.hid (HO.out.later hb)
      replace HE := Lib.hid (HE.out.later hb)
      replace HH := Lib.hid (HH.out.later hb)
      replace HD2 := Lib.hid (HD2.out.later hb)
      replace HO2 := Lib.hid (HO2.out.later hb)
      replace HE2 := Lib.hid (HE2.out.later hb)
      replace HH2 := Lib.hid (HH2.out.later hb)
      clear hb
      have x0 := cell_of_box HX.out 0 rfl
      have x1 := cell_of_box HX.out 1 rfl
      have x2 := cell_of_box HX.out 2 rfl
      have x3 := cell_of_box HX.out 3 rfl
      have x4 := cell_of_box HX.out 4 rfl
      have x5 := cell_of_box HX.out 5 rfl
      have x6 := cell_of_box HX.out 6 rfl
      have x7 := cell_of_box HX.out 7 rfl
      have x8 := cell_of_box HX.out 8 rfl
      have x9 := cell_of_box HX.out 9 rfl
      have x10 := cell_of_box HX.out 10 rfl
      have y0 := cell_of_box HY.out 0 rfl
      have y1 := cell_of_box HY.out 1 rfl
      have y2 := cell_of_box HY.out 2 rfl
      have y3 := cell_of_box HY.out 3 rfl
      have y4 := cell_of_box HY.out 4 rfl
      have y5 := cell_of_box HY.out 5 rfl
      have y6 := cell_of_box HY.out 6 rfl
      have y7 := cell_of_box HY.out 7 rfl
      have y8 := cell_of_box HY.out 8 rfl
      have y9 := cell_of_box HY.out 9 rfl
      have y10 := cell_of_box HY.out 10 rfl
      have hne : ((nd2 : Int) == (nd2 : Int)) = true := by simp
      have HSM : Hid (SameTx (⟨dev, seq, time, deps, ops.map OpM.op, els.map OpM.op, fm, hands, note, whom, upto⟩ : TxT) ⟨dev, seq, time, deps2, ops2.map OpM.op, els2.map OpM.op, fm, hands, note, whom, upto⟩) := ⟨rfl, rfl, rfl, rfl, rfl, rfl, rfl, rfl, (by show SameV deps deps2; rw [HDT.out]; exact fun _ => rfl), HOT.out, HET.out⟩
      go_wp2_with fail
      refine (sameTx_any true fm deps ops els hands fm deps2 ops2 els2 hands _ HND.out HNH.out HD.out HO.out HE.out HH.out hnl HND2.out HNH2.out HD2.out HO2.out HE2.out HH2.out hnl ⟨fun _ => HSM.out, fun _ => rfl⟩).mono ?_
      rintro e w6 ⟨rfl, hb⟩
      replace HB := Lib.hid (below_then HB.out hb)
      have x3' := cell_of_box (bx_later hb HX.out) 3 rfl
      have y3' := cell_of_box (bx_later hb HY.out) 3 rfl
      clear x0 x1 x2 x3 x4 x5 x6 x7 x8 x9 x10
      clear y0 y1 y2 y3 y4 y5 y6 y7 y8 y9 y10
      clear hb
      go_wp2_with fail
      go_ret
      exact ⟨rfl, HB.out⟩

set_option maxRecDepth 100000 in
theorem lifted (os : Os) (started : os.Started) (H : Type) (enc : TypeId × Value → H) :
    ReturnsInHanded {} Try.checked os 5 .any (Rows.txParseSpec.pre6 enc Try.prog Try.f5 Rows.txParseRow.domain false) (Rows.txParseSpec.post enc Try.prog Try.f5 false true false false) := by
  refine returnsInHanded_of_change_sized (C := Try.checked) ownKnob_none started (by kernel_rfl) Try.func5
    (ChangeSpec.witness6 (enc := enc) (C := Try.checked) false ⟨#[], #[.slice none 0 0], []⟩ 8 (by kernel_rfl) (by kernel_rfl) (by kernel_rfl) (by kernel_rfl)) ?_
  intro W base args ds gs before hval0 hW hcnd hsz0 _
  have hval : ∀ (j : Nat) t v, Try.f5.params[j]? = some t → args[j]? = some v → Value.okWide Try.prog W .any base t v := hval0
  have hW' := hW
  obtain ⟨p, q, hA0, hV, rfl, hfz, hnd⟩ := hW
  have hA : DataW.TrodAll enc Try.prog W 0 (fun _ => true) true Try.f5.params.toList args.toList ds p := hA0
  have hsz : (DataW.weightsEach Try.prog (Try.f5.params.toList ++ Rows.txParseSpec.plain.varTypes Try.prog) (ds ++ gs)).all (· ≤ reachBytes) = true := hsz0
  rw [Try.params5] at hA hval hsz
  obtain ⟨v0, vs0, d0, ds0, p0, q0, hargs, rfl, rfl, h0, r0r⟩ := trodAll_cons hA
  obtain ⟨rfl, rfl, rfl⟩ := trodAll_nil r0r
  obtain rfl : args = #[v0] := by cases args; simp_all
  obtain ⟨rfl, rfl⟩ := trodVars_none hV
  have g0 := sized_at hsz (j := 0) rfl rfl
  obtain ⟨l0, r0⟩ := open_bytes Try.underlying38 Try.underlying5 cellsU8 (hval 0 38 v0 rfl rfl) h0
  refine (walk v0 l0 W r0).mono fun e W' ⟨he, hg⟩ => ⟨_, he, law_post laidOut (by kernel_rfl) rfl Try.underlying4 rfl rfl hW' hg⟩

theorem over : Rows.txParseRow.holds Try.pinned (OpenSpec.ofChange Rows.txParseSpec) :=
  OpenClaim.holds_of_wide 5 Try.f5 rfl rfl rfl rfl rfl rfl rfl ⟨rfl, rfl, rfl, rfl, rfl⟩ rfl rfl rfl rfl rfl (by kernel_rfl) Try.func5 (by kernel_rfl)
    (of_decide_eq_true (by kernel_rfl)) (by unfold Func.isWrapper; first | (rw [if_pos (by decide +kernel)]; kernel_rfl) | (rw [if_neg (by decide +kernel)]; exact ⟨rfl, rfl⟩))
    (fun os started H enc _ => lifted os started H enc)

/-- THE STATEMENT. -/
theorem proved : Rows.TxParseSaid :=
  over
#print axioms proved
end Go.Proofs.Ytliokkoalkhpaaa.txParse
