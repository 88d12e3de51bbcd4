/-
  The law TxOnce. (printed by tools/gen_l17.py)
-/
import Derived.Test.YtliokkoalkhpaaaWG
namespace Go.Proofs.Ytliokkoalkhpaaa.txOnce
open Go.ChangeShapes Go.WideShapes Go.ChangeAt Go.RowKit Go.Sort Go.BigFrame Go.Proofs.Ytliokkoalkhpaaa
open Go.ChangeMaps (open_string shut_string)
attribute [local irreducible] FlowW

set_option maxRecDepth 100000 in
set_option maxHeartbeats 16000000 in
theorem walk (v : Value) (l : List UInt8) (w : World) (h : Rd w v l.length (l.map bc)) :
    Calls Try.prog 7 #[v] w fun e w' => e = .returned (.bool true) ∧ Below w.heap.size w w' := by
  obtain ⟨a, c, rfl, hna, hma, -, -⟩ := id h
  obtain ⟨n, hn⟩ : ∃ n, l.length = n := ⟨_, rfl⟩
  rw [hn] at h hna ⊢
  have HA := Lib.hid h
  have HN := Lib.hid hn
  unfold maxLen at hma
  clear h hn
  by_cases hlen : 3000 < n
  · have g1 : decide (3000 < (n : Int)) = true := decide_eq_true (by omega)
    have g2 : decide (3000 < n) = true := decide_eq_true (by omega)
    go_enter Try.func7, Try.ntmps7
    go_wp2_with fail
    refine (alive_any _).mono ?_
    rintro e w1 ⟨rfl, hb⟩
    have HB := Lib.hid hb
    clear hb
    go_wp2_with fail
    go_ret
    exact ⟨rfl, HB.out⟩
  · have g1 : decide (3000 < (n : Int)) = false := decide_eq_false (by omega)
    have g2 : decide (3000 < n) = false := decide_eq_false (by omega)
    cases hp : parseT l with
    | none =>
      have C := Lib.hid (parse_none HA.out HN.out (by omega) hp)
      clear hp
      go_enter Try.func7, Try.ntmps7
      go_wp2_with fail
      refine C.out.mono ?_
      rintro e w1 ⟨rfl, hb1⟩
      have HB := Lib.hid hb1
      clear hb1
      go_upto_region 4 with fail
      obtain ⟨w2, hw2⟩ : ∃ w2, w1.alloc (.cells #[.int .i64 0, .int .i64 0, .int .i64 0, .slice none 0 0, .slice none 0 0, .slice none 0 0, .bool false, .slice none 0 0, .int .i64 0, .int .i64 0, .int .i64 0] 27) = w2 := ⟨_, rfl⟩
      rw [hw2]
      have hb : Below w1.heap.size w1 w2 := by rw [← hw2]; exact below_alloc _ _
      have hx : Bx w2 w1.heap.size #[.int .i64 0, .int .i64 0, .int .i64 0, .slice none 0 0, .slice none 0 0, .slice none 0 0, .bool false, .slice none 0 0, .int .i64 0, .int .i64 0, .int .i64 0] 27 := by rw [← hw2]; exact bx_new rfl
      obtain ⟨gx, hgx⟩ : ∃ gx, w1.heap.size = gx := ⟨_, rfl⟩
      rw [hgx] at hx ⊢
      replace HB := Lib.hid (below_then HB.out hb)
      have HX := Lib.hid hx
      clear hx hw2 hgx
      clear hb
      go_wp2_with fail
      refine (alive_any _).mono ?_
      rintro e w3 ⟨rfl, hb⟩
      replace HB := Lib.hid (below_then HB.out hb)
      have x0 := cell_of_box (bx_later hb HX.out) 0 rfl
      have x1 := cell_of_box (bx_later hb HX.out) 1 rfl
      have x2 := cell_of_box (bx_later hb HX.out) 2 rfl
      have x3 := cell_of_box (bx_later hb HX.out) 3 rfl
      have x4 := cell_of_box (bx_later hb HX.out) 4 rfl
      have x5 := cell_of_box (bx_later hb HX.out) 5 rfl
      have x6 := cell_of_box (bx_later hb HX.out) 6 rfl
      have x7 := cell_of_box (bx_later hb HX.out) 7 rfl
      have x8 := cell_of_box (bx_later hb HX.out) 8 rfl
      have x9 := cell_of_box (bx_later hb HX.out) 9 rfl
      have x10 := cell_of_box (bx_later hb HX.out) 10 rfl
      clear hb
      go_wp2_with fail
      refine (sameTx_any true false [] [] [] [] false [] [] [] [] _ rfl rfl (rd_nil0 _) (ord_nil0 _) (ord_nil0 _) (rd_nil0 _) (by decide) rfl rfl (rd_nil0 _) (ord_nil0 _) (ord_nil0 _) (rd_nil0 _) (by decide) ⟨fun _ => ⟨rfl, rfl, rfl, rfl, rfl, rfl, rfl, rfl, fun _ => rfl, rfl, rfl⟩, fun _ => rfl⟩).mono ?_
      rintro e w4 ⟨rfl, hb⟩
      replace HB := Lib.hid (below_then HB.out hb)
      clear x0 x1 x2 x3 x4 x5 x6 x7 x8 x9 x10
      clear hb
      go_wp2_with fail
      go_ret
      exact ⟨rfl, HB.out⟩
    | some t0 =>
      have C := Lib.hid (parse_some HA.out HN.out (by omega) hp)
      have HPS := Lib.hid hp
      clear hp
      go_enter Try.func7, Try.ntmps7
      go_wp2_with fail
      refine C.out.mono ?_
      rintro e w1 ⟨t, htx, hret, hr, hb1⟩
      have HRF := Lib.hid (read_facts (t := t) (HPS.out.trans (congrArg some htx.symm)) (by have := HN.out; omega))
      clear htx
      obtain ⟨dev, seq, time, deps, ops, els, fm, hands, note, whom, upto, vd, vo, ve, vh⟩ := t
      obtain ⟨hd, ho, he, hh⟩ := hr
      dsimp only at hd ho he hh
      obtain ⟨ad, cd, hvvd, hc1vd, hc2vd, -, -⟩ := id hd
      obtain ⟨nd, hnd⟩ : ∃ n, deps.length = n := ⟨_, rfl⟩
      rw [hnd] at hvvd hc1vd
      subst hvvd
      unfold maxLen at hc2vd
      have HND := Lib.hid hnd
      clear hnd
      obtain ⟨ao, co, hvvo, hc1vo, hc2vo, -, -⟩ := id ho.1
      obtain ⟨no, hno⟩ : ∃ n, ops.length = n := ⟨_, rfl⟩
      rw [hno] at hvvo hc1vo
      subst hvvo
      unfold maxLen at hc2vo
      have HNO := Lib.hid hno
      clear hno
      obtain ⟨ae, ce, hvve, hc1ve, hc2ve, -, -⟩ := id he.1
      obtain ⟨ne, hne⟩ : ∃ n, els.length = n := ⟨_, rfl⟩
      rw [hne] at hvve hc1ve
      subst hvve
      unfold maxLen at hc2ve
      have HNE := Lib.hid hne
      clear hne
      obtain ⟨ah, ch, hvvh, hc1vh, hc2vh, -, -⟩ := id hh
      obtain ⟨nh, hnh⟩ : ∃ n, hands.length = n := ⟨_, rfl⟩
      rw [hnh] at hvvh hc1vh
      subst hvvh
      unfold maxLen at hc2vh
      have HNH := Lib.hid hnh
      clear hnh
      obtain rfl : e = .returned (.tuple #[.agg #[.int .i64 dev, .int .i64 seq, .int .i64 time, .slice ad nd cd, .slice ao no co, .slice ae ne ce, .bool fm, .slice ah nh ch, .int .i64 note, .int .i64 whom, .int .i64 upto], .int .i64 0]) := hret
      have HB := Lib.hid hb1
      have HD := Lib.hid hd
      have HO := Lib.hid ho
      have HE := Lib.hid he
      have HH := Lib.hid hh
      clear hb1 hd ho he hh
      go_upto_region 4 with fail
      obtain ⟨w2, hw2⟩ : ∃ w2, w1.alloc (.cells #[.int .i64 dev, .int .i64 seq, .int .i64 time, .slice ad nd cd, .slice ao no co, .slice ae ne ce, .bool fm, .slice ah nh ch, .int .i64 note, .int .i64 whom, .int .i64 upto] 27) = w2 := ⟨_, rfl⟩
      rw [hw2]
      have hb : Below w1.heap.size w1 w2 := by rw [← hw2]; exact below_alloc _ _
      have hx : Bx w2 w1.heap.size #[.int .i64 dev, .int .i64 seq, .int .i64 time, .slice ad nd cd, .slice ao no co, .slice ae ne ce, .bool fm, .slice ah nh ch, .int .i64 note, .int .i64 whom, .int .i64 upto] 27 := by rw [← hw2]; exact bx_new rfl
      obtain ⟨gx, hgx⟩ : ∃ gx, w1.heap.size = gx := ⟨_, rfl⟩
      rw [hgx] at hx ⊢
      replace HB := Lib.hid (below_then HB.out hb)
      have HX := Lib.hid hx
      clear hx hw2 hgx
      replace HD := Lib.hid (HD.out.later hb)
      replace HO := Lib.hid (HO.out.later hb)
      replace HE := Lib.hid (HE.out.later hb)
      replace HH := Lib.hid (HH.out.later hb)
      clear hb
      go_wp2_with fail
      refine (alive_any _).mono ?_
      rintro e w3 ⟨rfl, hb⟩
      replace HB := Lib.hid (below_then HB.out hb)
      replace HD := Lib.hid (HD.out.later hb)
      replace HO := Lib.hid (HO.out.later hb)
      replace HE := Lib.hid (HE.out.later hb)
      replace HH := Lib.hid (HH.out.later hb)
      have x0 := cell_of_box (bx_later hb HX.out) 0 rfl
      have x1 := cell_of_box (bx_later hb HX.out) 1 rfl
      have x2 := cell_of_box (bx_later hb HX.out) 2 rfl
      have x3 := cell_of_box (bx_later hb HX.out) 3 rfl
      have x4 := cell_of_box (bx_later hb HX.out) 4 rfl
      have x5 := cell_of_box (bx_later hb HX.out) 5 rfl
      have x6 := cell_of_box (bx_later hb HX.out) 6 rfl
      have x7 := cell_of_box (bx_later hb HX.out) 7 rfl
      have x8 := cell_of_box (bx_later hb HX.out) 8 rfl
      have x9 := cell_of_box (bx_later hb HX.out) 9 rfl
      have x10 := cell_of_box (bx_later hb HX.out) 10 rfl
      clear hb
      have HRF' := HRF.out
      obtain ⟨r1, ⟨r2, r3⟩, r4, ⟨r5, r6⟩, ⟨r7, r8⟩, ⟨r9, r10⟩, r11⟩ := HRF'
      dsimp only at r1 r2 r3 r4 r5 r6 r7 r8 r9 r10
      have R1 := Lib.hid r1
      have R3 := Lib.hid r3
      have R4 := Lib.hid r4
      have R6 := Lib.hid r6
      have R8 := Lib.hid r8
      have R10 := Lib.hid r10
      have R2 : Hid (nd ≤ 1000000) := by show _ ≤ _; have := HND.out; omega
      have R5 : Hid (no ≤ 2000) := by show _ ≤ _; have := HNO.out; omega
      have R7 : Hid (ne ≤ 2000) := by show _ ≤ _; have := HNE.out; omega
      have R9 : Hid (nh ≤ 2000) := by show _ ≤ _; have := HNH.out; omega
      have HBY : Hid (bytesT ⟨dev, seq, time, trimL deps, ops.map OpM.op, els.map OpM.op, fm, hands, note, whom, upto⟩ = l) := by show _ = _; rw [r4]; exact r11.symm
      clear r1 r2 r3 r4 r5 r6 r7 r8 r9 r10 r11
      go_wp2_with fail
      refine (bytesT_any fm deps ops els hands _ HND.out HNO.out HNE.out HNH.out HD.out HO.out HE.out HH.out R1.out R2.out R3.out R5.out R6.out R7.out R8.out R9.out R10.out).mono ?_
      rintro e w4 ⟨vb, rfl, hob, hb⟩
      rw [HBY.out] at hob
      have HVB := Lib.hid (Rd.of_own hob)
      replace HB := Lib.hid (below_then HB.out hb)
      clear x0 x1 x2 x3 x4 x5 x6 x7 x8 x9 x10
      clear hb hob
      go_wp2_with fail
      refine (same_true HVB.out rfl (HA.out.later HB.out) HN.out.symm rfl).mono ?_
      rintro e w5 ⟨rfl, hb⟩
      replace HB := Lib.hid (below_then HB.out hb)
      clear hb
      go_wp2_with fail
      go_ret
      exact ⟨rfl, HB.out⟩

set_option maxRecDepth 100000 in
theorem lifted (os : Os) (started : os.Started) (H : Type) (enc : TypeId × Value → H) :
    ReturnsInHanded {} Try.checked os 7 .any (Rows.txOnceSpec.pre6 enc Try.prog Try.f7 Rows.txOnceRow.domain false) (Rows.txOnceSpec.post enc Try.prog Try.f7 false true false false) := by
  refine returnsInHanded_of_change_sized (C := Try.checked) ownKnob_none started (by kernel_rfl) Try.func7
    (ChangeSpec.witness6 (enc := enc) (C := Try.checked) false ⟨#[], #[.slice none 0 0], []⟩ 8 (by kernel_rfl) (by kernel_rfl) (by kernel_rfl) (by kernel_rfl)) ?_
  intro W base args ds gs before hval0 hW hcnd hsz0 _
  have hval : ∀ (j : Nat) t v, Try.f7.params[j]? = some t → args[j]? = some v → Value.okWide Try.prog W .any base t v := hval0
  have hW' := hW
  obtain ⟨p, q, hA0, hV, rfl, hfz, hnd⟩ := hW
  have hA : DataW.TrodAll enc Try.prog W 0 (fun _ => true) true Try.f7.params.toList args.toList ds p := hA0
  have hsz : (DataW.weightsEach Try.prog (Try.f7.params.toList ++ Rows.txOnceSpec.plain.varTypes Try.prog) (ds ++ gs)).all (· ≤ reachBytes) = true := hsz0
  rw [Try.params7] at hA hval hsz
  obtain ⟨v0, vs0, d0, ds0, p0, q0, hargs, rfl, rfl, h0, r0r⟩ := trodAll_cons hA
  obtain ⟨rfl, rfl, rfl⟩ := trodAll_nil r0r
  obtain rfl : args = #[v0] := by cases args; simp_all
  obtain ⟨rfl, rfl⟩ := trodVars_none hV
  have g0 := sized_at hsz (j := 0) rfl rfl
  obtain ⟨l0, r0⟩ := open_bytes Try.underlying38 Try.underlying5 cellsU8 (hval 0 38 v0 rfl rfl) h0
  refine (walk v0 l0 W r0).mono fun e W' ⟨he, hg⟩ => ⟨_, he, law_post laidOut (by kernel_rfl) rfl Try.underlying4 rfl rfl hW' hg⟩

theorem over : Rows.txOnceRow.holds Try.pinned (OpenSpec.ofChange Rows.txOnceSpec) :=
  OpenClaim.holds_of_wide 7 Try.f7 rfl rfl rfl rfl rfl rfl rfl ⟨rfl, rfl, rfl, rfl, rfl⟩ rfl rfl rfl rfl rfl (by kernel_rfl) Try.func7 (by kernel_rfl)
    (of_decide_eq_true (by kernel_rfl)) (by unfold Func.isWrapper; first | (rw [if_pos (by decide +kernel)]; kernel_rfl) | (rw [if_neg (by decide +kernel)]; exact ⟨rfl, rfl⟩))
    (fun os started H enc _ => lifted os started H enc)

/-- THE STATEMENT. -/
theorem proved : Rows.TxOnceSaid :=
  over
#print axioms proved
end Go.Proofs.Ytliokkoalkhpaaa.txOnce
