/-
  Layer 17 (tx): the document's bytes of a transaction. (printed by tools/gen_ub.py)
-/
import Derived.Test.YtliokkoalkhpaaaUB
namespace Go.Proofs.Ytliokkoalkhpaaa
open Go.RowKit Go.Sort Go.BigFrame
attribute [local irreducible] FlowW

set_option maxRecDepth 100000 in
set_option maxHeartbeats 8000000 in
theorem refBytesT_any {dev seq time note whom upto : Int} (fm : Bool) (deps : List Int) (ops els : List OpM) (hands : List HandT) {ad ao ae ah : Option Addr} {nd cd no co ne ce nh ch : Nat} (w : World)
    (hnd : deps.length = nd) (hno : ops.length = no) (hne : els.length = ne) (hnh : hands.length = nh)
    (hd : Rd w (.slice ad nd cd) deps.length (deps.map ic)) (ho : ORd w (.slice ao no co) ops) (he : ORd w (.slice ae ne ce) els) (hh : Rd w (.slice ah nh ch) hands.length (hands.flatMap HandT.cs))
    (hhd : ∀ x ∈ [dev, seq, time, firmI fm, note, whom, upto], okI x) (hdl : nd ≤ 1000000) (hdo : ∀ x ∈ deps, okI x) (hol : no ≤ 2000) (hof : ∀ a ∈ ops, a.op.fit) (hel : ne ≤ 2000) (hef : ∀ a ∈ els, a.op.fit) (hhl : nh ≤ 2000) (hho : ∀ h ∈ hands, ∀ x ∈ h.nums, okI x) :
    Calls Try.prog 20 #[.agg #[.int .i64 dev, .int .i64 seq, .int .i64 time, .slice ad nd cd, .slice ao no co, .slice ae ne ce, .bool fm, .slice ah nh ch, .int .i64 note, .int .i64 whom, .int .i64 upto]] w (OwnB w (bytesT ⟨dev, seq, time, trimL deps, ops.map OpM.op, els.map OpM.op, fm, hands, note, whom, upto⟩)) := by
  have HD := Lib.hid hd
  have HOP := Lib.hid ho
  have HEL := Lib.hid he
  have HHA := Lib.hid hh
  have HDO := Lib.hid hdo
  have HOF := Lib.hid hof
  have HEF := Lib.hid hef
  have HHO := Lib.hid hho
  have HND := Lib.hid hnd
  have HNO := Lib.hid hno
  have HNE := Lib.hid hne
  have HNH := Lib.hid hnh
  have hcm : ch ≤ maxLen := by obtain ⟨_, _, hv, -, h2, -, -⟩ := id hh; cases hv; exact h2
  unfold maxLen at hcm
  have hnc : nh ≤ ch := by obtain ⟨_, _, hv, h1, -, -, -⟩ := id hh; cases hv; omega
  obtain ⟨p1, hp1⟩ : ∃ p, nums [dev, seq, time, firmI fm, note, whom, upto] = p := ⟨_, rfl⟩
  obtain ⟨p2, hp2⟩ : ∃ p, p1 ++ nums (trimL deps) = p := ⟨_, rfl⟩
  obtain ⟨p3, hp3⟩ : ∃ p, p2 ++ putL bytesOp (ops.map OpM.op) = p := ⟨_, rfl⟩
  obtain ⟨p4, hp4⟩ : ∃ p, p3 ++ putL bytesOp (els.map OpM.op) = p := ⟨_, rfl⟩
  obtain ⟨p5, hp5⟩ : ∃ p, p4 ++ put (nh : Int) = p := ⟨_, rfl⟩
  have hl1 : p1.length ≤ 80 := by rw [← hp1]; exact numsL_len _
  have hlt : (nums (trimL deps)).length ≤ 10000010 := by have := numsL_len (trimL deps); have := trimL_len deps; omega
  have hl2 : p2.length ≤ 10000090 := by rw [← hp2, List.length_append]; omega
  have hlo : (putL bytesOp (ops.map OpM.op)).length ≤ 10 + 640000 * 2000 := by have := putL_ops_len hof; omega
  have hl3 : p3.length ≤ 10000100 + 640000 * 2000 := by rw [← hp3, List.length_append]; omega
  have hle : (putL bytesOp (els.map OpM.op)).length ≤ 10 + 640000 * 2000 := by have := putL_ops_len hef; omega
  have hl4 : p4.length ≤ 10000110 + 640000 * 4000 := by rw [← hp4, List.length_append]; omega
  have hpn := put_len (nh : Int)
  have hl5 : p5.length ≤ 10000120 + 640000 * 4000 := by rw [← hp5, List.length_append]; omega
  have HFIN : Hid (OwnB w (bytesT ⟨dev, seq, time, trimL deps, ops.map OpM.op, els.map OpM.op, fm, hands, note, whom, upto⟩) = OwnB w (p5 ++ bytesHs hands)) := by
    show _ = _
    rw [← hp5, ← hp4, ← hp3, ← hp2, ← hp1, ← hnh]
    congr 1
    unfold bytesT TxT.head bytesHs
    simp [putL]
  rw [HFIN.out]
  have HP1 := Lib.hid hp1
  have HP2 := Lib.hid hp2
  have HP3 := Lib.hid hp3
  have HP4 := Lib.hid hp4
  have HP5 := Lib.hid hp5
  have HHD := Lib.hid hhd
  have hne' : els.length ≤ 2000 := by omega
  have hno' : ops.length ≤ 2000 := by omega
  have HLE := Lib.hid hne'
  have HLO := Lib.hid hno'
  have HTL : Hid ((trimL deps).length ≤ 1000000000) := by have := trimL_len deps; show _ ≤ _; omega
  have HDL : Hid (deps.length ≤ 1000000) := by show _ ≤ _; omega
  have HTO : Hid (∀ x ∈ trimL deps, okI x) := fun x hx => hdo x (trimL_mem hx)
  have HTK := Lib.hid (bytesHs_take hands)
  rw [hnh] at HTK
  clear hd ho he hh hdo hof hef hho hnd hno hne hnh hp1 hp2 hp3 hp4 hp5 HFIN hhd hne' hno'
  cases fm
  · have HP1' : Hid (nums [dev, seq, time, 0, note, whom, upto] = p1) := HP1.out
    have HHD' : Hid (∀ x ∈ [dev, seq, time, 0, note, whom, upto], okI x) := HHD.out
    clear HP1 HHD
    go_enter Try.func20, Try.ntmps20
    go_wp2_with fail
    have hrq : Rd ((w.alloc (.cells #[.int .i64 dev, .int .i64 seq, .int .i64 time, .slice ad nd cd, .slice ao no co, .slice ae ne ce, .bool false, .slice ah nh ch, .int .i64 note, .int .i64 whom, .int .i64 upto] 27)).alloc (.cells #[.int .i64 dev, .int .i64 seq, .int .i64 time, .int .i64 0, .int .i64 note, .int .i64 whom, .int .i64 upto] 3)) (.slice (some ⟨w.heap.size + 1, 0, none⟩) 7 7) 7 ([dev, seq, time, 0, note, whom, upto].map ic) := by
      have := rd_lit (w.alloc (.cells #[.int .i64 dev, .int .i64 seq, .int .i64 time, .slice ad nd cd, .slice ao no co, .slice ae ne ce, .bool false, .slice ah nh ch, .int .i64 note, .int .i64 whom, .int .i64 upto] 27)) #[.int .i64 dev, .int .i64 seq, .int .i64 time, .int .i64 0, .int .i64 note, .int .i64 whom, .int .i64 upto] 3 7 (by decide)
      rw [alloc_size] at this
      exact this
    have hq0 : Bx ((w.alloc (.cells #[.int .i64 dev, .int .i64 seq, .int .i64 time, .slice ad nd cd, .slice ao no co, .slice ae ne ce, .bool false, .slice ah nh ch, .int .i64 note, .int .i64 whom, .int .i64 upto] 27)).alloc (.cells #[.int .i64 dev, .int .i64 seq, .int .i64 time, .int .i64 0, .int .i64 note, .int .i64 whom, .int .i64 upto] 3)) w.heap.size #[.int .i64 dev, .int .i64 seq, .int .i64 time, .slice ad nd cd, .slice ao no co, .slice ae ne ce, .bool false, .slice ah nh ch, .int .i64 note, .int .i64 whom, .int .i64 upto] 27 := bx_later (below_alloc _ _) (bx_new rfl)
    have hbq : Below w.heap.size w ((w.alloc (.cells #[.int .i64 dev, .int .i64 seq, .int .i64 time, .slice ad nd cd, .slice ao no co, .slice ae ne ce, .bool false, .slice ah nh ch, .int .i64 note, .int .i64 whom, .int .i64 upto] 27)).alloc (.cells #[.int .i64 dev, .int .i64 seq, .int .i64 time, .int .i64 0, .int .i64 note, .int .i64 whom, .int .i64 upto] 3)) := below_then (below_alloc _ _) (below_alloc _ _)
    generalize hWQ : (w.alloc (.cells #[.int .i64 dev, .int .i64 seq, .int .i64 time, .slice ad nd cd, .slice ao no co, .slice ae ne ce, .bool false, .slice ah nh ch, .int .i64 note, .int .i64 whom, .int .i64 upto] 27)).alloc (.cells #[.int .i64 dev, .int .i64 seq, .int .i64 time, .int .i64 0, .int .i64 note, .int .i64 whom, .int .i64 upto] 3) = wq at hrq hq0 hbq ⊢
    clear hWQ
    have HBQ := Lib.hid hbq
    have HQ := Lib.hid hq0
    clear hbq hq0
    refine (refNums_any _ _ _ hrq (by simp) HHD'.out).mono ?_
    rintro e w1 ⟨v1, rfl, hown1, hb1⟩
    have HO1 := Lib.hid (own_eqB hown1 HP1'.out)
    have HB1 := Lib.hid hb1
    have e3 := cell_of_box (bx_later hb1 HQ.out) 3 rfl
    clear hown1 hb1 hrq
    go_wp2_with fail
    refine (refTrim_any _ _ _ _ rfl (HD.out.later (below_then HBQ.out HB1.out))).mono ?_
    rintro e wt ⟨vt, rfl, hot, rfl⟩
    have HT := Lib.hid hot
    clear hot e3
    go_wp2_with fail
    refine (refNums_any _ _ _ HT.out HTL.out HTO.out).mono ?_
    rintro e wc ⟨vc, rfl, hownc, hbc⟩
    have hob := own_later HO1.out hbc
    have hbb := below_call HB1.out (Nat.le_refl _) hbc
    clear hbc
    go_wp2_with (at_builtin; refine wpList_app elB ⟨_, elB.ty, fun k h => nomatch h⟩ rfl _ _ rfl rfl rfl hob (Src.of_rd (Rd.of_own hownc) (by simp)) (oneCell_bytes _) (by unfold maxLen; omega) (by omega) hbb.size ?_; intro v2 w2 hownn hgrown hblkn; have HO2 := Lib.hid (own_eqB (own_bytes hownn (l := p1 ++ nums (trimL deps)) (by simp) (by simp)) HP2.out); have HB2 := Lib.hid (below_app hbb (Nat.le_refl _) hob hgrown); clear hownc hob hbb hownn hgrown hblkn HO1 HB1 HT; have e4 := cell_of_box (bx_later HB2.out HQ.out) 4 rfl)
    refine (refOps_any _ ops _ (HOP.out.later (below_then HBQ.out HB2.out)) HLO.out HOF.out).mono ?_
    rintro e wc ⟨vc, rfl, hownc, hbc⟩
    have hob := own_later HO2.out hbc
    have hbb := below_call HB2.out (Nat.le_refl _) hbc
    clear hbc
    go_wp2_with (at_builtin; refine wpList_app elB ⟨_, elB.ty, fun k h => nomatch h⟩ rfl _ _ rfl rfl rfl hob (Src.of_rd (Rd.of_own hownc) (by simp)) (oneCell_bytes _) (by unfold maxLen; omega) (by omega) hbb.size ?_; intro v3 w3 hownn hgrown hblkn; have HO3 := Lib.hid (own_eqB (own_bytes hownn (l := p2 ++ putL bytesOp (ops.map OpM.op)) (by simp) (by simp)) HP3.out); have HB3 := Lib.hid (below_app hbb (Nat.le_refl _) hob hgrown); clear hownc hob hbb hownn hgrown hblkn HO2 HB2; clear e4; have e5 := cell_of_box (bx_later HB3.out HQ.out) 5 rfl)
    refine (refOps_any _ els _ (HEL.out.later (below_then HBQ.out HB3.out)) HLE.out HEF.out).mono ?_
    rintro e wc ⟨vc, rfl, hownc, hbc⟩
    have hob := own_later HO3.out hbc
    have hbb := below_call HB3.out (Nat.le_refl _) hbc
    clear hbc
    go_wp2_with (at_builtin; refine wpList_app elB ⟨_, elB.ty, fun k h => nomatch h⟩ rfl _ _ rfl rfl rfl hob (Src.of_rd (Rd.of_own hownc) (by simp)) (oneCell_bytes _) (by unfold maxLen; omega) (by omega) hbb.size ?_; intro v4 w4 hownn hgrown hblkn; have HO4 := Lib.hid (own_eqB (own_bytes hownn (l := p3 ++ putL bytesOp (els.map OpM.op)) (by simp) (by simp)) HP4.out); have HB4 := Lib.hid (below_app hbb (Nat.le_refl _) hob hgrown); clear hownc hob hbb hownn hgrown hblkn HO3 HB3; clear e5; have e7 := cell_of_box (bx_later HB4.out HQ.out) 7 rfl)
    refine (refPut_any _ _ (by omega) (by omega)).mono ?_
    rintro e wc ⟨vc, rfl, hownc, hbc⟩
    have hob := own_later HO4.out hbc
    have hbb := below_call HB4.out (Nat.le_refl _) hbc
    clear hbc
    go_wp2_with (at_builtin; refine wpList_app elB ⟨_, elB.ty, fun k h => nomatch h⟩ rfl _ _ rfl rfl rfl hob (Src.of_rd (Rd.of_own hownc) (by simp)) (oneCell_bytes _) (by unfold maxLen; omega) (by omega) hbb.size ?_; intro v5 w5 hownn hgrown hblkn; have HO5 := Lib.hid (own_eqB (own_bytes hownn (l := p4 ++ put (nh : Int)) (by simp) (by simp)) HP5.out); have HB5 := Lib.hid (below_app hbb (Nat.le_refl _) hob hgrown); clear hownc hob hbb hownn hgrown hblkn HO4 HB4; clear e7)
    go_wp2_with fail
    go_loopw [4, 5] (fun vo vi wr => ∃ (k : Nat) (xs : List UInt8), k ≤ nh ∧ vi = .int .i64 k ∧ Hid (xs = p5 ++ bytesHs (hands.take k)) ∧ Hid (wr.ownsRow wq.heap.size 5 1 vo xs.length (xs.map bc)) ∧ Hid (Below wq.heap.size wq wr)) (fun _ vi _ => nh - (intOf vi).toNat)
    case atStart => exact ⟨0, _, Nat.zero_le _, rfl, (by show _ = _; simp [bytesHs]), HO5.out, HB5.out⟩
    case round =>
      obtain ⟨k, xs, hk, rfl, HX, hown, hb⟩ := hrel
      rename World => wr
      have hxl : xs.length ≤ 10000120 + 640000 * 4000 + 80 * 2000 := by
        have h1 := HTK.out k hk
        rw [HX.out, List.length_append]
        omega
      have f7 := cell_of_box (bx_later hb.out HQ.out) 7 rfl
      by_cases hlt : k < nh
      · have hkl : k < hands.length := by have := HNH.out; omega
        obtain ⟨x, hx⟩ : ∃ x, hands[k] = x := ⟨_, rfl⟩
        have hrh : Rd wr (.slice ah nh ch) nh (hands.flatMap HandT.cs) := by have := (HHA.out.later HBQ.out).later hb.out; rwa [HNH.out] at this
        obtain ⟨b, oo, x1, c0, c1, c2, c3, c4, c5, c6, _⟩ := rd_hand hrh HNH.out.symm k hkl hx
        have HHX : Hid (∀ y ∈ x.nums, okI y) := HHO.out x (hx ▸ List.getElem_mem hkl)
        have HNX := Lib.hid (fun p => bytesHs_next hkl hx p)
        have hl6 := numsL_len x.nums
        have hl7 : x.nums.length = 7 := rfl
        clear hx hrh
        go_wp2_with fail
        obtain ⟨wz, hwz⟩ : ∃ wz, wr.alloc (.cells #[.int .i64 x.kind, .int .i64 x.table, .int .i64 x.col, .int .i64 x.lo, .int .i64 x.hi, .int .i64 x.amt] 65) = wz := ⟨_, rfl⟩
        have hbz : Below wr.heap.size wr wz := by rw [← hwz]; exact below_alloc _ _
        have hbx : Bx wz wr.heap.size #[.int .i64 x.kind, .int .i64 x.table, .int .i64 x.col, .int .i64 x.lo, .int .i64 x.hi, .int .i64 x.amt] 65 := by rw [← hwz]; exact bx_new rfl
        rw [hwz]
        clear hwz
        have HBZ := Lib.hid (below_call hb.out (Nat.le_refl _) hbz)
        have HOZ := Lib.hid (own_later hown.out hbz)
        have g7 := cell_of_box (bx_later HBZ.out HQ.out) 7 rfl
        have k0 := cell_later hbz c0
        have y0 := cell_of_box hbx 0 rfl
        have y1 := cell_of_box hbx 1 rfl
        have y2 := cell_of_box hbx 2 rfl
        have y3 := cell_of_box hbx 3 rfl
        have y4 := cell_of_box hbx 4 rfl
        have y5 := cell_of_box hbx 5 rfl
        clear hbz hbx c0 c1 c2 c3 c4 c5 c6 f7
        refine wp_region_flow (by kernel_rfl) 21 [(19, ⟨fun v => ∃ g : Nat, v = .slice (some ⟨g, 0, none⟩) 7 7, fun v _ _ w' => ∃ g : Nat, v = .slice (some ⟨g, 0, none⟩) 7 7 ∧ Rd w' (.slice (some ⟨g, 0, none⟩) 7 7) 7 (x.nums.map ic)⟩), (20, ⟨fun _ => True, fun v _ _ w' => w'.ownsRow wz.heap.size 5 1 v (nums x.nums).length ((nums x.nums).map bc)⟩)] (by kernel_rfl) ?_ ?_ ?_
        · intro x hx
          simp only [List.mem_cons, List.not_mem_nil, or_false] at hx
          rcases hx with rfl | rfl
          · exact ⟨_, 0, rfl⟩
          · exact ⟨.bool true, trivial⟩
        · intro x hx v lo hi w w' h hb
          simp only [List.mem_cons, List.not_mem_nil, or_false] at hx
          rcases hx with rfl | rfl
          · obtain ⟨g, rfl, h1⟩ := h
            exact ⟨g, rfl, h1.later hb⟩
          · exact own_later h hb
        · intro lo hi
          have ky0 := cell_regrown y0
          have ky1 := cell_regrown y1
          have ky2 := cell_regrown y2
          have ky3 := cell_regrown y3
          have ky4 := cell_regrown y4
          have ky5 := cell_regrown y5
          have kg7 := cell_regrown g7
          have kk0 := cell_regrown k0
          refine flowW_plain rfl ?_
          go_big_quiet_step (fail)
          refine wpQuiet_nil ?_
          refine flowW_plain rfl ?_
          go_big_quiet_step (fail)
          refine wpQuiet_nil ?_
          refine flowW_plain rfl ?_
          go_big_quiet_step (fail)
          refine wpQuiet_nil ?_
          refine flowW_plain rfl ?_
          go_big_quiet_step (fail)
          refine wpQuiet_nil ?_
          refine flowW_plain rfl ?_
          go_big_quiet_step (fail)
          refine wpQuiet_nil ?_
          refine flowW_plain rfl ?_
          go_big_quiet_step (fail)
          refine wpQuiet_nil ?_
          refine flowW_plain rfl ?_
          go_big_quiet_step (fail)
          refine wpQuiet_nil ?_
          refine flowW_plain rfl ?_
          go_big_quiet_step (fail)
          refine wpQuiet_nil ?_
          refine flowW_plain rfl ?_
          go_big_quiet_step (fail)
          refine wpQuiet_nil ?_
          refine flowW_plain rfl ?_
          go_big_quiet_step (fail)
          refine wpQuiet_nil ?_
          refine flowW_plain rfl ?_
          go_big_quiet_step (fail)
          refine wpQuiet_nil ?_
          refine flowW_plain rfl ?_
          go_big_quiet_step (fail)
          refine wpQuiet_nil ?_
          refine flowW_plain rfl ?_
          go_big_quiet_step (fail)
          refine wpQuiet_nil ?_
          refine flowW_plain rfl ?_
          go_big_quiet_step (fail)
          refine wpQuiet_nil ?_
          refine flowW_plain rfl ?_
          go_big_quiet_step (fail)
          refine wpQuiet_nil ?_
          refine flowW_plain rfl ?_
          go_big_quiet_step (fail)
          refine wpQuiet_nil ?_
          refine flowW_plain rfl ?_
          go_big_quiet_step (fail)
          refine wpQuiet_nil ?_
          refine flowW_plain rfl ?_
          go_big_quiet_step (fail)
          refine wpQuiet_nil ?_
          refine flowW_plain rfl ?_
          go_big_quiet_step (fail)
          refine wpQuiet_nil ?_
          refine flowW_call rfl rfl ?_ ?_
          · intro W hW hF K hK
            clear ky0 ky1 ky2 ky3 ky4 ky5 kg7 kk0
            go_wp2_with fail
            exact hK _ _ ⟨_, rfl⟩ ⟨_, rfl, rd_lit W #[.int .i64 x.to, .int .i64 x.kind, .int .i64 x.table, .int .i64 x.col, .int .i64 x.lo, .int .i64 x.hi, .int .i64 x.amt] 3 7 (by decide)⟩ (below_alloc _ _)
          rintro v ⟨g19, rfl⟩ K hK
          go_simp
          refine hK _ ?_
          clear hK K
          refine flowW_call rfl rfl ?_ ?_
          · intro W hW hF K hK
            clear ky0 ky1 ky2 ky3 ky4 ky5 kg7 kk0
            obtain ⟨_, he19, h19⟩ := hF 19 rfl
            cases he19
            go_wp2_with fail
            refine (refNums_any _ x.nums _ h19 (by simp [HandT.nums]) HHX.out).mono ?_
            rintro e wq' ⟨vq, rfl, hoq, hbq⟩
            go_wp2_with fail
            exact hK _ _ trivial (own_mono0 hoq hW.size) hbq
          rintro v - K hK
          go_simp
          refine hK _ ?_
          clear hK K
          refine flowW_end fun we hwe hF hD => ?_
          clear ky0 ky1 ky2 ky3 ky4 ky5 kg7 kk0
          simp only [List.drop_succ_cons, List.drop_zero]
          have hown2 := hF 20
          have HBE := Lib.hid (below_call HBZ.out (Nat.le_refl _) hwe)
          have hob := own_later HOZ.out hwe
          have hbb := HBE.out
          clear hF hD hwe
          go_wp2_with (at_builtin; refine wpList_app elB ⟨_, elB.ty, fun k h => nomatch h⟩ rfl _ _ rfl rfl rfl hob (Src.of_rd (Rd.of_own hown2) (by simp)) (oneCell_bytes _) (by unfold maxLen; omega) (by omega) hbb.size ?_; intro v3 w3 hown3 hgrow3 hblk3; have HO3 := Lib.hid (own_bytes hown3 (l := xs ++ nums x.nums) (by simp) (by simp)); have HB3 := Lib.hid (below_app hbb (Nat.le_refl _) hob hgrow3); clear hown2 hob hbb hown3 hgrow3 hblk3)
          go_roundw
          case rel => exact ⟨k + 1, _, by omega, by go_num, (by show _ = _; rw [HX.out]; exact HNX.out _), HO3.out, HB3.out⟩
          case measure => simp [intOf]; omega
      · have hkn : k = nh := by omega
        have HK := Lib.hid hkn
        clear hkn
        go_wp2_with fail
        go_ret
        have e : xs = p5 ++ bytesHs hands := by rw [HX.out, HK.out, List.take_of_length_le (by have := HNH.out; omega)]
        rw [← e]
        exact ⟨_, rfl, own_mono0 hown.out HBQ.out.size, below_then HBQ.out hb.out⟩
  · have HP1' : Hid (nums [dev, seq, time, 1, note, whom, upto] = p1) := HP1.out
    have HHD' : Hid (∀ x ∈ [dev, seq, time, 1, note, whom, upto], okI x) := HHD.out
    clear HP1 HHD
    go_enter Try.func20, Try.ntmps20
    go_wp2_with fail
    have hrq : Rd ((w.alloc (.cells #[.int .i64 dev, .int .i64 seq, .int .i64 time, .slice ad nd cd, .slice ao no co, .slice ae ne ce, .bool true, .slice ah nh ch, .int .i64 note, .int .i64 whom, .int .i64 upto] 27)).alloc (.cells #[.int .i64 dev, .int .i64 seq, .int .i64 time, .int .i64 1, .int .i64 note, .int .i64 whom, .int .i64 upto] 3)) (.slice (some ⟨w.heap.size + 1, 0, none⟩) 7 7) 7 ([dev, seq, time, 1, note, whom, upto].map ic) := by
      have := rd_lit (w.alloc (.cells #[.int .i64 dev, .int .i64 seq, .int .i64 time, .slice ad nd cd, .slice ao no co, .slice ae ne ce, .bool true, .slice ah nh ch, .int .i64 note, .int .i64 whom, .int .i64 upto] 27)) #[.int .i64 dev, .int .i64 seq, .int .i64 time, .int .i64 1, .int .i64 note, .int .i64 whom, .int .i64 upto] 3 7 (by decide)
      rw [alloc_size] at this
      exact this
    have hq0 : Bx ((w.alloc (.cells #[.int .i64 dev, .int .i64 seq, .int .i64 time, .slice ad nd cd, .slice ao no co, .slice ae ne ce, .bool true, .slice ah nh ch, .int .i64 note, .int .i64 whom, .int .i64 upto] 27)).alloc (.cells #[.int .i64 dev, .int .i64 seq, .int .i64 time, .int .i64 1, .int .i64 note, .int .i64 whom, .int .i64 upto] 3)) w.heap.size #[.int .i64 dev, .int .i64 seq, .int .i64 time, .slice ad nd cd, .slice ao no co, .slice ae ne ce, .bool true, .slice ah nh ch, .int .i64 note, .int .i64 whom, .int .i64 upto] 27 := bx_later (below_alloc _ _) (bx_new rfl)
    have hbq : Below w.heap.size w ((w.alloc (.cells #[.int .i64 dev, .int .i64 seq, .int .i64 time, .slice ad nd cd, .slice ao no co, .slice ae ne ce, .bool true, .slice ah nh ch, .int .i64 note, .int .i64 whom, .int .i64 upto] 27)).alloc (.cells #[.int .i64 dev, .int .i64 seq, .int .i64 time, .int .i64 1, .int .i64 note, .int .i64 whom, .int .i64 upto] 3)) := below_then (below_alloc _ _) (below_alloc _ _)
    generalize hWQ : (w.alloc (.cells #[.int .i64 dev, .int .i64 seq, .int .i64 time, .slice ad nd cd, .slice ao no co, .slice ae ne ce, .bool true, .slice ah nh ch, .int .i64 note, .int .i64 whom, .int .i64 upto] 27)).alloc (.cells #[.int .i64 dev, .int .i64 seq, .int .i64 time, .int .i64 1, .int .i64 note, .int .i64 whom, .int .i64 upto] 3) = wq at hrq hq0 hbq ⊢
    clear hWQ
    have HBQ := Lib.hid hbq
    have HQ := Lib.hid hq0
    clear hbq hq0
    refine (refNums_any _ _ _ hrq (by simp) HHD'.out).mono ?_
    rintro e w1 ⟨v1, rfl, hown1, hb1⟩
    have HO1 := Lib.hid (own_eqB hown1 HP1'.out)
    have HB1 := Lib.hid hb1
    have e3 := cell_of_box (bx_later hb1 HQ.out) 3 rfl
    clear hown1 hb1 hrq
    go_wp2_with fail
    refine (refTrim_any _ _ _ _ rfl (HD.out.later (below_then HBQ.out HB1.out))).mono ?_
    rintro e wt ⟨vt, rfl, hot, rfl⟩
    have HT := Lib.hid hot
    clear hot e3
    go_wp2_with fail
    refine (refNums_any _ _ _ HT.out HTL.out HTO.out).mono ?_
    rintro e wc ⟨vc, rfl, hownc, hbc⟩
    have hob := own_later HO1.out hbc
    have hbb := below_call HB1.out (Nat.le_refl _) hbc
    clear hbc
    go_wp2_with (at_builtin; refine wpList_app elB ⟨_, elB.ty, fun k h => nomatch h⟩ rfl _ _ rfl rfl rfl hob (Src.of_rd (Rd.of_own hownc) (by simp)) (oneCell_bytes _) (by unfold maxLen; omega) (by omega) hbb.size ?_; intro v2 w2 hownn hgrown hblkn; have HO2 := Lib.hid (own_eqB (own_bytes hownn (l := p1 ++ nums (trimL deps)) (by simp) (by simp)) HP2.out); have HB2 := Lib.hid (below_app hbb (Nat.le_refl _) hob hgrown); clear hownc hob hbb hownn hgrown hblkn HO1 HB1 HT; have e4 := cell_of_box (bx_later HB2.out HQ.out) 4 rfl)
    refine (refOps_any _ ops _ (HOP.out.later (below_then HBQ.out HB2.out)) HLO.out HOF.out).mono ?_
    rintro e wc ⟨vc, rfl, hownc, hbc⟩
    have hob := own_later HO2.out hbc
    have hbb := below_call HB2.out (Nat.le_refl _) hbc
    clear hbc
    go_wp2_with (at_builtin; refine wpList_app elB ⟨_, elB.ty, fun k h => nomatch h⟩ rfl _ _ rfl rfl rfl hob (Src.of_rd (Rd.of_own hownc) (by simp)) (oneCell_bytes _) (by unfold maxLen; omega) (by omega) hbb.size ?_; intro v3 w3 hownn hgrown hblkn; have HO3 := Lib.hid (own_eqB (own_bytes hownn (l := p2 ++ putL bytesOp (ops.map OpM.op)) (by simp) (by simp)) HP3.out); have HB3 := Lib.hid (below_app hbb (Nat.le_refl _) hob hgrown); clear hownc hob hbb hownn hgrown hblkn HO2 HB2; clear e4; have e5 := cell_of_box (bx_later HB3.out HQ.out) 5 rfl)
    refine (refOps_any _ els _ (HEL.out.later (below_then HBQ.out HB3.out)) HLE.out HEF.out).mono ?_
    rintro e wc ⟨vc, rfl, hownc, hbc⟩
    have hob := own_later HO3.out hbc
    have hbb := below_call HB3.out (Nat.le_refl _) hbc
    clear hbc
    go_wp2_with (at_builtin; refine wpList_app elB ⟨_, elB.ty, fun k h => nomatch h⟩ rfl _ _ rfl rfl rfl hob (Src.of_rd (Rd.of_own hownc) (by simp)) (oneCell_bytes _) (by unfold maxLen; omega) (by omega) hbb.size ?_; intro v4 w4 hownn hgrown hblkn; have HO4 := Lib.hid (own_eqB (own_bytes hownn (l := p3 ++ putL bytesOp (els.map OpM.op)) (by simp) (by simp)) HP4.out); have HB4 := Lib.hid (below_app hbb (Nat.le_refl _) hob hgrown); clear hownc hob hbb hownn hgrown hblkn HO3 HB3; clear e5; have e7 := cell_of_box (bx_later HB4.out HQ.out) 7 rfl)
    refine (refPut_any _ _ (by omega) (by omega)).mono ?_
    rintro e wc ⟨vc, rfl, hownc, hbc⟩
    have hob := own_later HO4.out hbc
    have hbb := below_call HB4.out (Nat.le_refl _) hbc
    clear hbc
    go_wp2_with (at_builtin; refine wpList_app elB ⟨_, elB.ty, fun k h => nomatch h⟩ rfl _ _ rfl rfl rfl hob (Src.of_rd (Rd.of_own hownc) (by simp)) (oneCell_bytes _) (by unfold maxLen; omega) (by omega) hbb.size ?_; intro v5 w5 hownn hgrown hblkn; have HO5 := Lib.hid (own_eqB (own_bytes hownn (l := p4 ++ put (nh : Int)) (by simp) (by simp)) HP5.out); have HB5 := Lib.hid (below_app hbb (Nat.le_refl _) hob hgrown); clear hownc hob hbb hownn hgrown hblkn HO4 HB4; clear e7)
    go_wp2_with fail
    go_loopw [4, 5] (fun vo vi wr => ∃ (k : Nat) (xs : List UInt8), k ≤ nh ∧ vi = .int .i64 k ∧ Hid (xs = p5 ++ bytesHs (hands.take k)) ∧ Hid (wr.ownsRow wq.heap.size 5 1 vo xs.length (xs.map bc)) ∧ Hid (Below wq.heap.size wq wr)) (fun _ vi _ => nh - (intOf vi).toNat)
    case atStart => exact ⟨0, _, Nat.zero_le _, rfl, (by show _ = _; simp [bytesHs]), HO5.out, HB5.out⟩
    case round =>
      obtain ⟨k, xs, hk, rfl, HX, hown, hb⟩ := hrel
      rename World => wr
      have hxl : xs.length ≤ 10000120 + 640000 * 4000 + 80 * 2000 := by
        have h1 := HTK.out k hk
        rw [HX.out, List.length_append]
        omega
      have f7 := cell_of_box (bx_later hb.out HQ.out) 7 rfl
      by_cases hlt : k < nh
      · have hkl : k < hands.length := by have := HNH.out; omega
        obtain ⟨x, hx⟩ : ∃ x, hands[k] = x := ⟨_, rfl⟩
        have hrh : Rd wr (.slice ah nh ch) nh (hands.flatMap HandT.cs) := by have := (HHA.out.later HBQ.out).later hb.out; rwa [HNH.out] at this
        obtain ⟨b, oo, x1, c0, c1, c2, c3, c4, c5, c6, _⟩ := rd_hand hrh HNH.out.symm k hkl hx
        have HHX : Hid (∀ y ∈ x.nums, okI y) := HHO.out x (hx ▸ List.getElem_mem hkl)
        have HNX := Lib.hid (fun p => bytesHs_next hkl hx p)
        have hl6 := numsL_len x.nums
        have hl7 : x.nums.length = 7 := rfl
        clear hx hrh
        go_wp2_with fail
        obtain ⟨wz, hwz⟩ : ∃ wz, wr.alloc (.cells #[.int .i64 x.kind, .int .i64 x.table, .int .i64 x.col, .int .i64 x.lo, .int .i64 x.hi, .int .i64 x.amt] 65) = wz := ⟨_, rfl⟩
        have hbz : Below wr.heap.size wr wz := by rw [← hwz]; exact below_alloc _ _
        have hbx : Bx wz wr.heap.size #[.int .i64 x.kind, .int .i64 x.table, .int .i64 x.col, .int .i64 x.lo, .int .i64 x.hi, .int .i64 x.amt] 65 := by rw [← hwz]; exact bx_new rfl
        rw [hwz]
        clear hwz
        have HBZ := Lib.hid (below_call hb.out (Nat.le_refl _) hbz)
        have HOZ := Lib.hid (own_later hown.out hbz)
        have g7 := cell_of_box (bx_later HBZ.out HQ.out) 7 rfl
        have k0 := cell_later hbz c0
        have y0 := cell_of_box hbx 0 rfl
        have y1 := cell_of_box hbx 1 rfl
        have y2 := cell_of_box hbx 2 rfl
        have y3 := cell_of_box hbx 3 rfl
        have y4 := cell_of_box hbx 4 rfl
        have y5 := cell_of_box hbx 5 rfl
        clear hbz hbx c0 c1 c2 c3 c4 c5 c6 f7
        refine wp_region_flow (by kernel_rfl) 21 [(19, ⟨fun v => ∃ g : Nat, v = .slice (some ⟨g, 0, none⟩) 7 7, fun v _ _ w' => ∃ g : Nat, v = .slice (some ⟨g, 0, none⟩) 7 7 ∧ Rd w' (.slice (some ⟨g, 0, none⟩) 7 7) 7 (x.nums.map ic)⟩), (20, ⟨fun _ => True, fun v _ _ w' => w'.ownsRow wz.heap.size 5 1 v (nums x.nums).length ((nums x.nums).map bc)⟩)] (by kernel_rfl) ?_ ?_ ?_
        · intro x hx
          simp only [List.mem_cons, List.not_mem_nil, or_false] at hx
          rcases hx with rfl | rfl
          · exact ⟨_, 0, rfl⟩
          · exact ⟨.bool true, trivial⟩
        · intro x hx v lo hi w w' h hb
          simp only [List.mem_cons, List.not_mem_nil, or_false] at hx
          rcases hx with rfl | rfl
          · obtain ⟨g, rfl, h1⟩ := h
            exact ⟨g, rfl, h1.later hb⟩
          · exact own_later h hb
        · intro lo hi
          have ky0 := cell_regrown y0
          have ky1 := cell_regrown y1
          have ky2 := cell_regrown y2
          have ky3 := cell_regrown y3
          have ky4 := cell_regrown y4
          have ky5 := cell_regrown y5
          have kg7 := cell_regrown g7
          have kk0 := cell_regrown k0
          refine flowW_plain rfl ?_
          go_big_quiet_step (fail)
          refine wpQuiet_nil ?_
          refine flowW_plain rfl ?_
          go_big_quiet_step (fail)
          refine wpQuiet_nil ?_
          refine flowW_plain rfl ?_
          go_big_quiet_step (fail)
          refine wpQuiet_nil ?_
          refine flowW_plain rfl ?_
          go_big_quiet_step (fail)
          refine wpQuiet_nil ?_
          refine flowW_plain rfl ?_
          go_big_quiet_step (fail)
          refine wpQuiet_nil ?_
          refine flowW_plain rfl ?_
          go_big_quiet_step (fail)
          refine wpQuiet_nil ?_
          refine flowW_plain rfl ?_
          go_big_quiet_step (fail)
          refine wpQuiet_nil ?_
          refine flowW_plain rfl ?_
          go_big_quiet_step (fail)
          refine wpQuiet_nil ?_
          refine flowW_plain rfl ?_
          go_big_quiet_step (fail)
          refine wpQuiet_nil ?_
          refine flowW_plain rfl ?_
          go_big_quiet_step (fail)
          refine wpQuiet_nil ?_
          refine flowW_plain rfl ?_
          go_big_quiet_step (fail)
          refine wpQuiet_nil ?_
          refine flowW_plain rfl ?_
          go_big_quiet_step (fail)
          refine wpQuiet_nil ?_
          refine flowW_plain rfl ?_
          go_big_quiet_step (fail)
          refine wpQuiet_nil ?_
          refine flowW_plain rfl ?_
          go_big_quiet_step (fail)
          refine wpQuiet_nil ?_
          refine flowW_plain rfl ?_
          go_big_quiet_step (fail)
          refine wpQuiet_nil ?_
          refine flowW_plain rfl ?_
          go_big_quiet_step (fail)
          refine wpQuiet_nil ?_
          refine flowW_plain rfl ?_
          go_big_quiet_step (fail)
          refine wpQuiet_nil ?_
          refine flowW_plain rfl ?_
          go_big_quiet_step (fail)
          refine wpQuiet_nil ?_
          refine flowW_plain rfl ?_
          go_big_quiet_step (fail)
          refine wpQuiet_nil ?_
          refine flowW_call rfl rfl ?_ ?_
          · intro W hW hF K hK
            clear ky0 ky1 ky2 ky3 ky4 ky5 kg7 kk0
            go_wp2_with fail
            exact hK _ _ ⟨_, rfl⟩ ⟨_, rfl, rd_lit W #[.int .i64 x.to, .int .i64 x.kind, .int .i64 x.table, .int .i64 x.col, .int .i64 x.lo, .int .i64 x.hi, .int .i64 x.amt] 3 7 (by decide)⟩ (below_alloc _ _)
          rintro v ⟨g19, rfl⟩ K hK
          go_simp
          refine hK _ ?_
          clear hK K
          refine flowW_call rfl rfl ?_ ?_
          · intro W hW hF K hK
            clear ky0 ky1 ky2 ky3 ky4 ky5 kg7 kk0
            obtain ⟨_, he19, h19⟩ := hF 19 rfl
            cases he19
            go_wp2_with fail
            refine (refNums_any _ x.nums _ h19 (by simp [HandT.nums]) HHX.out).mono ?_
            rintro e wq' ⟨vq, rfl, hoq, hbq⟩
            go_wp2_with fail
            exact hK _ _ trivial (own_mono0 hoq hW.size) hbq
          rintro v - K hK
          go_simp
          refine hK _ ?_
          clear hK K
          refine flowW_end fun we hwe hF hD => ?_
          clear ky0 ky1 ky2 ky3 ky4 ky5 kg7 kk0
          simp only [List.drop_succ_cons, List.drop_zero]
          have hown2 := hF 20
          have HBE := Lib.hid (below_call HBZ.out (Nat.le_refl _) hwe)
          have hob := own_later HOZ.out hwe
          have hbb := HBE.out
          clear hF hD hwe
          go_wp2_with (at_builtin; refine wpList_app elB ⟨_, elB.ty, fun k h => nomatch h⟩ rfl _ _ rfl rfl rfl hob (Src.of_rd (Rd.of_own hown2) (by simp)) (oneCell_bytes _) (by unfold maxLen; omega) (by omega) hbb.size ?_; intro v3 w3 hown3 hgrow3 hblk3; have HO3 := Lib.hid (own_bytes hown3 (l := xs ++ nums x.nums) (by simp) (by simp)); have HB3 := Lib.hid (below_app hbb (Nat.le_refl _) hob hgrow3); clear hown2 hob hbb hown3 hgrow3 hblk3)
          go_roundw
          case rel => exact ⟨k + 1, _, by omega, by go_num, (by show _ = _; rw [HX.out]; exact HNX.out _), HO3.out, HB3.out⟩
          case measure => simp [intOf]; omega
      · have hkn : k = nh := by omega
        have HK := Lib.hid hkn
        clear hkn
        go_wp2_with fail
        go_ret
        have e : xs = p5 ++ bytesHs hands := by rw [HX.out, HK.out, List.take_of_length_le (by have := HNH.out; omega)]
        rw [← e]
        exact ⟨_, rfl, own_mono0 hown.out HBQ.out.size, below_then HBQ.out hb.out⟩
end Go.Proofs.Ytliokkoalkhpaaa
