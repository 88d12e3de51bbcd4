/-
  Layer 17 (tx): the document's Same. (printed by tools/gen_uz.py)
-/
import Derived.Test.YtnolbabpkhdpmaaGreatUY
import Derived.Test.YtnolbabpkhdpmaaGreatTJ
namespace Go.Proofs.YtnolbabpkhdpmaaGreat
open Go.RowKit Go.Sort Go.BigFrame
attribute [local irreducible] FlowW

/-- The same, but for noughts at the end of Deps. -/
structure SameTx (t u : TxT) : Prop where
  dev : t.dev = u.dev
  seq : t.seq = u.seq
  time : t.time = u.time
  firm : t.firm = u.firm
  note : t.note = u.note
  whom : t.whom = u.whom
  upto : t.upto = u.upto
  hands : t.hands = u.hands
  deps : SameV t.deps u.deps
  ops : t.ops = u.ops
  els : t.els = u.els
theorem bool_of (p : Prop) : ∃ r : Bool, (r = true ↔ p) := by
  classical
  exact ⟨decide p, decide_eq_true_iff⟩
theorem no_of {r : Bool} {p : Prop} (h : r = true ↔ p) (hp : ¬ p) : r = false := by
  cases r with
  | false => rfl
  | true => exact absurd (h.1 rfl) hp
theorem hands_stop {l m : List HandT} {k : Nat} (hk : k < l.length) (hk' : k < m.length) {x y : HandT} (hx : l[k] = x) (hy : m[k] = y) (h : x ≠ y) : l ≠ m := by
  rintro rfl
  exact h (hx.symm.trans hy)
theorem hands_next {l m : List HandT} {k : Nat} (hk : k < l.length) (hk' : k < m.length) {x y : HandT} (hx : l[k] = x) (hy : m[k] = y) (ht : l.take k = m.take k) (h : x = y) : l.take (k + 1) = m.take (k + 1) := by
  rw [List.take_succ_eq_append_getElem hk, List.take_succ_eq_append_getElem hk', ht, hx, hy, h]

set_option maxRecDepth 100000 in
set_option maxHeartbeats 32000000 in
theorem sameTx_any (r : Bool) {dev seq time note whom upto : Int} (fm : Bool) (deps : List Int) (ops els : List OpM) (hands : List HandT) {ad ao ae ah : Option Addr} {nd cd no co ne ce nh ch : Nat} {dev2 seq2 time2 note2 whom2 upto2 : Int} (fm2 : Bool) (deps2 : List Int) (ops2 els2 : List OpM) (hands2 : List HandT) {ad2 ao2 ae2 ah2 : Option Addr} {nd2 cd2 no2 co2 ne2 ce2 nh2 ch2 : Nat} (w : World)
    (hnd : deps.length = nd) (hnh : hands.length = nh) (hd : Rd w (.slice ad nd cd) deps.length (deps.map ic)) (ho : ORd w (.slice ao no co) ops) (he : ORd w (.slice ae ne ce) els) (hh : Rd w (.slice ah nh ch) hands.length (hands.flatMap HandT.cs)) (hdl : nd ≤ 1000000000)
    (hnd2 : deps2.length = nd2) (hnh2 : hands2.length = nh2) (hd2 : Rd w (.slice ad2 nd2 cd2) deps2.length (deps2.map ic)) (ho2 : ORd w (.slice ao2 no2 co2) ops2) (he2 : ORd w (.slice ae2 ne2 ce2) els2) (hh2 : Rd w (.slice ah2 nh2 ch2) hands2.length (hands2.flatMap HandT.cs)) (hdl2 : nd2 ≤ 1000000000)
    (hr : r = true ↔ SameTx (⟨dev, seq, time, deps, ops.map OpM.op, els.map OpM.op, fm, hands, note, whom, upto⟩ : TxT) (⟨dev2, seq2, time2, deps2, ops2.map OpM.op, els2.map OpM.op, fm2, hands2, note2, whom2, upto2⟩ : TxT)) :
    Calls Tryz.prog 44 #[.agg #[.int .i64 dev, .int .i64 seq, .int .i64 time, .slice ad nd cd, .slice ao no co, .slice ae ne ce, .bool fm, .slice ah nh ch, .int .i64 note, .int .i64 whom, .int .i64 upto], .agg #[.int .i64 dev2, .int .i64 seq2, .int .i64 time2, .slice ad2 nd2 cd2, .slice ao2 no2 co2, .slice ae2 ne2 ce2, .bool fm2, .slice ah2 nh2 ch2, .int .i64 note2, .int .i64 whom2, .int .i64 upto2]] w fun e w' => e = .returned (.bool r) ∧ Below w.heap.size w w' := by
  obtain ⟨w1, hw1⟩ : ∃ w1, (w.alloc (.cells #[.int .i64 dev, .int .i64 seq, .int .i64 time, .slice ad nd cd, .slice ao no co, .slice ae ne ce, .bool fm, .slice ah nh ch, .int .i64 note, .int .i64 whom, .int .i64 upto] 31)).alloc (.cells #[.int .i64 dev2, .int .i64 seq2, .int .i64 time2, .slice ad2 nd2 cd2, .slice ao2 no2 co2, .slice ae2 ne2 ce2, .bool fm2, .slice ah2 nh2 ch2, .int .i64 note2, .int .i64 whom2, .int .i64 upto2] 31) = w1 := ⟨_, rfl⟩
  have hb1 : Below w.heap.size w w1 := by rw [← hw1]; exact below_alloc_then (below_alloc _ _)
  have b0 : Bx w1 w.heap.size #[.int .i64 dev, .int .i64 seq, .int .i64 time, .slice ad nd cd, .slice ao no co, .slice ae ne ce, .bool fm, .slice ah nh ch, .int .i64 note, .int .i64 whom, .int .i64 upto] 31 := by rw [← hw1]; exact bx_later (below_alloc _ _) (bx_new (by simp))
  have b1 : Bx w1 (w.heap.size + 1) #[.int .i64 dev2, .int .i64 seq2, .int .i64 time2, .slice ad2 nd2 cd2, .slice ao2 no2 co2, .slice ae2 ne2 ce2, .bool fm2, .slice ah2 nh2 ch2, .int .i64 note2, .int .i64 whom2, .int .i64 upto2] 31 := by rw [← hw1]; exact bx_new (by simp)
  have p0 := cell_of_box b0 0 rfl
  have q0 := cell_of_box b1 0 rfl
  have p1 := cell_of_box b0 1 rfl
  have q1 := cell_of_box b1 1 rfl
  have p2 := cell_of_box b0 2 rfl
  have q2 := cell_of_box b1 2 rfl
  have p3 := cell_of_box b0 3 rfl
  have q3 := cell_of_box b1 3 rfl
  have p4 := cell_of_box b0 4 rfl
  have q4 := cell_of_box b1 4 rfl
  have p5 := cell_of_box b0 5 rfl
  have q5 := cell_of_box b1 5 rfl
  have p6 := cell_of_box b0 6 rfl
  have q6 := cell_of_box b1 6 rfl
  have p7 := cell_of_box b0 7 rfl
  have q7 := cell_of_box b1 7 rfl
  have p8 := cell_of_box b0 8 rfl
  have q8 := cell_of_box b1 8 rfl
  have p9 := cell_of_box b0 9 rfl
  have q9 := cell_of_box b1 9 rfl
  have p10 := cell_of_box b0 10 rfl
  have q10 := cell_of_box b1 10 rfl
  have HW := Lib.hid hw1
  have HB1 := Lib.hid hb1
  have HP := Lib.hid b0
  have HQ := Lib.hid b1
  have HR := Lib.hid hr
  have HD := Lib.hid hd
  have HO := Lib.hid ho
  have HE := Lib.hid he
  have HH := Lib.hid hh
  have HNH := Lib.hid hnh
  have HND := Lib.hid hnd
  have HD2 := Lib.hid hd2
  have HO2 := Lib.hid ho2
  have HE2 := Lib.hid he2
  have HH2 := Lib.hid hh2
  have HNH2 := Lib.hid hnh2
  have HND2 := Lib.hid hnd2
  have HDL : Hid (deps.length ≤ 1000000000000000) := by show _ ≤ _; omega
  have HDL2 : Hid (deps2.length ≤ 1000000000000000) := by show _ ≤ _; omega
  have hch : ch ≤ maxLen := by obtain ⟨_, _, hv, -, h2, -, -⟩ := id hh; cases hv; exact h2
  have hch2 : ch2 ≤ maxLen := by obtain ⟨_, _, hv, -, h2, -, -⟩ := id hh2; cases hv; exact h2
  have hcn : nh ≤ ch := by obtain ⟨_, _, hv, h1, -, -, -⟩ := id hh; cases hv; omega
  have hcn2 : nh2 ≤ ch2 := by obtain ⟨_, _, hv, h1, -, -, -⟩ := id hh2; cases hv; omega
  unfold maxLen at hch hch2
  clear hw1 hb1 b0 b1 hr hd ho he hh hd2 ho2 he2 hh2 hnd hnd2 hnh hnh2 hdl hdl2
  by_cases hq : time = time2
  · subst hq
    by_cases hq : dev = dev2
    · subst hq
      by_cases hq : seq = seq2
      · subst hq
        by_cases hq : fm = fm2
        · subst hq
          by_cases hq : note = note2
          · subst hq
            by_cases hq : whom = whom2
            · subst hq
              by_cases hq : upto = upto2
              · subst hq
                by_cases hq : nh = nh2
                · subst hq
                  have hnn : ((nh : Int) != (nh : Int)) = false := by simp
                  go_enter Tryz.func44, Tryz.ntmps44
                  go_wp2_with fail
                  rw [HW.out]
                  refine wp_region_flow (by kernel_rfl) 42 [(1, ⟨fun v => v = .agg #[.int .i64 time, .int .i64 dev, .int .i64 seq], fun _ _ _ _ => True⟩), (3, ⟨fun v => v = .agg #[.int .i64 time, .int .i64 dev, .int .i64 seq], fun _ _ _ _ => True⟩)] (by kernel_rfl) ?_ ?_ ?_
                  · intro x hx
                    simp only [List.mem_cons, List.not_mem_nil, or_false] at hx
                    rcases hx with rfl | rfl
                    · exact ⟨_, rfl⟩
                    · exact ⟨_, rfl⟩
                  · intro x hx v lo hi w w' h hb
                    simp only [List.mem_cons, List.not_mem_nil, or_false] at hx
                    rcases hx with rfl | rfl
                    · exact trivial
                    · exact trivial
                  · intro lo hi
                    have kp0 := cell_regrown p0
                    have kp1 := cell_regrown p1
                    have kp2 := cell_regrown p2
                    have kp3 := cell_regrown p3
                    have kp4 := cell_regrown p4
                    have kp5 := cell_regrown p5
                    have kp6 := cell_regrown p6
                    have kp7 := cell_regrown p7
                    have kp8 := cell_regrown p8
                    have kp9 := cell_regrown p9
                    have kp10 := cell_regrown p10
                    have kq0 := cell_regrown q0
                    have kq1 := cell_regrown q1
                    have kq2 := cell_regrown q2
                    have kq3 := cell_regrown q3
                    have kq4 := cell_regrown q4
                    have kq5 := cell_regrown q5
                    have kq6 := cell_regrown q6
                    have kq7 := cell_regrown q7
                    have kq8 := cell_regrown q8
                    have kq9 := cell_regrown q9
                    have kq10 := cell_regrown q10
                    refine flowW_plain rfl ?_
                    go_big_quiet_step (fail)
                    refine wpQuiet_nil ?_
                    refine flowW_call rfl rfl ?_ ?_
                    · intro W hW hF K hK
                      clear kp0 kp1 kp2 kp3 kp4 kp5 kp6 kp7 kp8 kp9 kp10 kq0 kq1 kq2 kq3 kq4 kq5 kq6 kq7 kq8 kq9 kq10
                      go_wp2_with fail
                      refine (refStamp_any _).mono ?_
                      rintro e wq ⟨rfl, hbq⟩
                      go_wp2_with fail
                      exact hK _ _ rfl trivial hbq
                    rintro v rfl K hK
                    go_simp
                    refine hK _ ?_
                    clear hK K
                    refine flowW_plain rfl ?_
                    go_big_quiet_step (fail)
                    refine wpQuiet_nil ?_
                    refine flowW_call rfl rfl ?_ ?_
                    · intro W hW hF K hK
                      clear kp0 kp1 kp2 kp3 kp4 kp5 kp6 kp7 kp8 kp9 kp10 kq0 kq1 kq2 kq3 kq4 kq5 kq6 kq7 kq8 kq9 kq10
                      go_wp2_with fail
                      refine (refStamp_any _).mono ?_
                      rintro e wq ⟨rfl, hbq⟩
                      go_wp2_with fail
                      exact hK _ _ rfl trivial hbq
                    rintro v rfl K hK
                    go_simp
                    refine hK _ ?_
                    clear hK K
                    refine flowW_plain rfl ?_
                    go_big_quiet_step (fail)
                    refine wpQuiet_nil ?_
                    refine flowW_plain rfl ?_
                    go_big_quiet_step (fail)
                    refine wpQuiet_nil ?_
                    refine flowW_plain rfl ?_
                    go_big_quiet_step (fail)
                    refine wpQuiet_nil ?_
                    refine flowW_plain rfl ?_
                    go_big_quiet_step (fail)
                    refine wpQuiet_nil ?_
                    refine flowW_plain rfl ?_
                    go_big_quiet_step (fail)
                    refine wpQuiet_nil ?_
                    refine flowW_plain rfl ?_
                    go_big_quiet_step (fail)
                    refine wpQuiet_nil ?_
                    refine flowW_plain rfl ?_
                    go_big_quiet_step (fail)
                    refine wpQuiet_nil ?_
                    refine flowW_plain rfl ?_
                    go_big_quiet_step (fail)
                    refine wpQuiet_nil ?_
                    refine flowW_plain rfl ?_
                    go_big_quiet_step (fail)
                    refine wpQuiet_nil ?_
                    refine flowW_plain rfl ?_
                    go_big_quiet_step (fail)
                    refine wpQuiet_nil ?_
                    refine flowW_plain rfl ?_
                    go_big_quiet_step (fail)
                    refine wpQuiet_nil ?_
                    refine flowW_plain rfl ?_
                    go_big_quiet_step (fail)
                    refine wpQuiet_nil ?_
                    refine flowW_plain rfl ?_
                    go_big_quiet_step (fail)
                    refine wpQuiet_nil ?_
                    refine flowW_plain rfl ?_
                    go_big_quiet_step (fail)
                    refine wpQuiet_nil ?_
                    refine flowW_plain rfl ?_
                    go_big_quiet_step (fail)
                    refine wpQuiet_nil ?_
                    refine flowW_plain rfl ?_
                    go_big_quiet_step (fail)
                    refine wpQuiet_nil ?_
                    refine flowW_plain rfl ?_
                    go_big_quiet_step (fail)
                    refine wpQuiet_nil ?_
                    refine flowW_plain rfl ?_
                    go_big_quiet_step (fail)
                    refine wpQuiet_nil ?_
                    refine flowW_plain rfl ?_
                    go_big_quiet_step (fail)
                    refine wpQuiet_nil ?_
                    refine flowW_plain rfl ?_
                    go_big_quiet_step (fail)
                    refine wpQuiet_nil ?_
                    refine flowW_plain rfl ?_
                    go_big_quiet_step (fail)
                    refine wpQuiet_nil ?_
                    refine flowW_plain rfl ?_
                    go_big_quiet_step (fail)
                    refine wpQuiet_nil ?_
                    refine flowW_plain rfl ?_
                    go_big_quiet_step (fail)
                    refine wpQuiet_nil ?_
                    refine flowW_plain rfl ?_
                    go_big_quiet_step (fail)
                    refine wpQuiet_nil ?_
                    refine flowW_plain rfl ?_
                    go_big_quiet_step (fail)
                    refine wpQuiet_nil ?_
                    refine flowW_plain rfl ?_
                    go_big_quiet_step (fail)
                    refine wpQuiet_nil ?_
                    refine flowW_plain rfl ?_
                    go_big_quiet_step (fail)
                    refine wpQuiet_nil ?_
                    refine flowW_plain rfl ?_
                    go_big_quiet_step (fail)
                    refine wpQuiet_nil ?_
                    refine flowW_plain rfl ?_
                    go_big_quiet_step (fail)
                    refine wpQuiet_nil ?_
                    refine flowW_plain rfl ?_
                    go_big_quiet_step (fail)
                    refine wpQuiet_nil ?_
                    refine flowW_plain rfl ?_
                    go_big_quiet_step (fail)
                    refine wpQuiet_nil ?_
                    refine flowW_plain rfl ?_
                    go_big_quiet_step (fail)
                    refine wpQuiet_nil ?_
                    refine flowW_plain rfl ?_
                    go_big_quiet_step (fail)
                    refine wpQuiet_nil ?_
                    refine flowW_plain rfl ?_
                    go_big_quiet_step (fail)
                    refine wpQuiet_nil ?_
                    refine flowW_plain rfl ?_
                    go_big_quiet_step (fail)
                    refine wpQuiet_nil ?_
                    refine flowW_plain rfl ?_
                    go_big_quiet_step (fail)
                    refine wpQuiet_nil ?_
                    refine flowW_plain rfl ?_
                    go_big_quiet_step (fail)
                    refine wpQuiet_nil ?_
                    refine flowW_plain rfl ?_
                    go_big_quiet_step (fail)
                    refine wpQuiet_nil ?_
                    refine flowW_end fun w2 hw2 hF hD => ?_
                    clear kp0 kp1 kp2 kp3 kp4 kp5 kp6 kp7 kp8 kp9 kp10 kq0 kq1 kq2 kq3 kq4 kq5 kq6 kq7 kq8 kq9 kq10
                    simp only [List.drop_succ_cons, List.drop_zero]
                    have HB2 := Lib.hid (below_then HB1.out hw2)
                    clear hF hD
                    have HP2 := Lib.hid (bx_later hw2 HP.out)
                    have HQ2 := Lib.hid (bx_later hw2 HQ.out)
                    clear hw2 p0 p1 p2 p3 p4 p5 p6 p7 p8 p9 p10 q0 q1 q2 q3 q4 q5 q6 q7 q8 q9 q10
                    go_wp2_with fail
                    go_loopw [5] (fun vi wr => ∃ k : Nat, k ≤ nh ∧ vi = .int .i64 k ∧ Hid (hands.take k = hands2.take k) ∧ Hid (Below w2.heap.size w2 wr)) (fun vi _ => nh - (intOf vi).toNat)
                    case atStart => exact ⟨0, Nat.zero_le _, rfl, rfl, Below.refl _ _⟩
                    case round =>
                      obtain ⟨k, hk, rfl, HTK, hb0⟩ := hrel
                      rename World => wr
                      have f7 := cell_of_box (bx_later hb0.out HP2.out) 7 rfl
                      have g7 := cell_of_box (bx_later hb0.out HQ2.out) 7 rfl
                      have hb := Lib.hid (below_then HB2.out hb0.out)
                      by_cases hlt : k < nh
                      · have hkl : k < hands.length := by have := HNH.out; omega
                        have hkm : k < hands2.length := by have := HNH2.out; omega
                        obtain ⟨x, hx⟩ : ∃ x, hands[k] = x := ⟨_, rfl⟩
                        obtain ⟨y, hy⟩ : ∃ y, hands2[k] = y := ⟨_, rfl⟩
                        have hr1 : Rd wr (.slice ah nh ch) nh (hands.flatMap HandT.cs) := by have := HH.out.later hb.out; rwa [HNH.out] at this
                        have hr2 : Rd wr (.slice ah2 nh ch2) nh (hands2.flatMap HandT.cs) := by have := HH2.out.later hb.out; rwa [HNH2.out] at this
                        obtain ⟨b1, o1, z1, c0, c1, c2, c3, c4, c5, c6, _⟩ := rd_hand hr1 HNH.out.symm k hkl hx
                        obtain ⟨b2, o2, z2, d0, d1, d2, d3, d4, d5, d6, _⟩ := rd_hand hr2 HNH2.out.symm k hkm hy
                        have HST : Hid (x ≠ y → hands ≠ hands2) := fun h => hands_stop hkl hkm hx hy h
                        have HNX : Hid (x = y → hands.take (k + 1) = hands2.take (k + 1)) := fun h => hands_next hkl hkm hx hy HTK.out h
                        clear hx hy hr1 hr2
                        obtain ⟨x0, x1, x2, x3, x4, x5, x6⟩ := x
                        obtain ⟨y0, y1, y2, y3, y4, y5, y6⟩ := y
                        dsimp only at c0 d0 c1 d1 c2 d2 c3 d3 c4 d4 c5 d5 c6 d6 HST HNX
                        by_cases hq : x0 = y0
                        · subst hq
                          by_cases hq : x1 = y1
                          · subst hq
                            by_cases hq : x2 = y2
                            · subst hq
                              by_cases hq : x3 = y3
                              · subst hq
                                by_cases hq : x4 = y4
                                · subst hq
                                  by_cases hq : x5 = y5
                                  · subst hq
                                    by_cases hq : x6 = y6
                                    · subst hq
                                      have HN := Lib.hid (HNX.out rfl)
                                      go_wp2_with fail
                                      refine wp_region_flow (by kernel_rfl) 11 [] (by kernel_rfl) ?_ ?_ ?_
                                      · intro x hx; cases hx
                                      · intro x hx; cases hx
                                      · intro lo hi
                                        have kf7 := cell_regrown f7
                                        have kg7 := cell_regrown g7
                                        have kc0 := cell_regrown c0
                                        have kc1 := cell_regrown c1
                                        have kc2 := cell_regrown c2
                                        have kc3 := cell_regrown c3
                                        have kc4 := cell_regrown c4
                                        have kc5 := cell_regrown c5
                                        have kc6 := cell_regrown c6
                                        have kd0 := cell_regrown d0
                                        have kd1 := cell_regrown d1
                                        have kd2 := cell_regrown d2
                                        have kd3 := cell_regrown d3
                                        have kd4 := cell_regrown d4
                                        have kd5 := cell_regrown d5
                                        have kd6 := cell_regrown d6
                                        refine flowW_plain rfl ?_
                                        go_big_quiet_step (fail)
                                        refine wpQuiet_nil ?_
                                        refine flowW_plain rfl ?_
                                        go_big_quiet_step (fail)
                                        refine wpQuiet_nil ?_
                                        refine flowW_plain rfl ?_
                                        go_big_quiet_step (fail)
                                        refine wpQuiet_nil ?_
                                        refine flowW_plain rfl ?_
                                        go_big_quiet_step (fail)
                                        refine wpQuiet_nil ?_
                                        refine flowW_plain rfl ?_
                                        go_big_quiet_step (fail)
                                        refine wpQuiet_nil ?_
                                        refine flowW_plain rfl ?_
                                        go_big_quiet_step (fail)
                                        refine wpQuiet_nil ?_
                                        refine flowW_plain rfl ?_
                                        go_big_quiet_step (fail)
                                        refine wpQuiet_nil ?_
                                        refine flowW_plain rfl ?_
                                        go_big_quiet_step (fail)
                                        refine wpQuiet_nil ?_
                                        refine flowW_plain rfl ?_
                                        go_big_quiet_step (fail)
                                        refine wpQuiet_nil ?_
                                        refine flowW_plain rfl ?_
                                        go_big_quiet_step (fail)
                                        refine wpQuiet_nil ?_
                                        refine flowW_plain rfl ?_
                                        go_big_quiet_step (fail)
                                        refine wpQuiet_nil ?_
                                        refine flowW_end fun w3 hw3 hF hD => ?_
                                        clear kf7 kg7 kc0 kc1 kc2 kc3 kc4 kc5 kc6 kd0 kd1 kd2 kd3 kd4 kd5 kd6
                                        simp only [List.drop_succ_cons, List.drop_zero]
                                        have HB3 := Lib.hid (below_then hb.out hw3)
                                        have HB4 := Lib.hid (below_then hb0.out hw3)
                                        clear hF hD hw3
                                        go_wp2_with fail
                                        go_roundw
                                        case rel => exact ⟨k + 1, by omega, by go_num, HN.out, HB4.out⟩
                                        case measure => simp [intOf]; omega
                                    · have HF := Lib.hid (no_of HR.out (fun h => HST.out (fun h => by injection h; simp_all) h.hands))
                                      have hne : (x6 == y6) = false := beq_eq_false_iff_ne.2 hq
                                      have hne' : (x6 != y6) = true := by rw [bne, hne]; rfl
                                      clear hq
                                      go_wp2_with fail
                                      refine wp_region_flow (by kernel_rfl) 11 [] (by kernel_rfl) ?_ ?_ ?_
                                      · intro x hx; cases hx
                                      · intro x hx; cases hx
                                      · intro lo hi
                                        have kf7 := cell_regrown f7
                                        have kg7 := cell_regrown g7
                                        have kc0 := cell_regrown c0
                                        have kc1 := cell_regrown c1
                                        have kc2 := cell_regrown c2
                                        have kc3 := cell_regrown c3
                                        have kc4 := cell_regrown c4
                                        have kc5 := cell_regrown c5
                                        have kc6 := cell_regrown c6
                                        have kd0 := cell_regrown d0
                                        have kd1 := cell_regrown d1
                                        have kd2 := cell_regrown d2
                                        have kd3 := cell_regrown d3
                                        have kd4 := cell_regrown d4
                                        have kd5 := cell_regrown d5
                                        have kd6 := cell_regrown d6
                                        refine flowW_plain rfl ?_
                                        go_big_quiet_step (fail)
                                        refine wpQuiet_nil ?_
                                        refine flowW_plain rfl ?_
                                        go_big_quiet_step (fail)
                                        refine wpQuiet_nil ?_
                                        refine flowW_plain rfl ?_
                                        go_big_quiet_step (fail)
                                        refine wpQuiet_nil ?_
                                        refine flowW_plain rfl ?_
                                        go_big_quiet_step (fail)
                                        refine wpQuiet_nil ?_
                                        refine flowW_plain rfl ?_
                                        go_big_quiet_step (fail)
                                        refine wpQuiet_nil ?_
                                        refine flowW_plain rfl ?_
                                        go_big_quiet_step (fail)
                                        refine wpQuiet_nil ?_
                                        refine flowW_plain rfl ?_
                                        go_big_quiet_step (fail)
                                        refine wpQuiet_nil ?_
                                        refine flowW_plain rfl ?_
                                        go_big_quiet_step (fail)
                                        refine wpQuiet_nil ?_
                                        refine flowW_plain rfl ?_
                                        go_big_quiet_step (fail)
                                        refine wpQuiet_nil ?_
                                        refine flowW_plain rfl ?_
                                        go_big_quiet_step (fail)
                                        refine wpQuiet_nil ?_
                                        refine flowW_plain rfl ?_
                                        go_big_quiet_step (fail)
                                        refine wpQuiet_nil ?_
                                        refine flowW_end fun w3 hw3 hF hD => ?_
                                        clear kf7 kg7 kc0 kc1 kc2 kc3 kc4 kc5 kc6 kd0 kd1 kd2 kd3 kd4 kd5 kd6
                                        simp only [List.drop_succ_cons, List.drop_zero]
                                        have HB3 := Lib.hid (below_then hb.out hw3)
                                        have HB4 := Lib.hid (below_then hb0.out hw3)
                                        clear hF hD hw3
                                        go_wp2_with fail
                                        go_ret
                                        exact ⟨ret_bool HF.out.symm, HB3.out⟩
                                  · have HF := Lib.hid (no_of HR.out (fun h => HST.out (fun h => by injection h; simp_all) h.hands))
                                    have hne : (x5 == y5) = false := beq_eq_false_iff_ne.2 hq
                                    have hne' : (x5 != y5) = true := by rw [bne, hne]; rfl
                                    clear hq
                                    go_wp2_with fail
                                    refine wp_region_flow (by kernel_rfl) 11 [] (by kernel_rfl) ?_ ?_ ?_
                                    · intro x hx; cases hx
                                    · intro x hx; cases hx
                                    · intro lo hi
                                      have kf7 := cell_regrown f7
                                      have kg7 := cell_regrown g7
                                      have kc0 := cell_regrown c0
                                      have kc1 := cell_regrown c1
                                      have kc2 := cell_regrown c2
                                      have kc3 := cell_regrown c3
                                      have kc4 := cell_regrown c4
                                      have kc5 := cell_regrown c5
                                      have kc6 := cell_regrown c6
                                      have kd0 := cell_regrown d0
                                      have kd1 := cell_regrown d1
                                      have kd2 := cell_regrown d2
                                      have kd3 := cell_regrown d3
                                      have kd4 := cell_regrown d4
                                      have kd5 := cell_regrown d5
                                      have kd6 := cell_regrown d6
                                      refine flowW_plain rfl ?_
                                      go_big_quiet_step (fail)
                                      refine wpQuiet_nil ?_
                                      refine flowW_plain rfl ?_
                                      go_big_quiet_step (fail)
                                      refine wpQuiet_nil ?_
                                      refine flowW_plain rfl ?_
                                      go_big_quiet_step (fail)
                                      refine wpQuiet_nil ?_
                                      refine flowW_plain rfl ?_
                                      go_big_quiet_step (fail)
                                      refine wpQuiet_nil ?_
                                      refine flowW_plain rfl ?_
                                      go_big_quiet_step (fail)
                                      refine wpQuiet_nil ?_
                                      refine flowW_plain rfl ?_
                                      go_big_quiet_step (fail)
                                      refine wpQuiet_nil ?_
                                      refine flowW_plain rfl ?_
                                      go_big_quiet_step (fail)
                                      refine wpQuiet_nil ?_
                                      refine flowW_plain rfl ?_
                                      go_big_quiet_step (fail)
                                      refine wpQuiet_nil ?_
                                      refine flowW_plain rfl ?_
                                      go_big_quiet_step (fail)
                                      refine wpQuiet_nil ?_
                                      refine flowW_plain rfl ?_
                                      go_big_quiet_step (fail)
                                      refine wpQuiet_nil ?_
                                      refine flowW_plain rfl ?_
                                      go_big_quiet_step (fail)
                                      refine wpQuiet_nil ?_
                                      refine flowW_end fun w3 hw3 hF hD => ?_
                                      clear kf7 kg7 kc0 kc1 kc2 kc3 kc4 kc5 kc6 kd0 kd1 kd2 kd3 kd4 kd5 kd6
                                      simp only [List.drop_succ_cons, List.drop_zero]
                                      have HB3 := Lib.hid (below_then hb.out hw3)
                                      have HB4 := Lib.hid (below_then hb0.out hw3)
                                      clear hF hD hw3
                                      go_wp2_with fail
                                      go_ret
                                      exact ⟨ret_bool HF.out.symm, HB3.out⟩
                                · have HF := Lib.hid (no_of HR.out (fun h => HST.out (fun h => by injection h; simp_all) h.hands))
                                  have hne : (x4 == y4) = false := beq_eq_false_iff_ne.2 hq
                                  have hne' : (x4 != y4) = true := by rw [bne, hne]; rfl
                                  clear hq
                                  go_wp2_with fail
                                  refine wp_region_flow (by kernel_rfl) 11 [] (by kernel_rfl) ?_ ?_ ?_
                                  · intro x hx; cases hx
                                  · intro x hx; cases hx
                                  · intro lo hi
                                    have kf7 := cell_regrown f7
                                    have kg7 := cell_regrown g7
                                    have kc0 := cell_regrown c0
                                    have kc1 := cell_regrown c1
                                    have kc2 := cell_regrown c2
                                    have kc3 := cell_regrown c3
                                    have kc4 := cell_regrown c4
                                    have kc5 := cell_regrown c5
                                    have kc6 := cell_regrown c6
                                    have kd0 := cell_regrown d0
                                    have kd1 := cell_regrown d1
                                    have kd2 := cell_regrown d2
                                    have kd3 := cell_regrown d3
                                    have kd4 := cell_regrown d4
                                    have kd5 := cell_regrown d5
                                    have kd6 := cell_regrown d6
                                    refine flowW_plain rfl ?_
                                    go_big_quiet_step (fail)
                                    refine wpQuiet_nil ?_
                                    refine flowW_plain rfl ?_
                                    go_big_quiet_step (fail)
                                    refine wpQuiet_nil ?_
                                    refine flowW_plain rfl ?_
                                    go_big_quiet_step (fail)
                                    refine wpQuiet_nil ?_
                                    refine flowW_plain rfl ?_
                                    go_big_quiet_step (fail)
                                    refine wpQuiet_nil ?_
                                    refine flowW_plain rfl ?_
                                    go_big_quiet_step (fail)
                                    refine wpQuiet_nil ?_
                                    refine flowW_plain rfl ?_
                                    go_big_quiet_step (fail)
                                    refine wpQuiet_nil ?_
                                    refine flowW_plain rfl ?_
                                    go_big_quiet_step (fail)
                                    refine wpQuiet_nil ?_
                                    refine flowW_plain rfl ?_
                                    go_big_quiet_step (fail)
                                    refine wpQuiet_nil ?_
                                    refine flowW_plain rfl ?_
                                    go_big_quiet_step (fail)
                                    refine wpQuiet_nil ?_
                                    refine flowW_plain rfl ?_
                                    go_big_quiet_step (fail)
                                    refine wpQuiet_nil ?_
                                    refine flowW_plain rfl ?_
                                    go_big_quiet_step (fail)
                                    refine wpQuiet_nil ?_
                                    refine flowW_end fun w3 hw3 hF hD => ?_
                                    clear kf7 kg7 kc0 kc1 kc2 kc3 kc4 kc5 kc6 kd0 kd1 kd2 kd3 kd4 kd5 kd6
                                    simp only [List.drop_succ_cons, List.drop_zero]
                                    have HB3 := Lib.hid (below_then hb.out hw3)
                                    have HB4 := Lib.hid (below_then hb0.out hw3)
                                    clear hF hD hw3
                                    go_wp2_with fail
                                    go_ret
                                    exact ⟨ret_bool HF.out.symm, HB3.out⟩
                              · have HF := Lib.hid (no_of HR.out (fun h => HST.out (fun h => by injection h; simp_all) h.hands))
                                have hne : (x3 == y3) = false := beq_eq_false_iff_ne.2 hq
                                have hne' : (x3 != y3) = true := by rw [bne, hne]; rfl
                                clear hq
                                go_wp2_with fail
                                refine wp_region_flow (by kernel_rfl) 11 [] (by kernel_rfl) ?_ ?_ ?_
                                · intro x hx; cases hx
                                · intro x hx; cases hx
                                · intro lo hi
                                  have kf7 := cell_regrown f7
                                  have kg7 := cell_regrown g7
                                  have kc0 := cell_regrown c0
                                  have kc1 := cell_regrown c1
                                  have kc2 := cell_regrown c2
                                  have kc3 := cell_regrown c3
                                  have kc4 := cell_regrown c4
                                  have kc5 := cell_regrown c5
                                  have kc6 := cell_regrown c6
                                  have kd0 := cell_regrown d0
                                  have kd1 := cell_regrown d1
                                  have kd2 := cell_regrown d2
                                  have kd3 := cell_regrown d3
                                  have kd4 := cell_regrown d4
                                  have kd5 := cell_regrown d5
                                  have kd6 := cell_regrown d6
                                  refine flowW_plain rfl ?_
                                  go_big_quiet_step (fail)
                                  refine wpQuiet_nil ?_
                                  refine flowW_plain rfl ?_
                                  go_big_quiet_step (fail)
                                  refine wpQuiet_nil ?_
                                  refine flowW_plain rfl ?_
                                  go_big_quiet_step (fail)
                                  refine wpQuiet_nil ?_
                                  refine flowW_plain rfl ?_
                                  go_big_quiet_step (fail)
                                  refine wpQuiet_nil ?_
                                  refine flowW_plain rfl ?_
                                  go_big_quiet_step (fail)
                                  refine wpQuiet_nil ?_
                                  refine flowW_plain rfl ?_
                                  go_big_quiet_step (fail)
                                  refine wpQuiet_nil ?_
                                  refine flowW_plain rfl ?_
                                  go_big_quiet_step (fail)
                                  refine wpQuiet_nil ?_
                                  refine flowW_plain rfl ?_
                                  go_big_quiet_step (fail)
                                  refine wpQuiet_nil ?_
                                  refine flowW_plain rfl ?_
                                  go_big_quiet_step (fail)
                                  refine wpQuiet_nil ?_
                                  refine flowW_plain rfl ?_
                                  go_big_quiet_step (fail)
                                  refine wpQuiet_nil ?_
                                  refine flowW_plain rfl ?_
                                  go_big_quiet_step (fail)
                                  refine wpQuiet_nil ?_
                                  refine flowW_end fun w3 hw3 hF hD => ?_
                                  clear kf7 kg7 kc0 kc1 kc2 kc3 kc4 kc5 kc6 kd0 kd1 kd2 kd3 kd4 kd5 kd6
                                  simp only [List.drop_succ_cons, List.drop_zero]
                                  have HB3 := Lib.hid (below_then hb.out hw3)
                                  have HB4 := Lib.hid (below_then hb0.out hw3)
                                  clear hF hD hw3
                                  go_wp2_with fail
                                  go_ret
                                  exact ⟨ret_bool HF.out.symm, HB3.out⟩
                            · have HF := Lib.hid (no_of HR.out (fun h => HST.out (fun h => by injection h; simp_all) h.hands))
                              have hne : (x2 == y2) = false := beq_eq_false_iff_ne.2 hq
                              have hne' : (x2 != y2) = true := by rw [bne, hne]; rfl
                              clear hq
                              go_wp2_with fail
                              refine wp_region_flow (by kernel_rfl) 11 [] (by kernel_rfl) ?_ ?_ ?_
                              · intro x hx; cases hx
                              · intro x hx; cases hx
                              · intro lo hi
                                have kf7 := cell_regrown f7
                                have kg7 := cell_regrown g7
                                have kc0 := cell_regrown c0
                                have kc1 := cell_regrown c1
                                have kc2 := cell_regrown c2
                                have kc3 := cell_regrown c3
                                have kc4 := cell_regrown c4
                                have kc5 := cell_regrown c5
                                have kc6 := cell_regrown c6
                                have kd0 := cell_regrown d0
                                have kd1 := cell_regrown d1
                                have kd2 := cell_regrown d2
                                have kd3 := cell_regrown d3
                                have kd4 := cell_regrown d4
                                have kd5 := cell_regrown d5
                                have kd6 := cell_regrown d6
                                refine flowW_plain rfl ?_
                                go_big_quiet_step (fail)
                                refine wpQuiet_nil ?_
                                refine flowW_plain rfl ?_
                                go_big_quiet_step (fail)
                                refine wpQuiet_nil ?_
                                refine flowW_plain rfl ?_
                                go_big_quiet_step (fail)
                                refine wpQuiet_nil ?_
                                refine flowW_plain rfl ?_
                                go_big_quiet_step (fail)
                                refine wpQuiet_nil ?_
                                refine flowW_plain rfl ?_
                                go_big_quiet_step (fail)
                                refine wpQuiet_nil ?_
                                refine flowW_plain rfl ?_
                                go_big_quiet_step (fail)
                                refine wpQuiet_nil ?_
                                refine flowW_plain rfl ?_
                                go_big_quiet_step (fail)
                                refine wpQuiet_nil ?_
                                refine flowW_plain rfl ?_
                                go_big_quiet_step (fail)
                                refine wpQuiet_nil ?_
                                refine flowW_plain rfl ?_
                                go_big_quiet_step (fail)
                                refine wpQuiet_nil ?_
                                refine flowW_plain rfl ?_
                                go_big_quiet_step (fail)
                                refine wpQuiet_nil ?_
                                refine flowW_plain rfl ?_
                                go_big_quiet_step (fail)
                                refine wpQuiet_nil ?_
                                refine flowW_end fun w3 hw3 hF hD => ?_
                                clear kf7 kg7 kc0 kc1 kc2 kc3 kc4 kc5 kc6 kd0 kd1 kd2 kd3 kd4 kd5 kd6
                                simp only [List.drop_succ_cons, List.drop_zero]
                                have HB3 := Lib.hid (below_then hb.out hw3)
                                have HB4 := Lib.hid (below_then hb0.out hw3)
                                clear hF hD hw3
                                go_wp2_with fail
                                go_ret
                                exact ⟨ret_bool HF.out.symm, HB3.out⟩
                          · have HF := Lib.hid (no_of HR.out (fun h => HST.out (fun h => by injection h; simp_all) h.hands))
                            have hne : (x1 == y1) = false := beq_eq_false_iff_ne.2 hq
                            have hne' : (x1 != y1) = true := by rw [bne, hne]; rfl
                            clear hq
                            go_wp2_with fail
                            refine wp_region_flow (by kernel_rfl) 11 [] (by kernel_rfl) ?_ ?_ ?_
                            · intro x hx; cases hx
                            · intro x hx; cases hx
                            · intro lo hi
                              have kf7 := cell_regrown f7
                              have kg7 := cell_regrown g7
                              have kc0 := cell_regrown c0
                              have kc1 := cell_regrown c1
                              have kc2 := cell_regrown c2
                              have kc3 := cell_regrown c3
                              have kc4 := cell_regrown c4
                              have kc5 := cell_regrown c5
                              have kc6 := cell_regrown c6
                              have kd0 := cell_regrown d0
                              have kd1 := cell_regrown d1
                              have kd2 := cell_regrown d2
                              have kd3 := cell_regrown d3
                              have kd4 := cell_regrown d4
                              have kd5 := cell_regrown d5
                              have kd6 := cell_regrown d6
                              refine flowW_plain rfl ?_
                              go_big_quiet_step (fail)
                              refine wpQuiet_nil ?_
                              refine flowW_plain rfl ?_
                              go_big_quiet_step (fail)
                              refine wpQuiet_nil ?_
                              refine flowW_plain rfl ?_
                              go_big_quiet_step (fail)
                              refine wpQuiet_nil ?_
                              refine flowW_plain rfl ?_
                              go_big_quiet_step (fail)
                              refine wpQuiet_nil ?_
                              refine flowW_plain rfl ?_
                              go_big_quiet_step (fail)
                              refine wpQuiet_nil ?_
                              refine flowW_plain rfl ?_
                              go_big_quiet_step (fail)
                              refine wpQuiet_nil ?_
                              refine flowW_plain rfl ?_
                              go_big_quiet_step (fail)
                              refine wpQuiet_nil ?_
                              refine flowW_plain rfl ?_
                              go_big_quiet_step (fail)
                              refine wpQuiet_nil ?_
                              refine flowW_plain rfl ?_
                              go_big_quiet_step (fail)
                              refine wpQuiet_nil ?_
                              refine flowW_plain rfl ?_
                              go_big_quiet_step (fail)
                              refine wpQuiet_nil ?_
                              refine flowW_plain rfl ?_
                              go_big_quiet_step (fail)
                              refine wpQuiet_nil ?_
                              refine flowW_end fun w3 hw3 hF hD => ?_
                              clear kf7 kg7 kc0 kc1 kc2 kc3 kc4 kc5 kc6 kd0 kd1 kd2 kd3 kd4 kd5 kd6
                              simp only [List.drop_succ_cons, List.drop_zero]
                              have HB3 := Lib.hid (below_then hb.out hw3)
                              have HB4 := Lib.hid (below_then hb0.out hw3)
                              clear hF hD hw3
                              go_wp2_with fail
                              go_ret
                              exact ⟨ret_bool HF.out.symm, HB3.out⟩
                        · have HF := Lib.hid (no_of HR.out (fun h => HST.out (fun h => by injection h; simp_all) h.hands))
                          have hne : (x0 == y0) = false := beq_eq_false_iff_ne.2 hq
                          have hne' : (x0 != y0) = true := by rw [bne, hne]; rfl
                          clear hq
                          go_wp2_with fail
                          refine wp_region_flow (by kernel_rfl) 11 [] (by kernel_rfl) ?_ ?_ ?_
                          · intro x hx; cases hx
                          · intro x hx; cases hx
                          · intro lo hi
                            have kf7 := cell_regrown f7
                            have kg7 := cell_regrown g7
                            have kc0 := cell_regrown c0
                            have kc1 := cell_regrown c1
                            have kc2 := cell_regrown c2
                            have kc3 := cell_regrown c3
                            have kc4 := cell_regrown c4
                            have kc5 := cell_regrown c5
                            have kc6 := cell_regrown c6
                            have kd0 := cell_regrown d0
                            have kd1 := cell_regrown d1
                            have kd2 := cell_regrown d2
                            have kd3 := cell_regrown d3
                            have kd4 := cell_regrown d4
                            have kd5 := cell_regrown d5
                            have kd6 := cell_regrown d6
                            refine flowW_plain rfl ?_
                            go_big_quiet_step (fail)
                            refine wpQuiet_nil ?_
                            refine flowW_plain rfl ?_
                            go_big_quiet_step (fail)
                            refine wpQuiet_nil ?_
                            refine flowW_plain rfl ?_
                            go_big_quiet_step (fail)
                            refine wpQuiet_nil ?_
                            refine flowW_plain rfl ?_
                            go_big_quiet_step (fail)
                            refine wpQuiet_nil ?_
                            refine flowW_plain rfl ?_
                            go_big_quiet_step (fail)
                            refine wpQuiet_nil ?_
                            refine flowW_plain rfl ?_
                            go_big_quiet_step (fail)
                            refine wpQuiet_nil ?_
                            refine flowW_plain rfl ?_
                            go_big_quiet_step (fail)
                            refine wpQuiet_nil ?_
                            refine flowW_plain rfl ?_
                            go_big_quiet_step (fail)
                            refine wpQuiet_nil ?_
                            refine flowW_plain rfl ?_
                            go_big_quiet_step (fail)
                            refine wpQuiet_nil ?_
                            refine flowW_plain rfl ?_
                            go_big_quiet_step (fail)
                            refine wpQuiet_nil ?_
                            refine flowW_plain rfl ?_
                            go_big_quiet_step (fail)
                            refine wpQuiet_nil ?_
                            refine flowW_end fun w3 hw3 hF hD => ?_
                            clear kf7 kg7 kc0 kc1 kc2 kc3 kc4 kc5 kc6 kd0 kd1 kd2 kd3 kd4 kd5 kd6
                            simp only [List.drop_succ_cons, List.drop_zero]
                            have HB3 := Lib.hid (below_then hb.out hw3)
                            have HB4 := Lib.hid (below_then hb0.out hw3)
                            clear hF hD hw3
                            go_wp2_with fail
                            go_ret
                            exact ⟨ret_bool HF.out.symm, HB3.out⟩
                      · have hkn : k = nh := by omega
                        have HHE : Hid (hands = hands2) := by
                          have := HTK.out
                          rw [List.take_of_length_le (by have := HNH.out; omega), List.take_of_length_le (by have := HNH2.out; omega)] at this
                          exact this
                        have f3 := cell_of_box (bx_later hb0.out HP2.out) 3 rfl
                        have g3 := cell_of_box (bx_later hb0.out HQ2.out) 3 rfl
                        have f4 := cell_of_box (bx_later hb0.out HP2.out) 4 rfl
                        have g4 := cell_of_box (bx_later hb0.out HQ2.out) 4 rfl
                        have f5 := cell_of_box (bx_later hb0.out HP2.out) 5 rfl
                        have g5 := cell_of_box (bx_later hb0.out HQ2.out) 5 rfl
                        have C1 := Lib.hid (refSameV2_any _ _ _ _ _ (HD.out.later hb.out) (HD2.out.later hb.out) HDL.out HDL2.out)
                        obtain ⟨r2, hr2⟩ := bool_of (ops.map OpM.op = ops2.map OpM.op)
                        obtain ⟨r3, hr3⟩ := bool_of (els.map OpM.op = els2.map OpM.op)
                        have HR2 := Lib.hid hr2
                        have HR3 := Lib.hid hr3
                        have HPP := Lib.hid (bx_later hb0.out HP2.out)
                        have HQQ := Lib.hid (bx_later hb0.out HQ2.out)
                        clear hkn hr2 hr3
                        go_wp2_with fail
                        refine C1.out.mono ?_
                        rintro e w9 ⟨r1, rfl, h1, rfl⟩
                        have HR1 := Lib.hid h1
                        clear h1
                        cases r1
                        · have HF := Lib.hid (no_of HR.out (fun h => by have := HR1.out.2 h.deps; cases this))
                          go_wp2_with fail
                          go_ret
                          exact ⟨ret_bool HF.out.symm, hb.out⟩
                        · have C2 := Lib.hid (sameOps_any r2 _ _ _ _ _ (HO.out.later hb.out) (HO2.out.later hb.out) HR2.out)
                          go_wp2_with fail
                          refine C2.out.mono ?_
                          rintro e w4 ⟨rfl, hb4⟩
                          have HB4 := Lib.hid (below_then hb.out hb4)
                          have k5 := cell_of_box (bx_later hb4 HPP.out) 5 rfl
                          have j5 := cell_of_box (bx_later hb4 HQQ.out) 5 rfl
                          clear f3 g3 f4 g4 f5 g5 f7 g7 hb4
                          cases r2
                          · have HF := Lib.hid (no_of HR.out (fun h => by have := HR2.out.2 h.ops; cases this))
                            go_wp2_with fail
                            go_ret
                            exact ⟨ret_bool HF.out.symm, HB4.out⟩
                          · have C3 := Lib.hid (sameOps_any r3 _ _ _ _ _ (HE.out.later HB4.out) (HE2.out.later HB4.out) HR3.out)
                            have HF : Hid (r = r3) := by
                              show r = r3
                              have h3 : r = true ↔ r3 = true := HR.out.trans ⟨fun h => HR3.out.2 h.els, fun h => ⟨rfl, rfl, rfl, rfl, rfl, rfl, rfl, HHE.out, (by first | exact HR1.out.1 trivial | exact HR1.out.1 rfl), (by first | exact HR2.out.1 trivial | exact HR2.out.1 rfl), HR3.out.1 h⟩⟩
                              cases r <;> cases r3 <;> simp_all
                            go_wp2_with fail
                            refine C3.out.mono ?_
                            rintro e w5 ⟨rfl, hb5⟩
                            have HB5 := Lib.hid (below_then HB4.out hb5)
                            clear hb5 k5 j5
                            go_wp2_with fail
                            go_ret
                            exact ⟨ret_bool HF.out.symm, HB5.out⟩
                · have HF := Lib.hid (no_of HR.out (fun h => by have := congrArg List.length h.hands; have := HNH.out; have := HNH2.out; dsimp only at *; omega))
                  have hne : ((nh : Int) != (nh2 : Int)) = true := by simp; omega
                  clear hq
                  go_enter Tryz.func44, Tryz.ntmps44
                  go_wp2_with fail
                  rw [HW.out]
                  refine wp_region_flow (by kernel_rfl) 42 [(1, ⟨fun v => v = .agg #[.int .i64 time, .int .i64 dev, .int .i64 seq], fun _ _ _ _ => True⟩), (3, ⟨fun v => v = .agg #[.int .i64 time, .int .i64 dev, .int .i64 seq], fun _ _ _ _ => True⟩)] (by kernel_rfl) ?_ ?_ ?_
                  · intro x hx
                    simp only [List.mem_cons, List.not_mem_nil, or_false] at hx
                    rcases hx with rfl | rfl
                    · exact ⟨_, rfl⟩
                    · exact ⟨_, rfl⟩
                  · intro x hx v lo hi w w' h hb
                    simp only [List.mem_cons, List.not_mem_nil, or_false] at hx
                    rcases hx with rfl | rfl
                    · exact trivial
                    · exact trivial
                  · intro lo hi
                    have kp0 := cell_regrown p0
                    have kp1 := cell_regrown p1
                    have kp2 := cell_regrown p2
                    have kp3 := cell_regrown p3
                    have kp4 := cell_regrown p4
                    have kp5 := cell_regrown p5
                    have kp6 := cell_regrown p6
                    have kp7 := cell_regrown p7
                    have kp8 := cell_regrown p8
                    have kp9 := cell_regrown p9
                    have kp10 := cell_regrown p10
                    have kq0 := cell_regrown q0
                    have kq1 := cell_regrown q1
                    have kq2 := cell_regrown q2
                    have kq3 := cell_regrown q3
                    have kq4 := cell_regrown q4
                    have kq5 := cell_regrown q5
                    have kq6 := cell_regrown q6
                    have kq7 := cell_regrown q7
                    have kq8 := cell_regrown q8
                    have kq9 := cell_regrown q9
                    have kq10 := cell_regrown q10
                    refine flowW_plain rfl ?_
                    go_big_quiet_step (fail)
                    refine wpQuiet_nil ?_
                    refine flowW_call rfl rfl ?_ ?_
                    · intro W hW hF K hK
                      clear kp0 kp1 kp2 kp3 kp4 kp5 kp6 kp7 kp8 kp9 kp10 kq0 kq1 kq2 kq3 kq4 kq5 kq6 kq7 kq8 kq9 kq10
                      go_wp2_with fail
                      refine (refStamp_any _).mono ?_
                      rintro e wq ⟨rfl, hbq⟩
                      go_wp2_with fail
                      exact hK _ _ rfl trivial hbq
                    rintro v rfl K hK
                    go_simp
                    refine hK _ ?_
                    clear hK K
                    refine flowW_plain rfl ?_
                    go_big_quiet_step (fail)
                    refine wpQuiet_nil ?_
                    refine flowW_call rfl rfl ?_ ?_
                    · intro W hW hF K hK
                      clear kp0 kp1 kp2 kp3 kp4 kp5 kp6 kp7 kp8 kp9 kp10 kq0 kq1 kq2 kq3 kq4 kq5 kq6 kq7 kq8 kq9 kq10
                      go_wp2_with fail
                      refine (refStamp_any _).mono ?_
                      rintro e wq ⟨rfl, hbq⟩
                      go_wp2_with fail
                      exact hK _ _ rfl trivial hbq
                    rintro v rfl K hK
                    go_simp
                    refine hK _ ?_
                    clear hK K
                    refine flowW_plain rfl ?_
                    go_big_quiet_step (fail)
                    refine wpQuiet_nil ?_
                    refine flowW_plain rfl ?_
                    go_big_quiet_step (fail)
                    refine wpQuiet_nil ?_
                    refine flowW_plain rfl ?_
                    go_big_quiet_step (fail)
                    refine wpQuiet_nil ?_
                    refine flowW_plain rfl ?_
                    go_big_quiet_step (fail)
                    refine wpQuiet_nil ?_
                    refine flowW_plain rfl ?_
                    go_big_quiet_step (fail)
                    refine wpQuiet_nil ?_
                    refine flowW_plain rfl ?_
                    go_big_quiet_step (fail)
                    refine wpQuiet_nil ?_
                    refine flowW_plain rfl ?_
                    go_big_quiet_step (fail)
                    refine wpQuiet_nil ?_
                    refine flowW_plain rfl ?_
                    go_big_quiet_step (fail)
                    refine wpQuiet_nil ?_
                    refine flowW_plain rfl ?_
                    go_big_quiet_step (fail)
                    refine wpQuiet_nil ?_
                    refine flowW_plain rfl ?_
                    go_big_quiet_step (fail)
                    refine wpQuiet_nil ?_
                    refine flowW_plain rfl ?_
                    go_big_quiet_step (fail)
                    refine wpQuiet_nil ?_
                    refine flowW_plain rfl ?_
                    go_big_quiet_step (fail)
                    refine wpQuiet_nil ?_
                    refine flowW_plain rfl ?_
                    go_big_quiet_step (fail)
                    refine wpQuiet_nil ?_
                    refine flowW_plain rfl ?_
                    go_big_quiet_step (fail)
                    refine wpQuiet_nil ?_
                    refine flowW_plain rfl ?_
                    go_big_quiet_step (fail)
                    refine wpQuiet_nil ?_
                    refine flowW_plain rfl ?_
                    go_big_quiet_step (fail)
                    refine wpQuiet_nil ?_
                    refine flowW_plain rfl ?_
                    go_big_quiet_step (fail)
                    refine wpQuiet_nil ?_
                    refine flowW_plain rfl ?_
                    go_big_quiet_step (fail)
                    refine wpQuiet_nil ?_
                    refine flowW_plain rfl ?_
                    go_big_quiet_step (fail)
                    refine wpQuiet_nil ?_
                    refine flowW_plain rfl ?_
                    go_big_quiet_step (fail)
                    refine wpQuiet_nil ?_
                    refine flowW_plain rfl ?_
                    go_big_quiet_step (fail)
                    refine wpQuiet_nil ?_
                    refine flowW_plain rfl ?_
                    go_big_quiet_step (fail)
                    refine wpQuiet_nil ?_
                    refine flowW_plain rfl ?_
                    go_big_quiet_step (fail)
                    refine wpQuiet_nil ?_
                    refine flowW_plain rfl ?_
                    go_big_quiet_step (fail)
                    refine wpQuiet_nil ?_
                    refine flowW_plain rfl ?_
                    go_big_quiet_step (fail)
                    refine wpQuiet_nil ?_
                    refine flowW_plain rfl ?_
                    go_big_quiet_step (fail)
                    refine wpQuiet_nil ?_
                    refine flowW_plain rfl ?_
                    go_big_quiet_step (fail)
                    refine wpQuiet_nil ?_
                    refine flowW_plain rfl ?_
                    go_big_quiet_step (fail)
                    refine wpQuiet_nil ?_
                    refine flowW_plain rfl ?_
                    go_big_quiet_step (fail)
                    refine wpQuiet_nil ?_
                    refine flowW_plain rfl ?_
                    go_big_quiet_step (fail)
                    refine wpQuiet_nil ?_
                    refine flowW_plain rfl ?_
                    go_big_quiet_step (fail)
                    refine wpQuiet_nil ?_
                    refine flowW_plain rfl ?_
                    go_big_quiet_step (fail)
                    refine wpQuiet_nil ?_
                    refine flowW_plain rfl ?_
                    go_big_quiet_step (fail)
                    refine wpQuiet_nil ?_
                    refine flowW_plain rfl ?_
                    go_big_quiet_step (fail)
                    refine wpQuiet_nil ?_
                    refine flowW_plain rfl ?_
                    go_big_quiet_step (fail)
                    refine wpQuiet_nil ?_
                    refine flowW_plain rfl ?_
                    go_big_quiet_step (fail)
                    refine wpQuiet_nil ?_
                    refine flowW_plain rfl ?_
                    go_big_quiet_step (fail)
                    refine wpQuiet_nil ?_
                    refine flowW_plain rfl ?_
                    go_big_quiet_step (fail)
                    refine wpQuiet_nil ?_
                    refine flowW_end fun w2 hw2 hF hD => ?_
                    clear kp0 kp1 kp2 kp3 kp4 kp5 kp6 kp7 kp8 kp9 kp10 kq0 kq1 kq2 kq3 kq4 kq5 kq6 kq7 kq8 kq9 kq10
                    simp only [List.drop_succ_cons, List.drop_zero]
                    have HB2 := Lib.hid (below_then HB1.out hw2)
                    clear hF hD
                    clear hw2
                    go_wp2_with fail
                    go_ret
                    exact ⟨ret_bool HF.out.symm, HB2.out⟩
              · have HF := Lib.hid (no_of HR.out (fun h => hq h.upto))
                have hne : (upto == upto2) = false := beq_eq_false_iff_ne.2 hq
                have hne' : (upto != upto2) = true := by rw [bne, hne]; rfl
                clear hq
                go_enter Tryz.func44, Tryz.ntmps44
                go_wp2_with fail
                rw [HW.out]
                refine wp_region_flow (by kernel_rfl) 42 [(1, ⟨fun v => v = .agg #[.int .i64 time, .int .i64 dev, .int .i64 seq], fun _ _ _ _ => True⟩), (3, ⟨fun v => v = .agg #[.int .i64 time, .int .i64 dev, .int .i64 seq], fun _ _ _ _ => True⟩)] (by kernel_rfl) ?_ ?_ ?_
                · intro x hx
                  simp only [List.mem_cons, List.not_mem_nil, or_false] at hx
                  rcases hx with rfl | rfl
                  · exact ⟨_, rfl⟩
                  · exact ⟨_, rfl⟩
                · intro x hx v lo hi w w' h hb
                  simp only [List.mem_cons, List.not_mem_nil, or_false] at hx
                  rcases hx with rfl | rfl
                  · exact trivial
                  · exact trivial
                · intro lo hi
                  have kp0 := cell_regrown p0
                  have kp1 := cell_regrown p1
                  have kp2 := cell_regrown p2
                  have kp3 := cell_regrown p3
                  have kp4 := cell_regrown p4
                  have kp5 := cell_regrown p5
                  have kp6 := cell_regrown p6
                  have kp7 := cell_regrown p7
                  have kp8 := cell_regrown p8
                  have kp9 := cell_regrown p9
                  have kp10 := cell_regrown p10
                  have kq0 := cell_regrown q0
                  have kq1 := cell_regrown q1
                  have kq2 := cell_regrown q2
                  have kq3 := cell_regrown q3
                  have kq4 := cell_regrown q4
                  have kq5 := cell_regrown q5
                  have kq6 := cell_regrown q6
                  have kq7 := cell_regrown q7
                  have kq8 := cell_regrown q8
                  have kq9 := cell_regrown q9
                  have kq10 := cell_regrown q10
                  refine flowW_plain rfl ?_
                  go_big_quiet_step (fail)
                  refine wpQuiet_nil ?_
                  refine flowW_call rfl rfl ?_ ?_
                  · intro W hW hF K hK
                    clear kp0 kp1 kp2 kp3 kp4 kp5 kp6 kp7 kp8 kp9 kp10 kq0 kq1 kq2 kq3 kq4 kq5 kq6 kq7 kq8 kq9 kq10
                    go_wp2_with fail
                    refine (refStamp_any _).mono ?_
                    rintro e wq ⟨rfl, hbq⟩
                    go_wp2_with fail
                    exact hK _ _ rfl trivial hbq
                  rintro v rfl K hK
                  go_simp
                  refine hK _ ?_
                  clear hK K
                  refine flowW_plain rfl ?_
                  go_big_quiet_step (fail)
                  refine wpQuiet_nil ?_
                  refine flowW_call rfl rfl ?_ ?_
                  · intro W hW hF K hK
                    clear kp0 kp1 kp2 kp3 kp4 kp5 kp6 kp7 kp8 kp9 kp10 kq0 kq1 kq2 kq3 kq4 kq5 kq6 kq7 kq8 kq9 kq10
                    go_wp2_with fail
                    refine (refStamp_any _).mono ?_
                    rintro e wq ⟨rfl, hbq⟩
                    go_wp2_with fail
                    exact hK _ _ rfl trivial hbq
                  rintro v rfl K hK
                  go_simp
                  refine hK _ ?_
                  clear hK K
                  refine flowW_plain rfl ?_
                  go_big_quiet_step (fail)
                  refine wpQuiet_nil ?_
                  refine flowW_plain rfl ?_
                  go_big_quiet_step (fail)
                  refine wpQuiet_nil ?_
                  refine flowW_plain rfl ?_
                  go_big_quiet_step (fail)
                  refine wpQuiet_nil ?_
                  refine flowW_plain rfl ?_
                  go_big_quiet_step (fail)
                  refine wpQuiet_nil ?_
                  refine flowW_plain rfl ?_
                  go_big_quiet_step (fail)
                  refine wpQuiet_nil ?_
                  refine flowW_plain rfl ?_
                  go_big_quiet_step (fail)
                  refine wpQuiet_nil ?_
                  refine flowW_plain rfl ?_
                  go_big_quiet_step (fail)
                  refine wpQuiet_nil ?_
                  refine flowW_plain rfl ?_
                  go_big_quiet_step (fail)
                  refine wpQuiet_nil ?_
                  refine flowW_plain rfl ?_
                  go_big_quiet_step (fail)
                  refine wpQuiet_nil ?_
                  refine flowW_plain rfl ?_
                  go_big_quiet_step (fail)
                  refine wpQuiet_nil ?_
                  refine flowW_plain rfl ?_
                  go_big_quiet_step (fail)
                  refine wpQuiet_nil ?_
                  refine flowW_plain rfl ?_
                  go_big_quiet_step (fail)
                  refine wpQuiet_nil ?_
                  refine flowW_plain rfl ?_
                  go_big_quiet_step (fail)
                  refine wpQuiet_nil ?_
                  refine flowW_plain rfl ?_
                  go_big_quiet_step (fail)
                  refine wpQuiet_nil ?_
                  refine flowW_plain rfl ?_
                  go_big_quiet_step (fail)
                  refine wpQuiet_nil ?_
                  refine flowW_plain rfl ?_
                  go_big_quiet_step (fail)
                  refine wpQuiet_nil ?_
                  refine flowW_plain rfl ?_
                  go_big_quiet_step (fail)
                  refine wpQuiet_nil ?_
                  refine flowW_plain rfl ?_
                  go_big_quiet_step (fail)
                  refine wpQuiet_nil ?_
                  refine flowW_plain rfl ?_
                  go_big_quiet_step (fail)
                  refine wpQuiet_nil ?_
                  refine flowW_plain rfl ?_
                  go_big_quiet_step (fail)
                  refine wpQuiet_nil ?_
                  refine flowW_plain rfl ?_
                  go_big_quiet_step (fail)
                  refine wpQuiet_nil ?_
                  refine flowW_plain rfl ?_
                  go_big_quiet_step (fail)
                  refine wpQuiet_nil ?_
                  refine flowW_plain rfl ?_
                  go_big_quiet_step (fail)
                  refine wpQuiet_nil ?_
                  refine flowW_plain rfl ?_
                  go_big_quiet_step (fail)
                  refine wpQuiet_nil ?_
                  refine flowW_plain rfl ?_
                  go_big_quiet_step (fail)
                  refine wpQuiet_nil ?_
                  refine flowW_plain rfl ?_
                  go_big_quiet_step (fail)
                  refine wpQuiet_nil ?_
                  refine flowW_plain rfl ?_
                  go_big_quiet_step (fail)
                  refine wpQuiet_nil ?_
                  refine flowW_plain rfl ?_
                  go_big_quiet_step (fail)
                  refine wpQuiet_nil ?_
                  refine flowW_plain rfl ?_
                  go_big_quiet_step (fail)
                  refine wpQuiet_nil ?_
                  refine flowW_plain rfl ?_
                  go_big_quiet_step (fail)
                  refine wpQuiet_nil ?_
                  refine flowW_skip rfl ?_
                  go_big_quiet_step (fail)
                  refine wpQuiet_nil ?_
                  refine flowW_skip rfl ?_
                  go_big_quiet_step (fail)
                  refine wpQuiet_nil ?_
                  refine flowW_skip rfl ?_
                  go_big_quiet_step (fail)
                  refine wpQuiet_nil ?_
                  refine flowW_skip rfl ?_
                  go_big_quiet_step (fail)
                  refine wpQuiet_nil ?_
                  refine flowW_skip rfl ?_
                  go_big_quiet_step (fail)
                  refine wpQuiet_nil ?_
                  refine flowW_skip rfl ?_
                  go_big_quiet_step (fail)
                  refine wpQuiet_nil ?_
                  refine flowW_skip rfl ?_
                  go_big_quiet_step (fail)
                  refine wpQuiet_nil ?_
                  refine flowW_plain rfl ?_
                  go_big_quiet_step (fail)
                  refine wpQuiet_nil ?_
                  refine flowW_end fun w2 hw2 hF hD => ?_
                  clear kp0 kp1 kp2 kp3 kp4 kp5 kp6 kp7 kp8 kp9 kp10 kq0 kq1 kq2 kq3 kq4 kq5 kq6 kq7 kq8 kq9 kq10
                  simp only [List.drop_succ_cons, List.drop_zero]
                  have HB2 := Lib.hid (below_then HB1.out hw2)
                  clear hF hD
                  clear hw2
                  go_wp2_with fail
                  go_ret
                  exact ⟨ret_bool HF.out.symm, HB2.out⟩
            · have HF := Lib.hid (no_of HR.out (fun h => hq h.whom))
              have hne : (whom == whom2) = false := beq_eq_false_iff_ne.2 hq
              have hne' : (whom != whom2) = true := by rw [bne, hne]; rfl
              clear hq
              go_enter Tryz.func44, Tryz.ntmps44
              go_wp2_with fail
              rw [HW.out]
              refine wp_region_flow (by kernel_rfl) 42 [(1, ⟨fun v => v = .agg #[.int .i64 time, .int .i64 dev, .int .i64 seq], fun _ _ _ _ => True⟩), (3, ⟨fun v => v = .agg #[.int .i64 time, .int .i64 dev, .int .i64 seq], fun _ _ _ _ => True⟩)] (by kernel_rfl) ?_ ?_ ?_
              · intro x hx
                simp only [List.mem_cons, List.not_mem_nil, or_false] at hx
                rcases hx with rfl | rfl
                · exact ⟨_, rfl⟩
                · exact ⟨_, rfl⟩
              · intro x hx v lo hi w w' h hb
                simp only [List.mem_cons, List.not_mem_nil, or_false] at hx
                rcases hx with rfl | rfl
                · exact trivial
                · exact trivial
              · intro lo hi
                have kp0 := cell_regrown p0
                have kp1 := cell_regrown p1
                have kp2 := cell_regrown p2
                have kp3 := cell_regrown p3
                have kp4 := cell_regrown p4
                have kp5 := cell_regrown p5
                have kp6 := cell_regrown p6
                have kp7 := cell_regrown p7
                have kp8 := cell_regrown p8
                have kp9 := cell_regrown p9
                have kp10 := cell_regrown p10
                have kq0 := cell_regrown q0
                have kq1 := cell_regrown q1
                have kq2 := cell_regrown q2
                have kq3 := cell_regrown q3
                have kq4 := cell_regrown q4
                have kq5 := cell_regrown q5
                have kq6 := cell_regrown q6
                have kq7 := cell_regrown q7
                have kq8 := cell_regrown q8
                have kq9 := cell_regrown q9
                have kq10 := cell_regrown q10
                refine flowW_plain rfl ?_
                go_big_quiet_step (fail)
                refine wpQuiet_nil ?_
                refine flowW_call rfl rfl ?_ ?_
                · intro W hW hF K hK
                  clear kp0 kp1 kp2 kp3 kp4 kp5 kp6 kp7 kp8 kp9 kp10 kq0 kq1 kq2 kq3 kq4 kq5 kq6 kq7 kq8 kq9 kq10
                  go_wp2_with fail
                  refine (refStamp_any _).mono ?_
                  rintro e wq ⟨rfl, hbq⟩
                  go_wp2_with fail
                  exact hK _ _ rfl trivial hbq
                rintro v rfl K hK
                go_simp
                refine hK _ ?_
                clear hK K
                refine flowW_plain rfl ?_
                go_big_quiet_step (fail)
                refine wpQuiet_nil ?_
                refine flowW_call rfl rfl ?_ ?_
                · intro W hW hF K hK
                  clear kp0 kp1 kp2 kp3 kp4 kp5 kp6 kp7 kp8 kp9 kp10 kq0 kq1 kq2 kq3 kq4 kq5 kq6 kq7 kq8 kq9 kq10
                  go_wp2_with fail
                  refine (refStamp_any _).mono ?_
                  rintro e wq ⟨rfl, hbq⟩
                  go_wp2_with fail
                  exact hK _ _ rfl trivial hbq
                rintro v rfl K hK
                go_simp
                refine hK _ ?_
                clear hK K
                refine flowW_plain rfl ?_
                go_big_quiet_step (fail)
                refine wpQuiet_nil ?_
                refine flowW_plain rfl ?_
                go_big_quiet_step (fail)
                refine wpQuiet_nil ?_
                refine flowW_plain rfl ?_
                go_big_quiet_step (fail)
                refine wpQuiet_nil ?_
                refine flowW_plain rfl ?_
                go_big_quiet_step (fail)
                refine wpQuiet_nil ?_
                refine flowW_plain rfl ?_
                go_big_quiet_step (fail)
                refine wpQuiet_nil ?_
                refine flowW_plain rfl ?_
                go_big_quiet_step (fail)
                refine wpQuiet_nil ?_
                refine flowW_plain rfl ?_
                go_big_quiet_step (fail)
                refine wpQuiet_nil ?_
                refine flowW_plain rfl ?_
                go_big_quiet_step (fail)
                refine wpQuiet_nil ?_
                refine flowW_plain rfl ?_
                go_big_quiet_step (fail)
                refine wpQuiet_nil ?_
                refine flowW_plain rfl ?_
                go_big_quiet_step (fail)
                refine wpQuiet_nil ?_
                refine flowW_plain rfl ?_
                go_big_quiet_step (fail)
                refine wpQuiet_nil ?_
                refine flowW_plain rfl ?_
                go_big_quiet_step (fail)
                refine wpQuiet_nil ?_
                refine flowW_plain rfl ?_
                go_big_quiet_step (fail)
                refine wpQuiet_nil ?_
                refine flowW_plain rfl ?_
                go_big_quiet_step (fail)
                refine wpQuiet_nil ?_
                refine flowW_plain rfl ?_
                go_big_quiet_step (fail)
                refine wpQuiet_nil ?_
                refine flowW_plain rfl ?_
                go_big_quiet_step (fail)
                refine wpQuiet_nil ?_
                refine flowW_plain rfl ?_
                go_big_quiet_step (fail)
                refine wpQuiet_nil ?_
                refine flowW_plain rfl ?_
                go_big_quiet_step (fail)
                refine wpQuiet_nil ?_
                refine flowW_plain rfl ?_
                go_big_quiet_step (fail)
                refine wpQuiet_nil ?_
                refine flowW_plain rfl ?_
                go_big_quiet_step (fail)
                refine wpQuiet_nil ?_
                refine flowW_plain rfl ?_
                go_big_quiet_step (fail)
                refine wpQuiet_nil ?_
                refine flowW_plain rfl ?_
                go_big_quiet_step (fail)
                refine wpQuiet_nil ?_
                refine flowW_plain rfl ?_
                go_big_quiet_step (fail)
                refine wpQuiet_nil ?_
                refine flowW_skip rfl ?_
                go_big_quiet_step (fail)
                refine wpQuiet_nil ?_
                refine flowW_skip rfl ?_
                go_big_quiet_step (fail)
                refine wpQuiet_nil ?_
                refine flowW_skip rfl ?_
                go_big_quiet_step (fail)
                refine wpQuiet_nil ?_
                refine flowW_skip rfl ?_
                go_big_quiet_step (fail)
                refine wpQuiet_nil ?_
                refine flowW_skip rfl ?_
                go_big_quiet_step (fail)
                refine wpQuiet_nil ?_
                refine flowW_plain rfl ?_
                go_big_quiet_step (fail)
                refine wpQuiet_nil ?_
                refine flowW_plain rfl ?_
                go_big_quiet_step (fail)
                refine wpQuiet_nil ?_
                refine flowW_skip rfl ?_
                go_big_quiet_step (fail)
                refine wpQuiet_nil ?_
                refine flowW_skip rfl ?_
                go_big_quiet_step (fail)
                refine wpQuiet_nil ?_
                refine flowW_skip rfl ?_
                go_big_quiet_step (fail)
                refine wpQuiet_nil ?_
                refine flowW_skip rfl ?_
                go_big_quiet_step (fail)
                refine wpQuiet_nil ?_
                refine flowW_skip rfl ?_
                go_big_quiet_step (fail)
                refine wpQuiet_nil ?_
                refine flowW_skip rfl ?_
                go_big_quiet_step (fail)
                refine wpQuiet_nil ?_
                refine flowW_skip rfl ?_
                go_big_quiet_step (fail)
                refine wpQuiet_nil ?_
                refine flowW_plain rfl ?_
                go_big_quiet_step (fail)
                refine wpQuiet_nil ?_
                refine flowW_end fun w2 hw2 hF hD => ?_
                clear kp0 kp1 kp2 kp3 kp4 kp5 kp6 kp7 kp8 kp9 kp10 kq0 kq1 kq2 kq3 kq4 kq5 kq6 kq7 kq8 kq9 kq10
                simp only [List.drop_succ_cons, List.drop_zero]
                have HB2 := Lib.hid (below_then HB1.out hw2)
                clear hF hD
                clear hw2
                go_wp2_with fail
                go_ret
                exact ⟨ret_bool HF.out.symm, HB2.out⟩
          · have HF := Lib.hid (no_of HR.out (fun h => hq h.note))
            have hne : (note == note2) = false := beq_eq_false_iff_ne.2 hq
            have hne' : (note != note2) = true := by rw [bne, hne]; rfl
            clear hq
            go_enter Tryz.func44, Tryz.ntmps44
            go_wp2_with fail
            rw [HW.out]
            refine wp_region_flow (by kernel_rfl) 42 [(1, ⟨fun v => v = .agg #[.int .i64 time, .int .i64 dev, .int .i64 seq], fun _ _ _ _ => True⟩), (3, ⟨fun v => v = .agg #[.int .i64 time, .int .i64 dev, .int .i64 seq], fun _ _ _ _ => True⟩)] (by kernel_rfl) ?_ ?_ ?_
            · intro x hx
              simp only [List.mem_cons, List.not_mem_nil, or_false] at hx
              rcases hx with rfl | rfl
              · exact ⟨_, rfl⟩
              · exact ⟨_, rfl⟩
            · intro x hx v lo hi w w' h hb
              simp only [List.mem_cons, List.not_mem_nil, or_false] at hx
              rcases hx with rfl | rfl
              · exact trivial
              · exact trivial
            · intro lo hi
              have kp0 := cell_regrown p0
              have kp1 := cell_regrown p1
              have kp2 := cell_regrown p2
              have kp3 := cell_regrown p3
              have kp4 := cell_regrown p4
              have kp5 := cell_regrown p5
              have kp6 := cell_regrown p6
              have kp7 := cell_regrown p7
              have kp8 := cell_regrown p8
              have kp9 := cell_regrown p9
              have kp10 := cell_regrown p10
              have kq0 := cell_regrown q0
              have kq1 := cell_regrown q1
              have kq2 := cell_regrown q2
              have kq3 := cell_regrown q3
              have kq4 := cell_regrown q4
              have kq5 := cell_regrown q5
              have kq6 := cell_regrown q6
              have kq7 := cell_regrown q7
              have kq8 := cell_regrown q8
              have kq9 := cell_regrown q9
              have kq10 := cell_regrown q10
              refine flowW_plain rfl ?_
              go_big_quiet_step (fail)
              refine wpQuiet_nil ?_
              refine flowW_call rfl rfl ?_ ?_
              · intro W hW hF K hK
                clear kp0 kp1 kp2 kp3 kp4 kp5 kp6 kp7 kp8 kp9 kp10 kq0 kq1 kq2 kq3 kq4 kq5 kq6 kq7 kq8 kq9 kq10
                go_wp2_with fail
                refine (refStamp_any _).mono ?_
                rintro e wq ⟨rfl, hbq⟩
                go_wp2_with fail
                exact hK _ _ rfl trivial hbq
              rintro v rfl K hK
              go_simp
              refine hK _ ?_
              clear hK K
              refine flowW_plain rfl ?_
              go_big_quiet_step (fail)
              refine wpQuiet_nil ?_
              refine flowW_call rfl rfl ?_ ?_
              · intro W hW hF K hK
                clear kp0 kp1 kp2 kp3 kp4 kp5 kp6 kp7 kp8 kp9 kp10 kq0 kq1 kq2 kq3 kq4 kq5 kq6 kq7 kq8 kq9 kq10
                go_wp2_with fail
                refine (refStamp_any _).mono ?_
                rintro e wq ⟨rfl, hbq⟩
                go_wp2_with fail
                exact hK _ _ rfl trivial hbq
              rintro v rfl K hK
              go_simp
              refine hK _ ?_
              clear hK K
              refine flowW_plain rfl ?_
              go_big_quiet_step (fail)
              refine wpQuiet_nil ?_
              refine flowW_plain rfl ?_
              go_big_quiet_step (fail)
              refine wpQuiet_nil ?_
              refine flowW_plain rfl ?_
              go_big_quiet_step (fail)
              refine wpQuiet_nil ?_
              refine flowW_plain rfl ?_
              go_big_quiet_step (fail)
              refine wpQuiet_nil ?_
              refine flowW_plain rfl ?_
              go_big_quiet_step (fail)
              refine wpQuiet_nil ?_
              refine flowW_plain rfl ?_
              go_big_quiet_step (fail)
              refine wpQuiet_nil ?_
              refine flowW_plain rfl ?_
              go_big_quiet_step (fail)
              refine wpQuiet_nil ?_
              refine flowW_plain rfl ?_
              go_big_quiet_step (fail)
              refine wpQuiet_nil ?_
              refine flowW_plain rfl ?_
              go_big_quiet_step (fail)
              refine wpQuiet_nil ?_
              refine flowW_plain rfl ?_
              go_big_quiet_step (fail)
              refine wpQuiet_nil ?_
              refine flowW_plain rfl ?_
              go_big_quiet_step (fail)
              refine wpQuiet_nil ?_
              refine flowW_plain rfl ?_
              go_big_quiet_step (fail)
              refine wpQuiet_nil ?_
              refine flowW_plain rfl ?_
              go_big_quiet_step (fail)
              refine wpQuiet_nil ?_
              refine flowW_plain rfl ?_
              go_big_quiet_step (fail)
              refine wpQuiet_nil ?_
              refine flowW_plain rfl ?_
              go_big_quiet_step (fail)
              refine wpQuiet_nil ?_
              refine flowW_plain rfl ?_
              go_big_quiet_step (fail)
              refine wpQuiet_nil ?_
              refine flowW_skip rfl ?_
              go_big_quiet_step (fail)
              refine wpQuiet_nil ?_
              refine flowW_skip rfl ?_
              go_big_quiet_step (fail)
              refine wpQuiet_nil ?_
              refine flowW_skip rfl ?_
              go_big_quiet_step (fail)
              refine wpQuiet_nil ?_
              refine flowW_skip rfl ?_
              go_big_quiet_step (fail)
              refine wpQuiet_nil ?_
              refine flowW_skip rfl ?_
              go_big_quiet_step (fail)
              refine wpQuiet_nil ?_
              refine flowW_plain rfl ?_
              go_big_quiet_step (fail)
              refine wpQuiet_nil ?_
              refine flowW_plain rfl ?_
              go_big_quiet_step (fail)
              refine wpQuiet_nil ?_
              refine flowW_skip rfl ?_
              go_big_quiet_step (fail)
              refine wpQuiet_nil ?_
              refine flowW_skip rfl ?_
              go_big_quiet_step (fail)
              refine wpQuiet_nil ?_
              refine flowW_skip rfl ?_
              go_big_quiet_step (fail)
              refine wpQuiet_nil ?_
              refine flowW_skip rfl ?_
              go_big_quiet_step (fail)
              refine wpQuiet_nil ?_
              refine flowW_skip rfl ?_
              go_big_quiet_step (fail)
              refine wpQuiet_nil ?_
              refine flowW_plain rfl ?_
              go_big_quiet_step (fail)
              refine wpQuiet_nil ?_
              refine flowW_plain rfl ?_
              go_big_quiet_step (fail)
              refine wpQuiet_nil ?_
              refine flowW_skip rfl ?_
              go_big_quiet_step (fail)
              refine wpQuiet_nil ?_
              refine flowW_skip rfl ?_
              go_big_quiet_step (fail)
              refine wpQuiet_nil ?_
              refine flowW_skip rfl ?_
              go_big_quiet_step (fail)
              refine wpQuiet_nil ?_
              refine flowW_skip rfl ?_
              go_big_quiet_step (fail)
              refine wpQuiet_nil ?_
              refine flowW_skip rfl ?_
              go_big_quiet_step (fail)
              refine wpQuiet_nil ?_
              refine flowW_skip rfl ?_
              go_big_quiet_step (fail)
              refine wpQuiet_nil ?_
              refine flowW_skip rfl ?_
              go_big_quiet_step (fail)
              refine wpQuiet_nil ?_
              refine flowW_plain rfl ?_
              go_big_quiet_step (fail)
              refine wpQuiet_nil ?_
              refine flowW_end fun w2 hw2 hF hD => ?_
              clear kp0 kp1 kp2 kp3 kp4 kp5 kp6 kp7 kp8 kp9 kp10 kq0 kq1 kq2 kq3 kq4 kq5 kq6 kq7 kq8 kq9 kq10
              simp only [List.drop_succ_cons, List.drop_zero]
              have HB2 := Lib.hid (below_then HB1.out hw2)
              clear hF hD
              clear hw2
              go_wp2_with fail
              go_ret
              exact ⟨ret_bool HF.out.symm, HB2.out⟩
        · have HF := Lib.hid (no_of HR.out (fun h => hq h.firm))
          have hne : (fm == fm2) = false := beq_eq_false_iff_ne.2 hq
          have hne' : (fm != fm2) = true := by rw [bne, hne]; rfl
          clear hq
          go_enter Tryz.func44, Tryz.ntmps44
          go_wp2_with fail
          rw [HW.out]
          refine wp_region_flow (by kernel_rfl) 42 [(1, ⟨fun v => v = .agg #[.int .i64 time, .int .i64 dev, .int .i64 seq], fun _ _ _ _ => True⟩), (3, ⟨fun v => v = .agg #[.int .i64 time, .int .i64 dev, .int .i64 seq], fun _ _ _ _ => True⟩)] (by kernel_rfl) ?_ ?_ ?_
          · intro x hx
            simp only [List.mem_cons, List.not_mem_nil, or_false] at hx
            rcases hx with rfl | rfl
            · exact ⟨_, rfl⟩
            · exact ⟨_, rfl⟩
          · intro x hx v lo hi w w' h hb
            simp only [List.mem_cons, List.not_mem_nil, or_false] at hx
            rcases hx with rfl | rfl
            · exact trivial
            · exact trivial
          · intro lo hi
            have kp0 := cell_regrown p0
            have kp1 := cell_regrown p1
            have kp2 := cell_regrown p2
            have kp3 := cell_regrown p3
            have kp4 := cell_regrown p4
            have kp5 := cell_regrown p5
            have kp6 := cell_regrown p6
            have kp7 := cell_regrown p7
            have kp8 := cell_regrown p8
            have kp9 := cell_regrown p9
            have kp10 := cell_regrown p10
            have kq0 := cell_regrown q0
            have kq1 := cell_regrown q1
            have kq2 := cell_regrown q2
            have kq3 := cell_regrown q3
            have kq4 := cell_regrown q4
            have kq5 := cell_regrown q5
            have kq6 := cell_regrown q6
            have kq7 := cell_regrown q7
            have kq8 := cell_regrown q8
            have kq9 := cell_regrown q9
            have kq10 := cell_regrown q10
            refine flowW_plain rfl ?_
            go_big_quiet_step (fail)
            refine wpQuiet_nil ?_
            refine flowW_call rfl rfl ?_ ?_
            · intro W hW hF K hK
              clear kp0 kp1 kp2 kp3 kp4 kp5 kp6 kp7 kp8 kp9 kp10 kq0 kq1 kq2 kq3 kq4 kq5 kq6 kq7 kq8 kq9 kq10
              go_wp2_with fail
              refine (refStamp_any _).mono ?_
              rintro e wq ⟨rfl, hbq⟩
              go_wp2_with fail
              exact hK _ _ rfl trivial hbq
            rintro v rfl K hK
            go_simp
            refine hK _ ?_
            clear hK K
            refine flowW_plain rfl ?_
            go_big_quiet_step (fail)
            refine wpQuiet_nil ?_
            refine flowW_call rfl rfl ?_ ?_
            · intro W hW hF K hK
              clear kp0 kp1 kp2 kp3 kp4 kp5 kp6 kp7 kp8 kp9 kp10 kq0 kq1 kq2 kq3 kq4 kq5 kq6 kq7 kq8 kq9 kq10
              go_wp2_with fail
              refine (refStamp_any _).mono ?_
              rintro e wq ⟨rfl, hbq⟩
              go_wp2_with fail
              exact hK _ _ rfl trivial hbq
            rintro v rfl K hK
            go_simp
            refine hK _ ?_
            clear hK K
            refine flowW_plain rfl ?_
            go_big_quiet_step (fail)
            refine wpQuiet_nil ?_
            refine flowW_plain rfl ?_
            go_big_quiet_step (fail)
            refine wpQuiet_nil ?_
            refine flowW_plain rfl ?_
            go_big_quiet_step (fail)
            refine wpQuiet_nil ?_
            refine flowW_plain rfl ?_
            go_big_quiet_step (fail)
            refine wpQuiet_nil ?_
            refine flowW_plain rfl ?_
            go_big_quiet_step (fail)
            refine wpQuiet_nil ?_
            refine flowW_plain rfl ?_
            go_big_quiet_step (fail)
            refine wpQuiet_nil ?_
            refine flowW_plain rfl ?_
            go_big_quiet_step (fail)
            refine wpQuiet_nil ?_
            refine flowW_plain rfl ?_
            go_big_quiet_step (fail)
            refine wpQuiet_nil ?_
            refine flowW_plain rfl ?_
            go_big_quiet_step (fail)
            refine wpQuiet_nil ?_
            refine flowW_skip rfl ?_
            go_big_quiet_step (fail)
            refine wpQuiet_nil ?_
            refine flowW_skip rfl ?_
            go_big_quiet_step (fail)
            refine wpQuiet_nil ?_
            refine flowW_skip rfl ?_
            go_big_quiet_step (fail)
            refine wpQuiet_nil ?_
            refine flowW_skip rfl ?_
            go_big_quiet_step (fail)
            refine wpQuiet_nil ?_
            refine flowW_skip rfl ?_
            go_big_quiet_step (fail)
            refine wpQuiet_nil ?_
            refine flowW_plain rfl ?_
            go_big_quiet_step (fail)
            refine wpQuiet_nil ?_
            refine flowW_plain rfl ?_
            go_big_quiet_step (fail)
            refine wpQuiet_nil ?_
            refine flowW_skip rfl ?_
            go_big_quiet_step (fail)
            refine wpQuiet_nil ?_
            refine flowW_skip rfl ?_
            go_big_quiet_step (fail)
            refine wpQuiet_nil ?_
            refine flowW_skip rfl ?_
            go_big_quiet_step (fail)
            refine wpQuiet_nil ?_
            refine flowW_skip rfl ?_
            go_big_quiet_step (fail)
            refine wpQuiet_nil ?_
            refine flowW_skip rfl ?_
            go_big_quiet_step (fail)
            refine wpQuiet_nil ?_
            refine flowW_plain rfl ?_
            go_big_quiet_step (fail)
            refine wpQuiet_nil ?_
            refine flowW_plain rfl ?_
            go_big_quiet_step (fail)
            refine wpQuiet_nil ?_
            refine flowW_skip rfl ?_
            go_big_quiet_step (fail)
            refine wpQuiet_nil ?_
            refine flowW_skip rfl ?_
            go_big_quiet_step (fail)
            refine wpQuiet_nil ?_
            refine flowW_skip rfl ?_
            go_big_quiet_step (fail)
            refine wpQuiet_nil ?_
            refine flowW_skip rfl ?_
            go_big_quiet_step (fail)
            refine wpQuiet_nil ?_
            refine flowW_skip rfl ?_
            go_big_quiet_step (fail)
            refine wpQuiet_nil ?_
            refine flowW_plain rfl ?_
            go_big_quiet_step (fail)
            refine wpQuiet_nil ?_
            refine flowW_plain rfl ?_
            go_big_quiet_step (fail)
            refine wpQuiet_nil ?_
            refine flowW_skip rfl ?_
            go_big_quiet_step (fail)
            refine wpQuiet_nil ?_
            refine flowW_skip rfl ?_
            go_big_quiet_step (fail)
            refine wpQuiet_nil ?_
            refine flowW_skip rfl ?_
            go_big_quiet_step (fail)
            refine wpQuiet_nil ?_
            refine flowW_skip rfl ?_
            go_big_quiet_step (fail)
            refine wpQuiet_nil ?_
            refine flowW_skip rfl ?_
            go_big_quiet_step (fail)
            refine wpQuiet_nil ?_
            refine flowW_skip rfl ?_
            go_big_quiet_step (fail)
            refine wpQuiet_nil ?_
            refine flowW_skip rfl ?_
            go_big_quiet_step (fail)
            refine wpQuiet_nil ?_
            refine flowW_plain rfl ?_
            go_big_quiet_step (fail)
            refine wpQuiet_nil ?_
            refine flowW_end fun w2 hw2 hF hD => ?_
            clear kp0 kp1 kp2 kp3 kp4 kp5 kp6 kp7 kp8 kp9 kp10 kq0 kq1 kq2 kq3 kq4 kq5 kq6 kq7 kq8 kq9 kq10
            simp only [List.drop_succ_cons, List.drop_zero]
            have HB2 := Lib.hid (below_then HB1.out hw2)
            clear hF hD
            clear hw2
            go_wp2_with fail
            go_ret
            exact ⟨ret_bool HF.out.symm, HB2.out⟩
      · have HF := Lib.hid (no_of HR.out (fun h => hq h.seq))
        have hne : (seq == seq2) = false := beq_eq_false_iff_ne.2 hq
        have hne' : (seq != seq2) = true := by rw [bne, hne]; rfl
        clear hq
        go_enter Tryz.func44, Tryz.ntmps44
        go_wp2_with fail
        rw [HW.out]
        refine wp_region_flow (by kernel_rfl) 42 [(1, ⟨fun v => v = .agg #[.int .i64 time, .int .i64 dev, .int .i64 seq], fun _ _ _ _ => True⟩), (3, ⟨fun v => v = .agg #[.int .i64 time, .int .i64 dev, .int .i64 seq2], fun _ _ _ _ => True⟩)] (by kernel_rfl) ?_ ?_ ?_
        · intro x hx
          simp only [List.mem_cons, List.not_mem_nil, or_false] at hx
          rcases hx with rfl | rfl
          · exact ⟨_, rfl⟩
          · exact ⟨_, rfl⟩
        · intro x hx v lo hi w w' h hb
          simp only [List.mem_cons, List.not_mem_nil, or_false] at hx
          rcases hx with rfl | rfl
          · exact trivial
          · exact trivial
        · intro lo hi
          have kp0 := cell_regrown p0
          have kp1 := cell_regrown p1
          have kp2 := cell_regrown p2
          have kp3 := cell_regrown p3
          have kp4 := cell_regrown p4
          have kp5 := cell_regrown p5
          have kp6 := cell_regrown p6
          have kp7 := cell_regrown p7
          have kp8 := cell_regrown p8
          have kp9 := cell_regrown p9
          have kp10 := cell_regrown p10
          have kq0 := cell_regrown q0
          have kq1 := cell_regrown q1
          have kq2 := cell_regrown q2
          have kq3 := cell_regrown q3
          have kq4 := cell_regrown q4
          have kq5 := cell_regrown q5
          have kq6 := cell_regrown q6
          have kq7 := cell_regrown q7
          have kq8 := cell_regrown q8
          have kq9 := cell_regrown q9
          have kq10 := cell_regrown q10
          refine flowW_plain rfl ?_
          go_big_quiet_step (fail)
          refine wpQuiet_nil ?_
          refine flowW_call rfl rfl ?_ ?_
          · intro W hW hF K hK
            clear kp0 kp1 kp2 kp3 kp4 kp5 kp6 kp7 kp8 kp9 kp10 kq0 kq1 kq2 kq3 kq4 kq5 kq6 kq7 kq8 kq9 kq10
            go_wp2_with fail
            refine (refStamp_any _).mono ?_
            rintro e wq ⟨rfl, hbq⟩
            go_wp2_with fail
            exact hK _ _ rfl trivial hbq
          rintro v rfl K hK
          go_simp
          refine hK _ ?_
          clear hK K
          refine flowW_plain rfl ?_
          go_big_quiet_step (fail)
          refine wpQuiet_nil ?_
          refine flowW_call rfl rfl ?_ ?_
          · intro W hW hF K hK
            clear kp0 kp1 kp2 kp3 kp4 kp5 kp6 kp7 kp8 kp9 kp10 kq0 kq1 kq2 kq3 kq4 kq5 kq6 kq7 kq8 kq9 kq10
            go_wp2_with fail
            refine (refStamp_any _).mono ?_
            rintro e wq ⟨rfl, hbq⟩
            go_wp2_with fail
            exact hK _ _ rfl trivial hbq
          rintro v rfl K hK
          go_simp
          refine hK _ ?_
          clear hK K
          refine flowW_plain rfl ?_
          go_big_quiet_step (fail)
          refine wpQuiet_nil ?_
          refine flowW_plain rfl ?_
          go_big_quiet_step (fail)
          refine wpQuiet_nil ?_
          refine flowW_skip rfl ?_
          go_big_quiet_step (fail)
          refine wpQuiet_nil ?_
          refine flowW_skip rfl ?_
          go_big_quiet_step (fail)
          refine wpQuiet_nil ?_
          refine flowW_skip rfl ?_
          go_big_quiet_step (fail)
          refine wpQuiet_nil ?_
          refine flowW_skip rfl ?_
          go_big_quiet_step (fail)
          refine wpQuiet_nil ?_
          refine flowW_skip rfl ?_
          go_big_quiet_step (fail)
          refine wpQuiet_nil ?_
          refine flowW_plain rfl ?_
          go_big_quiet_step (fail)
          refine wpQuiet_nil ?_
          refine flowW_plain rfl ?_
          go_big_quiet_step (fail)
          refine wpQuiet_nil ?_
          refine flowW_skip rfl ?_
          go_big_quiet_step (fail)
          refine wpQuiet_nil ?_
          refine flowW_skip rfl ?_
          go_big_quiet_step (fail)
          refine wpQuiet_nil ?_
          refine flowW_skip rfl ?_
          go_big_quiet_step (fail)
          refine wpQuiet_nil ?_
          refine flowW_skip rfl ?_
          go_big_quiet_step (fail)
          refine wpQuiet_nil ?_
          refine flowW_skip rfl ?_
          go_big_quiet_step (fail)
          refine wpQuiet_nil ?_
          refine flowW_plain rfl ?_
          go_big_quiet_step (fail)
          refine wpQuiet_nil ?_
          refine flowW_plain rfl ?_
          go_big_quiet_step (fail)
          refine wpQuiet_nil ?_
          refine flowW_skip rfl ?_
          go_big_quiet_step (fail)
          refine wpQuiet_nil ?_
          refine flowW_skip rfl ?_
          go_big_quiet_step (fail)
          refine wpQuiet_nil ?_
          refine flowW_skip rfl ?_
          go_big_quiet_step (fail)
          refine wpQuiet_nil ?_
          refine flowW_skip rfl ?_
          go_big_quiet_step (fail)
          refine wpQuiet_nil ?_
          refine flowW_skip rfl ?_
          go_big_quiet_step (fail)
          refine wpQuiet_nil ?_
          refine flowW_plain rfl ?_
          go_big_quiet_step (fail)
          refine wpQuiet_nil ?_
          refine flowW_plain rfl ?_
          go_big_quiet_step (fail)
          refine wpQuiet_nil ?_
          refine flowW_skip rfl ?_
          go_big_quiet_step (fail)
          refine wpQuiet_nil ?_
          refine flowW_skip rfl ?_
          go_big_quiet_step (fail)
          refine wpQuiet_nil ?_
          refine flowW_skip rfl ?_
          go_big_quiet_step (fail)
          refine wpQuiet_nil ?_
          refine flowW_skip rfl ?_
          go_big_quiet_step (fail)
          refine wpQuiet_nil ?_
          refine flowW_skip rfl ?_
          go_big_quiet_step (fail)
          refine wpQuiet_nil ?_
          refine flowW_plain rfl ?_
          go_big_quiet_step (fail)
          refine wpQuiet_nil ?_
          refine flowW_plain rfl ?_
          go_big_quiet_step (fail)
          refine wpQuiet_nil ?_
          refine flowW_skip rfl ?_
          go_big_quiet_step (fail)
          refine wpQuiet_nil ?_
          refine flowW_skip rfl ?_
          go_big_quiet_step (fail)
          refine wpQuiet_nil ?_
          refine flowW_skip rfl ?_
          go_big_quiet_step (fail)
          refine wpQuiet_nil ?_
          refine flowW_skip rfl ?_
          go_big_quiet_step (fail)
          refine wpQuiet_nil ?_
          refine flowW_skip rfl ?_
          go_big_quiet_step (fail)
          refine wpQuiet_nil ?_
          refine flowW_skip rfl ?_
          go_big_quiet_step (fail)
          refine wpQuiet_nil ?_
          refine flowW_skip rfl ?_
          go_big_quiet_step (fail)
          refine wpQuiet_nil ?_
          refine flowW_plain rfl ?_
          go_big_quiet_step (fail)
          refine wpQuiet_nil ?_
          refine flowW_end fun w2 hw2 hF hD => ?_
          clear kp0 kp1 kp2 kp3 kp4 kp5 kp6 kp7 kp8 kp9 kp10 kq0 kq1 kq2 kq3 kq4 kq5 kq6 kq7 kq8 kq9 kq10
          simp only [List.drop_succ_cons, List.drop_zero]
          have HB2 := Lib.hid (below_then HB1.out hw2)
          clear hF hD
          clear hw2
          go_wp2_with fail
          go_ret
          exact ⟨ret_bool HF.out.symm, HB2.out⟩
    · have HF := Lib.hid (no_of HR.out (fun h => hq h.dev))
      have hne : (dev == dev2) = false := beq_eq_false_iff_ne.2 hq
      have hne' : (dev != dev2) = true := by rw [bne, hne]; rfl
      clear hq
      go_enter Tryz.func44, Tryz.ntmps44
      go_wp2_with fail
      rw [HW.out]
      refine wp_region_flow (by kernel_rfl) 42 [(1, ⟨fun v => v = .agg #[.int .i64 time, .int .i64 dev, .int .i64 seq], fun _ _ _ _ => True⟩), (3, ⟨fun v => v = .agg #[.int .i64 time, .int .i64 dev2, .int .i64 seq2], fun _ _ _ _ => True⟩)] (by kernel_rfl) ?_ ?_ ?_
      · intro x hx
        simp only [List.mem_cons, List.not_mem_nil, or_false] at hx
        rcases hx with rfl | rfl
        · exact ⟨_, rfl⟩
        · exact ⟨_, rfl⟩
      · intro x hx v lo hi w w' h hb
        simp only [List.mem_cons, List.not_mem_nil, or_false] at hx
        rcases hx with rfl | rfl
        · exact trivial
        · exact trivial
      · intro lo hi
        have kp0 := cell_regrown p0
        have kp1 := cell_regrown p1
        have kp2 := cell_regrown p2
        have kp3 := cell_regrown p3
        have kp4 := cell_regrown p4
        have kp5 := cell_regrown p5
        have kp6 := cell_regrown p6
        have kp7 := cell_regrown p7
        have kp8 := cell_regrown p8
        have kp9 := cell_regrown p9
        have kp10 := cell_regrown p10
        have kq0 := cell_regrown q0
        have kq1 := cell_regrown q1
        have kq2 := cell_regrown q2
        have kq3 := cell_regrown q3
        have kq4 := cell_regrown q4
        have kq5 := cell_regrown q5
        have kq6 := cell_regrown q6
        have kq7 := cell_regrown q7
        have kq8 := cell_regrown q8
        have kq9 := cell_regrown q9
        have kq10 := cell_regrown q10
        refine flowW_plain rfl ?_
        go_big_quiet_step (fail)
        refine wpQuiet_nil ?_
        refine flowW_call rfl rfl ?_ ?_
        · intro W hW hF K hK
          clear kp0 kp1 kp2 kp3 kp4 kp5 kp6 kp7 kp8 kp9 kp10 kq0 kq1 kq2 kq3 kq4 kq5 kq6 kq7 kq8 kq9 kq10
          go_wp2_with fail
          refine (refStamp_any _).mono ?_
          rintro e wq ⟨rfl, hbq⟩
          go_wp2_with fail
          exact hK _ _ rfl trivial hbq
        rintro v rfl K hK
        go_simp
        refine hK _ ?_
        clear hK K
        refine flowW_plain rfl ?_
        go_big_quiet_step (fail)
        refine wpQuiet_nil ?_
        refine flowW_call rfl rfl ?_ ?_
        · intro W hW hF K hK
          clear kp0 kp1 kp2 kp3 kp4 kp5 kp6 kp7 kp8 kp9 kp10 kq0 kq1 kq2 kq3 kq4 kq5 kq6 kq7 kq8 kq9 kq10
          go_wp2_with fail
          refine (refStamp_any _).mono ?_
          rintro e wq ⟨rfl, hbq⟩
          go_wp2_with fail
          exact hK _ _ rfl trivial hbq
        rintro v rfl K hK
        go_simp
        refine hK _ ?_
        clear hK K
        refine flowW_plain rfl ?_
        go_big_quiet_step (fail)
        refine wpQuiet_nil ?_
        refine flowW_plain rfl ?_
        go_big_quiet_step (fail)
        refine wpQuiet_nil ?_
        refine flowW_skip rfl ?_
        go_big_quiet_step (fail)
        refine wpQuiet_nil ?_
        refine flowW_skip rfl ?_
        go_big_quiet_step (fail)
        refine wpQuiet_nil ?_
        refine flowW_skip rfl ?_
        go_big_quiet_step (fail)
        refine wpQuiet_nil ?_
        refine flowW_skip rfl ?_
        go_big_quiet_step (fail)
        refine wpQuiet_nil ?_
        refine flowW_skip rfl ?_
        go_big_quiet_step (fail)
        refine wpQuiet_nil ?_
        refine flowW_plain rfl ?_
        go_big_quiet_step (fail)
        refine wpQuiet_nil ?_
        refine flowW_plain rfl ?_
        go_big_quiet_step (fail)
        refine wpQuiet_nil ?_
        refine flowW_skip rfl ?_
        go_big_quiet_step (fail)
        refine wpQuiet_nil ?_
        refine flowW_skip rfl ?_
        go_big_quiet_step (fail)
        refine wpQuiet_nil ?_
        refine flowW_skip rfl ?_
        go_big_quiet_step (fail)
        refine wpQuiet_nil ?_
        refine flowW_skip rfl ?_
        go_big_quiet_step (fail)
        refine wpQuiet_nil ?_
        refine flowW_skip rfl ?_
        go_big_quiet_step (fail)
        refine wpQuiet_nil ?_
        refine flowW_plain rfl ?_
        go_big_quiet_step (fail)
        refine wpQuiet_nil ?_
        refine flowW_plain rfl ?_
        go_big_quiet_step (fail)
        refine wpQuiet_nil ?_
        refine flowW_skip rfl ?_
        go_big_quiet_step (fail)
        refine wpQuiet_nil ?_
        refine flowW_skip rfl ?_
        go_big_quiet_step (fail)
        refine wpQuiet_nil ?_
        refine flowW_skip rfl ?_
        go_big_quiet_step (fail)
        refine wpQuiet_nil ?_
        refine flowW_skip rfl ?_
        go_big_quiet_step (fail)
        refine wpQuiet_nil ?_
        refine flowW_skip rfl ?_
        go_big_quiet_step (fail)
        refine wpQuiet_nil ?_
        refine flowW_plain rfl ?_
        go_big_quiet_step (fail)
        refine wpQuiet_nil ?_
        refine flowW_plain rfl ?_
        go_big_quiet_step (fail)
        refine wpQuiet_nil ?_
        refine flowW_skip rfl ?_
        go_big_quiet_step (fail)
        refine wpQuiet_nil ?_
        refine flowW_skip rfl ?_
        go_big_quiet_step (fail)
        refine wpQuiet_nil ?_
        refine flowW_skip rfl ?_
        go_big_quiet_step (fail)
        refine wpQuiet_nil ?_
        refine flowW_skip rfl ?_
        go_big_quiet_step (fail)
        refine wpQuiet_nil ?_
        refine flowW_skip rfl ?_
        go_big_quiet_step (fail)
        refine wpQuiet_nil ?_
        refine flowW_plain rfl ?_
        go_big_quiet_step (fail)
        refine wpQuiet_nil ?_
        refine flowW_plain rfl ?_
        go_big_quiet_step (fail)
        refine wpQuiet_nil ?_
        refine flowW_skip rfl ?_
        go_big_quiet_step (fail)
        refine wpQuiet_nil ?_
        refine flowW_skip rfl ?_
        go_big_quiet_step (fail)
        refine wpQuiet_nil ?_
        refine flowW_skip rfl ?_
        go_big_quiet_step (fail)
        refine wpQuiet_nil ?_
        refine flowW_skip rfl ?_
        go_big_quiet_step (fail)
        refine wpQuiet_nil ?_
        refine flowW_skip rfl ?_
        go_big_quiet_step (fail)
        refine wpQuiet_nil ?_
        refine flowW_skip rfl ?_
        go_big_quiet_step (fail)
        refine wpQuiet_nil ?_
        refine flowW_skip rfl ?_
        go_big_quiet_step (fail)
        refine wpQuiet_nil ?_
        refine flowW_plain rfl ?_
        go_big_quiet_step (fail)
        refine wpQuiet_nil ?_
        refine flowW_end fun w2 hw2 hF hD => ?_
        clear kp0 kp1 kp2 kp3 kp4 kp5 kp6 kp7 kp8 kp9 kp10 kq0 kq1 kq2 kq3 kq4 kq5 kq6 kq7 kq8 kq9 kq10
        simp only [List.drop_succ_cons, List.drop_zero]
        have HB2 := Lib.hid (below_then HB1.out hw2)
        clear hF hD
        clear hw2
        go_wp2_with fail
        go_ret
        exact ⟨ret_bool HF.out.symm, HB2.out⟩
  · have HF := Lib.hid (no_of HR.out (fun h => hq h.time))
    have hne : (time == time2) = false := beq_eq_false_iff_ne.2 hq
    have hne' : (time != time2) = true := by rw [bne, hne]; rfl
    clear hq
    go_enter Tryz.func44, Tryz.ntmps44
    go_wp2_with fail
    rw [HW.out]
    refine wp_region_flow (by kernel_rfl) 42 [(1, ⟨fun v => v = .agg #[.int .i64 time, .int .i64 dev, .int .i64 seq], fun _ _ _ _ => True⟩), (3, ⟨fun v => v = .agg #[.int .i64 time2, .int .i64 dev2, .int .i64 seq2], fun _ _ _ _ => True⟩)] (by kernel_rfl) ?_ ?_ ?_
    · intro x hx
      simp only [List.mem_cons, List.not_mem_nil, or_false] at hx
      rcases hx with rfl | rfl
      · exact ⟨_, rfl⟩
      · exact ⟨_, rfl⟩
    · intro x hx v lo hi w w' h hb
      simp only [List.mem_cons, List.not_mem_nil, or_false] at hx
      rcases hx with rfl | rfl
      · exact trivial
      · exact trivial
    · intro lo hi
      have kp0 := cell_regrown p0
      have kp1 := cell_regrown p1
      have kp2 := cell_regrown p2
      have kp3 := cell_regrown p3
      have kp4 := cell_regrown p4
      have kp5 := cell_regrown p5
      have kp6 := cell_regrown p6
      have kp7 := cell_regrown p7
      have kp8 := cell_regrown p8
      have kp9 := cell_regrown p9
      have kp10 := cell_regrown p10
      have kq0 := cell_regrown q0
      have kq1 := cell_regrown q1
      have kq2 := cell_regrown q2
      have kq3 := cell_regrown q3
      have kq4 := cell_regrown q4
      have kq5 := cell_regrown q5
      have kq6 := cell_regrown q6
      have kq7 := cell_regrown q7
      have kq8 := cell_regrown q8
      have kq9 := cell_regrown q9
      have kq10 := cell_regrown q10
      refine flowW_plain rfl ?_
      go_big_quiet_step (fail)
      refine wpQuiet_nil ?_
      refine flowW_call rfl rfl ?_ ?_
      · intro W hW hF K hK
        clear kp0 kp1 kp2 kp3 kp4 kp5 kp6 kp7 kp8 kp9 kp10 kq0 kq1 kq2 kq3 kq4 kq5 kq6 kq7 kq8 kq9 kq10
        go_wp2_with fail
        refine (refStamp_any _).mono ?_
        rintro e wq ⟨rfl, hbq⟩
        go_wp2_with fail
        exact hK _ _ rfl trivial hbq
      rintro v rfl K hK
      go_simp
      refine hK _ ?_
      clear hK K
      refine flowW_plain rfl ?_
      go_big_quiet_step (fail)
      refine wpQuiet_nil ?_
      refine flowW_call rfl rfl ?_ ?_
      · intro W hW hF K hK
        clear kp0 kp1 kp2 kp3 kp4 kp5 kp6 kp7 kp8 kp9 kp10 kq0 kq1 kq2 kq3 kq4 kq5 kq6 kq7 kq8 kq9 kq10
        go_wp2_with fail
        refine (refStamp_any _).mono ?_
        rintro e wq ⟨rfl, hbq⟩
        go_wp2_with fail
        exact hK _ _ rfl trivial hbq
      rintro v rfl K hK
      go_simp
      refine hK _ ?_
      clear hK K
      refine flowW_plain rfl ?_
      go_big_quiet_step (fail)
      refine wpQuiet_nil ?_
      refine flowW_plain rfl ?_
      go_big_quiet_step (fail)
      refine wpQuiet_nil ?_
      refine flowW_skip rfl ?_
      go_big_quiet_step (fail)
      refine wpQuiet_nil ?_
      refine flowW_skip rfl ?_
      go_big_quiet_step (fail)
      refine wpQuiet_nil ?_
      refine flowW_skip rfl ?_
      go_big_quiet_step (fail)
      refine wpQuiet_nil ?_
      refine flowW_skip rfl ?_
      go_big_quiet_step (fail)
      refine wpQuiet_nil ?_
      refine flowW_skip rfl ?_
      go_big_quiet_step (fail)
      refine wpQuiet_nil ?_
      refine flowW_plain rfl ?_
      go_big_quiet_step (fail)
      refine wpQuiet_nil ?_
      refine flowW_plain rfl ?_
      go_big_quiet_step (fail)
      refine wpQuiet_nil ?_
      refine flowW_skip rfl ?_
      go_big_quiet_step (fail)
      refine wpQuiet_nil ?_
      refine flowW_skip rfl ?_
      go_big_quiet_step (fail)
      refine wpQuiet_nil ?_
      refine flowW_skip rfl ?_
      go_big_quiet_step (fail)
      refine wpQuiet_nil ?_
      refine flowW_skip rfl ?_
      go_big_quiet_step (fail)
      refine wpQuiet_nil ?_
      refine flowW_skip rfl ?_
      go_big_quiet_step (fail)
      refine wpQuiet_nil ?_
      refine flowW_plain rfl ?_
      go_big_quiet_step (fail)
      refine wpQuiet_nil ?_
      refine flowW_plain rfl ?_
      go_big_quiet_step (fail)
      refine wpQuiet_nil ?_
      refine flowW_skip rfl ?_
      go_big_quiet_step (fail)
      refine wpQuiet_nil ?_
      refine flowW_skip rfl ?_
      go_big_quiet_step (fail)
      refine wpQuiet_nil ?_
      refine flowW_skip rfl ?_
      go_big_quiet_step (fail)
      refine wpQuiet_nil ?_
      refine flowW_skip rfl ?_
      go_big_quiet_step (fail)
      refine wpQuiet_nil ?_
      refine flowW_skip rfl ?_
      go_big_quiet_step (fail)
      refine wpQuiet_nil ?_
      refine flowW_plain rfl ?_
      go_big_quiet_step (fail)
      refine wpQuiet_nil ?_
      refine flowW_plain rfl ?_
      go_big_quiet_step (fail)
      refine wpQuiet_nil ?_
      refine flowW_skip rfl ?_
      go_big_quiet_step (fail)
      refine wpQuiet_nil ?_
      refine flowW_skip rfl ?_
      go_big_quiet_step (fail)
      refine wpQuiet_nil ?_
      refine flowW_skip rfl ?_
      go_big_quiet_step (fail)
      refine wpQuiet_nil ?_
      refine flowW_skip rfl ?_
      go_big_quiet_step (fail)
      refine wpQuiet_nil ?_
      refine flowW_skip rfl ?_
      go_big_quiet_step (fail)
      refine wpQuiet_nil ?_
      refine flowW_plain rfl ?_
      go_big_quiet_step (fail)
      refine wpQuiet_nil ?_
      refine flowW_plain rfl ?_
      go_big_quiet_step (fail)
      refine wpQuiet_nil ?_
      refine flowW_skip rfl ?_
      go_big_quiet_step (fail)
      refine wpQuiet_nil ?_
      refine flowW_skip rfl ?_
      go_big_quiet_step (fail)
      refine wpQuiet_nil ?_
      refine flowW_skip rfl ?_
      go_big_quiet_step (fail)
      refine wpQuiet_nil ?_
      refine flowW_skip rfl ?_
      go_big_quiet_step (fail)
      refine wpQuiet_nil ?_
      refine flowW_skip rfl ?_
      go_big_quiet_step (fail)
      refine wpQuiet_nil ?_
      refine flowW_skip rfl ?_
      go_big_quiet_step (fail)
      refine wpQuiet_nil ?_
      refine flowW_skip rfl ?_
      go_big_quiet_step (fail)
      refine wpQuiet_nil ?_
      refine flowW_plain rfl ?_
      go_big_quiet_step (fail)
      refine wpQuiet_nil ?_
      refine flowW_end fun w2 hw2 hF hD => ?_
      clear kp0 kp1 kp2 kp3 kp4 kp5 kp6 kp7 kp8 kp9 kp10 kq0 kq1 kq2 kq3 kq4 kq5 kq6 kq7 kq8 kq9 kq10
      simp only [List.drop_succ_cons, List.drop_zero]
      have HB2 := Lib.hid (below_then HB1.out hw2)
      clear hF hD
      clear hw2
      go_wp2_with fail
      go_ret
      exact ⟨ret_bool HF.out.symm, HB2.out⟩
end Go.Proofs.YtnolbabpkhdpmaaGreat
