/-
  Layer 20 (past): the document's above, Closed. (printed by tools/gen_r21.py)
-/
import Derived.Test.YtnolbabpkhdpmaaGreatN7
namespace Go.Proofs.YtnolbabpkhdpmaaGreat
open Go.RowKit Go.Sort Go.Shelf Go.BigFrame
attribute [local irreducible] FlowW

theorem refOfV_v {v : Value} {l : List Int} {d f : Int} {w : World} (hf : ofV l d = f) (h : Rd w v l.length (l.map ic)) : Calls Tryz.prog 27 #[v, .int .i64 d] w fun e w' => e = .returned (.int .i64 f) ∧ w = w' := hf ▸ refOfV_any v l d w h
theorem refRightT_b {t p r : Int} {w : World} (hr : rightT t p = r) : Calls Tryz.prog 54 #[.int .i64 t, .int .i64 p] w fun e w' => e = .returned (.int .i64 r) ∧ w = w' := hr ▸ refRightT_any t p w
theorem refTime_b {dev seq time note whom upto : Int} {fm : Bool} {ad ao ae ah : Option Addr} {nd cd no co ne ce nh ch : Nat} {line deps : List Int} {last tm : Int} {vl vv : Value} {l : List TxS} {w : World} (ht : refTimeT line last l deps = tm) (hv : Rd w vv line.length (line.map ic)) (hl : LRd w vl l) (hd : Rd w (.slice ad nd cd) deps.length (deps.map ic)) (hn : l.length ≤ 1000000) (h1 : line.length ≤ 1000000) (h2 : deps.length ≤ 1000000) :
    Calls Tryz.prog 55 #[vv, .int .i64 last, vl, .agg #[.int .i64 dev, .int .i64 seq, .int .i64 time, .slice ad nd cd, .slice ao no co, .slice ae ne ce, .bool fm, .slice ah nh ch, .int .i64 note, .int .i64 whom, .int .i64 upto]] w fun e w' => e = .returned (.int .i64 tm) ∧ Below w.heap.size w w' := ht ▸ refTime_any w hv hl hd hn h1 h2
theorem refKnownT_len (line : List Int) (l : List TxS) : (refKnownT line l).length ≤ 1000000 := by
  unfold refKnownT
  have := trimL_len (rkL line l)
  have h2 : (rkL line l).length = 64 := by unfold rkL; rw [rkFold_len, rk0_len]
  omega
theorem refVecRight_b {v : Value} {l : List Int} {w : World} (r : Bool) (hr : rightVec l = r) (h : Rd w v l.length (l.map ic)) : Calls Tryz.prog 25 #[v] w fun e w' => e = .returned (.bool r) ∧ w = w' := hr ▸ refVecRight_any w h
theorem many_next {l : List TxS} {k : Nat} {x : TxS} {dev f s : Int} (h : l.take (k + 1) = l.take k ++ [x]) : manyR (l.take (k + 1)) dev f s = manyR (l.take k) dev f s + (if manyQ dev f s x = true then 1 else 0) := by
  unfold manyR
  rw [h, List.filter_append, List.length_append]
  cases hq : manyQ dev f s x <;> simp [hq]
theorem manyR_le (l : List TxS) (dev f s : Int) : manyR l dev f s ≤ l.length := List.length_filter_le _ _
set_option maxRecDepth 100000 in
set_option maxHeartbeats 8000000 in
theorem refAbove_any {dev seq time note whom upto : Int} {fm : Bool} {ad ao ae ah : Option Addr} {nd cd no co ne ce nh ch : Nat} {line deps : List Int} {last : Int} {vl vv : Value} {l : List TxS} (w : World) (hv : Rd w vv line.length (line.map ic)) (hl : LRd w vl l) (hd : Rd w (.slice ad nd cd) deps.length (deps.map ic)) (hn : l.length ≤ 1000000) (h1 : line.length ≤ 1000000) (h2 : deps.length ≤ 1000000) (h3 : ∀ x ∈ l, x.nd ≤ 1000000) (h4 : 0 ≤ ofV line dev ∧ ofV line dev ≤ 1048576) (h5 : 1 ≤ seq ∧ seq ≤ 1048576) :
    Calls Tryz.prog 28 #[vv, .int .i64 last, vl, .agg #[.int .i64 dev, .int .i64 seq, .int .i64 time, .slice ad nd cd, .slice ao no co, .slice ae ne ce, .bool fm, .slice ah nh ch, .int .i64 note, .int .i64 whom, .int .i64 upto]] w fun e w' => e = .returned (.bool (refAboveT line last l dev seq time deps)) ∧ Below w.heap.size w w' := by
  obtain ⟨la, lc, rfl, hnc, hcm, -, -⟩ := id hl.1
  unfold maxLen at hcm
  obtain ⟨n, hln⟩ : ∃ n, l.length = n := ⟨_, rfl⟩
  have HL := Lib.hid hl
  have HLN := Lib.hid hln
  rw [hln] at hnc ⊢
  obtain ⟨w1, hw1⟩ : ∃ w1, w.alloc (.cells #[.int .i64 dev, .int .i64 seq, .int .i64 time, .slice ad nd cd, .slice ao no co, .slice ae ne ce, .bool fm, .slice ah nh ch, .int .i64 note, .int .i64 whom, .int .i64 upto] 31) = w1 := ⟨_, rfl⟩
  have hbw1 : Below w.heap.size w w1 := by rw [← hw1]; exact below_alloc _ _
  have bw1 : Bx w1 w.heap.size #[.int .i64 dev, .int .i64 seq, .int .i64 time, .slice ad nd cd, .slice ao no co, .slice ae ne ce, .bool fm, .slice ah nh ch, .int .i64 note, .int .i64 whom, .int .i64 upto] 31 := by rw [← hw1]; exact bx_new rfl
  have Hw1 := Lib.hid hw1
  have HX := Lib.hid bw1
  have HB1 := Lib.hid hbw1
  rw [hln] at hl
  replace HL := Lib.hid (hl.later hbw1)
  have HD := Lib.hid (hd.later hbw1)
  have HV := Lib.hid (hv.later hbw1)
  have HNL := Lib.hid hn
  have H1 := Lib.hid h1
  have H2 := Lib.hid h2
  have H3 := Lib.hid h3
  have hn6 : n ≤ 1000000 := by omega
  obtain ⟨f, hf⟩ : ∃ f, ofV line dev = f := ⟨_, rfl⟩
  rw [hf] at h4
  have HF := Lib.hid hf
  obtain ⟨h41, h42⟩ := h4
  obtain ⟨h51, h52⟩ := h5
  clear hl hd hv hw1 hbw1 bw1 hn h1 h2 h3 hln hf
  go_enter Tryz.func28, Tryz.ntmps28
  go_upto_region 1 with fail
  rw [Hw1.out]
  have p0 := cell_of_box HX.out 0 rfl
  have p1 := cell_of_box HX.out 1 rfl
  have p2 := cell_of_box HX.out 2 rfl
  have p3 := cell_of_box HX.out 3 rfl
  have p4 := cell_of_box HX.out 4 rfl
  have p5 := cell_of_box HX.out 5 rfl
  have p6 := cell_of_box HX.out 6 rfl
  have p7 := cell_of_box HX.out 7 rfl
  have p8 := cell_of_box HX.out 8 rfl
  have p9 := cell_of_box HX.out 9 rfl
  have p10 := cell_of_box HX.out 10 rfl
  obtain ⟨u1, hu1⟩ : ∃ u1, uptoB line deps = u1 := ⟨_, rfl⟩
  obtain ⟨u2, hu2⟩ : ∃ u2, uptoB deps (refKnownT line l) = u2 := ⟨_, rfl⟩
  obtain ⟨tm, htm⟩ : ∃ tm, refTimeT line last l deps = tm := ⟨_, rfl⟩
  obtain ⟨rt, hrt⟩ : ∃ rt, rightT time tm = rt := ⟨_, rfl⟩
  have HU1 := Lib.hid hu1
  have HU2 := Lib.hid hu2
  have HTM := Lib.hid htm
  have HRT := Lib.hid hrt
  have HRR0 : Hid (refAboveT line last l dev seq time deps = if u1 = false ∨ u2 = false ∨ ¬ rt = 0 then false else if (List.range 64).all (fun (j : Nat) => refDep line l deps ((j : Int) + 1)) = false then false else decide ((manyR l dev f seq : Int) = seq - f)) := by
    show _ = _
    unfold refAboveT
    rw [hu1, hu2, htm, hrt, HF.out]
  clear hu1 hu2 htm hrt
  go_wp2_with fail
  refine (refUpto_b u1 HU1.out HV.out HD.out H1.out H2.out).mono ?_
  rintro e w9 ⟨rfl, rfl⟩
  go_wp2_with fail
  refine wp_region_flow (by kernel_rfl) 7 [(4, ⟨fun _ => True, fun v _ _ w' => Rd w' v (refKnownT line l).length ((refKnownT line l).map ic)⟩), (5, ⟨fun v => v = .bool u2, fun _ _ _ _ => True⟩)] (by kernel_rfl) ?_ ?_ ?_
  · intro x hx
    simp only [List.mem_cons, List.not_mem_nil, or_false] at hx
    rcases hx with rfl | rfl
    · exact ⟨.int .i64 0, trivial⟩
    · exact ⟨_, rfl⟩
  · intro x hx v lo hi w w' h hb
    simp only [List.mem_cons, List.not_mem_nil, or_false] at hx
    rcases hx with rfl | rfl
    · exact h.later hb
    · exact trivial
  · intro lo hi
    have kp0 := cell_regrown p0
    have kp1 := cell_regrown p1
    have kp2 := cell_regrown p2
    have kp3 := cell_regrown p3
    have kp4 := cell_regrown p4
    have kp5 := cell_regrown p5
    have kp6 := cell_regrown p6
    have kp7 := cell_regrown p7
    have kp8 := cell_regrown p8
    have kp9 := cell_regrown p9
    have kp10 := cell_regrown p10
    refine flowW_plain rfl ?_
    go_big_quiet_step (fail)
    refine wpQuiet_nil ?_
    refine flowW_plain rfl ?_
    go_big_quiet_step (fail)
    refine wpQuiet_nil ?_
    refine flowW_plain rfl ?_
    go_big_quiet_step (fail)
    refine wpQuiet_nil ?_
    refine flowW_plain rfl ?_
    go_big_quiet_step (fail)
    refine wpQuiet_nil ?_
    refine flowW_call rfl rfl ?_ ?_
    · intro W hW hF K hK
      clear kp0 kp1 kp2 kp3 kp4 kp5 kp6 kp7 kp8 kp9 kp10
      go_wp2_with fail
      refine (refKnown_any _ (HV.out.later hW) (HL.out.later hW)).mono ?_
      rintro e wq ⟨vq, rfl, hq, hbq⟩
      go_wp2_with fail
      exact hK _ _ trivial hq hbq
    rintro v - K hK
    go_simp
    refine hK _ ?_
    clear hK K
    refine flowW_call rfl rfl ?_ ?_
    · intro W hW hF K hK
      clear kp0 kp1 kp2 kp3 kp4 kp5 kp6 kp7 kp8 kp9 kp10
      go_wp2_with fail
      refine (refUpto_b u2 HU2.out (HD.out.later hW) (hF 4 rfl) H2.out (refKnownT_len _ _)).mono ?_
      rintro e wq ⟨rfl, rfl⟩
      go_wp2_with fail
      exact hK _ _ rfl trivial (Below.refl _ _)
    rintro v rfl K hK
    go_simp
    refine hK _ ?_
    clear hK K
    refine flowW_plain rfl ?_
    go_big_quiet_step (fail)
    refine wpQuiet_nil ?_
    refine flowW_end fun w2 hw2 hF hD => ?_
    clear kp0 kp1 kp2 kp3 kp4 kp5 kp6 kp7 kp8 kp9 kp10
    simp only [List.drop_succ_cons, List.drop_zero]
    have HB2 := Lib.hid hw2
    clear hw2 hF hD p0 p1 p2 p3 p4 p5 p6 p7 p8 p9 p10
    have p0 := cell_of_box (bx_later HB2.out HX.out) 0 rfl
    have p1 := cell_of_box (bx_later HB2.out HX.out) 1 rfl
    have p2 := cell_of_box (bx_later HB2.out HX.out) 2 rfl
    have p3 := cell_of_box (bx_later HB2.out HX.out) 3 rfl
    have p4 := cell_of_box (bx_later HB2.out HX.out) 4 rfl
    have p5 := cell_of_box (bx_later HB2.out HX.out) 5 rfl
    have p6 := cell_of_box (bx_later HB2.out HX.out) 6 rfl
    have p7 := cell_of_box (bx_later HB2.out HX.out) 7 rfl
    have p8 := cell_of_box (bx_later HB2.out HX.out) 8 rfl
    have p9 := cell_of_box (bx_later HB2.out HX.out) 9 rfl
    have p10 := cell_of_box (bx_later HB2.out HX.out) 10 rfl
    go_wp2_with fail
    refine wp_region_flow (by kernel_rfl) 9 [(6, ⟨fun v => v = .int .i64 tm, fun _ _ _ _ => True⟩), (7, ⟨fun v => v = .int .i64 rt, fun _ _ _ _ => True⟩)] (by kernel_rfl) ?_ ?_ ?_
    · intro x hx
      simp only [List.mem_cons, List.not_mem_nil, or_false] at hx
      rcases hx with rfl | rfl
      · exact ⟨_, rfl⟩
      · exact ⟨_, rfl⟩
    · intro x hx v lo hi w w' h hb
      simp only [List.mem_cons, List.not_mem_nil, or_false] at hx
      rcases hx with rfl | rfl
      · exact trivial
      · exact trivial
    · intro lo hi
      have kp0 := cell_regrown p0
      have kp1 := cell_regrown p1
      have kp2 := cell_regrown p2
      have kp3 := cell_regrown p3
      have kp4 := cell_regrown p4
      have kp5 := cell_regrown p5
      have kp6 := cell_regrown p6
      have kp7 := cell_regrown p7
      have kp8 := cell_regrown p8
      have kp9 := cell_regrown p9
      have kp10 := cell_regrown p10
      refine flowW_plain rfl ?_
      go_big_quiet_step (fail)
      refine wpQuiet_nil ?_
      refine flowW_plain rfl ?_
      go_big_quiet_step (fail)
      refine wpQuiet_nil ?_
      refine flowW_plain rfl ?_
      go_big_quiet_step (fail)
      refine wpQuiet_nil ?_
      refine flowW_plain rfl ?_
      go_big_quiet_step (fail)
      refine wpQuiet_nil ?_
      refine flowW_plain rfl ?_
      go_big_quiet_step (fail)
      refine wpQuiet_nil ?_
      refine flowW_plain rfl ?_
      go_big_quiet_step (fail)
      refine wpQuiet_nil ?_
      refine flowW_call rfl rfl ?_ ?_
      · intro W hW hF K hK
        clear kp0 kp1 kp2 kp3 kp4 kp5 kp6 kp7 kp8 kp9 kp10
        go_wp2_with fail
        refine (refTime_b HTM.out (HV.out.later (below_then HB2.out hW)) (HL.out.later (below_then HB2.out hW)) (HD.out.later (below_then HB2.out hW)) HNL.out H1.out H2.out).mono ?_
        rintro e wq ⟨rfl, hbq⟩
        go_wp2_with fail
        exact hK _ _ rfl trivial hbq
      rintro v rfl K hK
      go_simp
      refine hK _ ?_
      clear hK K
      refine flowW_call rfl rfl ?_ ?_
      · intro W hW hF K hK
        clear kp0 kp1 kp2 kp3 kp4 kp5 kp6 kp7 kp8 kp9 kp10
        go_wp2_with fail
        refine (refRightT_b HRT.out).mono ?_
        rintro e wq ⟨rfl, rfl⟩
        go_wp2_with fail
        exact hK _ _ rfl trivial (Below.refl _ _)
      rintro v rfl K hK
      go_simp
      refine hK _ ?_
      clear hK K
      refine flowW_plain rfl ?_
      go_big_quiet_step (fail)
      refine wpQuiet_nil ?_
      refine flowW_end fun w3 hw3 hF hD => ?_
      clear kp0 kp1 kp2 kp3 kp4 kp5 kp6 kp7 kp8 kp9 kp10
      simp only [List.drop_succ_cons, List.drop_zero]
      have HB3 := Lib.hid (below_then HB2.out hw3)
      clear hw3 hF hD p0 p1 p2 p3 p4 p5 p6 p7 p8 p9 p10
      cases u1
      · have HRR : Hid (refAboveT line last l dev seq time deps = false) := HRR0.out.trans (if_pos (.inl rfl))
        go_wp2_with fail
        go_ret
        exact ⟨ret_bool HRR.out.symm, below_then HB1.out HB3.out⟩
      cases u2
      · have HRR : Hid (refAboveT line last l dev seq time deps = false) := HRR0.out.trans (if_pos (.inr (.inl rfl)))
        go_wp2_with fail
        go_ret
        exact ⟨ret_bool HRR.out.symm, below_then HB1.out HB3.out⟩
      cases hr0 : (rt == 0)
      · have hr1 : (rt != 0) = true := by rw [bne, hr0]; rfl
        have HRR : Hid (refAboveT line last l dev seq time deps = false) := HRR0.out.trans (if_pos (.inr (.inr (by simpa using hr0))))
        go_wp2_with fail
        go_ret
        exact ⟨ret_bool HRR.out.symm, below_then HB1.out HB3.out⟩
      have hr1 : (rt != 0) = false := by rw [bne, hr0]; rfl
      have HRR1 : Hid (refAboveT line last l dev seq time deps = if (List.range 64).all (fun (j : Nat) => refDep line l deps ((j : Int) + 1)) = false then false else decide ((manyR l dev f seq : Int) = seq - f)) := HRR0.out.trans (if_neg (by rintro (e | e | e); cases e; cases e; exact e (eq_of_beq hr0)))
      clear HRR0
      go_wp2_with fail
      clear hr0 hr1
      go_loopw [12] (fun vi wr => ∃ j : Nat, j ≤ 64 ∧ vi = .int .i64 ((j : Int) + 1) ∧ Hid (∀ i : Nat, i < j → refDep line l deps ((i : Int) + 1) = true) ∧ Hid (Below w3.heap.size w3 wr)) (fun vi _ => 65 - (intOf vi).toNat)
      case atStart => exact ⟨0, by omega, by go_num, (fun i hi => absurd hi (by omega)), Below.refl _ _⟩
      case round =>
        obtain ⟨j, hj, rfl, hall, HBL⟩ := hrel
        rename World => wr
        by_cases hlt : j < 64
        · have hlt2 : decide ((j : Int) + 1 ≤ 64) = true := decide_eq_true (by omega)
          have hlt3 : (j : Int) + 1 ≤ 64 := by omega
          have hj0 : (0 : Int) ≤ (j : Int) := by omega
          obtain ⟨d, hd⟩ : ∃ d, ofV deps ((j : Int) + 1) = d := ⟨_, rfl⟩
          obtain ⟨g, hg⟩ : ∃ g, ofV line ((j : Int) + 1) = g := ⟨_, rfl⟩
          have HDD := Lib.hid hd
          have HGG := Lib.hid hg
          have HDP : Hid (refDep line l deps ((j : Int) + 1) = (decide (d ≤ g) || ((findD ((j : Int) + 1) d l).map fun x => uptoB x.deps deps).getD false)) := by show _ = _; unfold refDep; rw [hd, hg]
          have HBAD : Hid (refDep line l deps ((j : Int) + 1) = false → refAboveT line last l dev seq time deps = false) := fun h => HRR1.out.trans (if_pos (List.all_eq_false.2 ⟨j, List.mem_range.2 hlt, by rw [h]; simp⟩))
          clear hd hg
          have p0 := cell_of_box (bx_later (below_then HB3.out HBL.out) HX.out) 0 rfl
          have p1 := cell_of_box (bx_later (below_then HB3.out HBL.out) HX.out) 1 rfl
          have p2 := cell_of_box (bx_later (below_then HB3.out HBL.out) HX.out) 2 rfl
          have p3 := cell_of_box (bx_later (below_then HB3.out HBL.out) HX.out) 3 rfl
          have p4 := cell_of_box (bx_later (below_then HB3.out HBL.out) HX.out) 4 rfl
          have p5 := cell_of_box (bx_later (below_then HB3.out HBL.out) HX.out) 5 rfl
          have p6 := cell_of_box (bx_later (below_then HB3.out HBL.out) HX.out) 6 rfl
          have p7 := cell_of_box (bx_later (below_then HB3.out HBL.out) HX.out) 7 rfl
          have p8 := cell_of_box (bx_later (below_then HB3.out HBL.out) HX.out) 8 rfl
          have p9 := cell_of_box (bx_later (below_then HB3.out HBL.out) HX.out) 9 rfl
          have p10 := cell_of_box (bx_later (below_then HB3.out HBL.out) HX.out) 10 rfl
          go_wp2_with fail
          refine (refOfV_v HDD.out (HD.out.later (below_then HB3.out HBL.out))).mono ?_
          rintro e w9 ⟨rfl, rfl⟩
          go_wp2_with fail
          refine (refOfV_v HGG.out (HV.out.later (below_then HB3.out HBL.out))).mono ?_
          rintro e w9 ⟨rfl, rfl⟩
          cases hle : decide (d ≤ g)
          case true =>
            have HOK : Hid (refDep line l deps ((j : Int) + 1) = true) := by show _ = _; rw [HDP.out, hle]; rfl
            go_wp2_with fail
            go_roundw
            case rel => exact ⟨j + 1, by omega, by go_num, (fun i hi => by rcases Nat.lt_or_ge i j with h | h; exact hall.out i h; rw [show i = j by omega]; exact HOK.out), HBL.out⟩
            case measure => simp [intOf]; omega
          have HLE := Lib.hid hle
          go_wp2_with fail
          refine (refAt_any _ (HL.out.later (below_then HB3.out HBL.out))).mono ?_
          rintro e w9 ⟨r, ⟨hno, rfl⟩ | ⟨k, x, rfl, hgx, hfx, -⟩, rfl, rfl⟩
          · have HRR : Hid (refAboveT line last l dev seq time deps = false) := HBAD.out (by rw [HDP.out, HLE.out, hno]; rfl)
            clear hno
            go_wp2_with fail
            go_ret
            exact ⟨ret_bool HRR.out.symm, below_then HB1.out (below_then HB3.out HBL.out)⟩
          have hkl : k < l.length := (List.getElem?_eq_some_iff.1 hgx).1
          have hkx : l[k] = x := (List.getElem?_eq_some_iff.1 hgx).2
          have hkn : (k : Int) < (n : Int) := by have := HLN.out; omega
          have hk0 : (0 : Int) ≤ (k : Int) := by omega
          have hk1 : decide ((k : Int) < 0) = false := decide_eq_false (by omega)
          have hxm : x ∈ l := hkx ▸ List.getElem_mem hkl
          have HXR := Lib.hid (HL.out.2 x hxm)
          have HXN : Hid (x.deps.length ≤ 1000000) := by show _ ≤ _; rw [← (HL.out.2 x hxm).hnd]; exact H3.out x hxm
          obtain ⟨u, hu⟩ : ∃ u, uptoB x.deps deps = u := ⟨_, rfl⟩
          have HUX := Lib.hid hu
          have HOK : Hid (refDep line l deps ((j : Int) + 1) = u) := by show _ = _; rw [HDP.out, HLE.out, hfx, ← hu]; rfl
          have hlr := (HL.out.later (below_then HB3.out HBL.out)).1
          rw [HLN.out] at hlr
          obtain ⟨bx, ox, ex, c0, c1, c2, c3, c4, c5, c6, c7, c8, c9, c10, -⟩ := rd_txs hlr HLN.out.symm k hkl hkx
          clear hu hlr hxm hkx hgx hfx hle hkl
          go_wp2_with fail
          refine wp_region_flow (by kernel_rfl) 9 [(7, ⟨fun v => v = .bool u, fun _ _ _ _ => True⟩)] (by kernel_rfl) ?_ ?_ ?_
          · intro x hx
            simp only [List.mem_cons, List.not_mem_nil, or_false] at hx
            subst hx
            exact ⟨_, rfl⟩
          · intro x hx v lo hi w w' h hb
            simp only [List.mem_cons, List.not_mem_nil, or_false] at hx
            subst hx
            exact trivial
          · intro lo hi
            have kp3 := cell_regrown p3
            have kc0 := cell_regrown c0
            have kc1 := cell_regrown c1
            have kc2 := cell_regrown c2
            have kc3 := cell_regrown c3
            have kc4 := cell_regrown c4
            have kc5 := cell_regrown c5
            have kc6 := cell_regrown c6
            have kc7 := cell_regrown c7
            have kc8 := cell_regrown c8
            have kc9 := cell_regrown c9
            have kc10 := cell_regrown c10
            refine flowW_plain rfl ?_
            go_big_quiet_step (fail)
            refine wpQuiet_nil ?_
            refine flowW_plain rfl ?_
            go_big_quiet_step (fail)
            refine wpQuiet_nil ?_
            refine flowW_plain rfl ?_
            go_big_quiet_step (fail)
            refine wpQuiet_nil ?_
            refine flowW_plain rfl ?_
            go_big_quiet_step (fail)
            refine wpQuiet_nil ?_
            refine flowW_plain rfl ?_
            go_big_quiet_step (fail)
            refine wpQuiet_nil ?_
            refine flowW_plain rfl ?_
            go_big_quiet_step (fail)
            refine wpQuiet_nil ?_
            refine flowW_plain rfl ?_
            go_big_quiet_step (fail)
            refine wpQuiet_nil ?_
            refine flowW_call rfl rfl ?_ ?_
            · intro W hW hF K hK
              clear kp3 kc0 kc1 kc2 kc3 kc4 kc5 kc6 kc7 kc8 kc9 kc10
              go_wp2_with fail
              refine (refUpto_b u HUX.out (HXR.out.later (below_then HB3.out (below_then HBL.out hW))).deps' (HD.out.later (below_then HB3.out (below_then HBL.out hW))) HXN.out H2.out).mono ?_
              rintro e wq ⟨rfl, rfl⟩
              go_wp2_with fail
              exact hK _ _ rfl trivial (Below.refl _ _)
            rintro v rfl K hK
            go_simp
            refine hK _ ?_
            clear hK K
            refine flowW_plain rfl ?_
            go_big_quiet_step (fail)
            refine wpQuiet_nil ?_
            refine flowW_end fun w6 hw6 hF hD => ?_
            clear kp3 kc0 kc1 kc2 kc3 kc4 kc5 kc6 kc7 kc8 kc9 kc10
            simp only [List.drop_succ_cons, List.drop_zero]
            have HB6 := Lib.hid (below_then HBL.out hw6)
            clear hw6 hF hD ex c0 c1 c2 c3 c4 c5 c6 c7 c8 c9 c10 p0 p1 p2 p3 p4 p5 p6 p7 p8 p9 p10 hk1
            cases u
            · go_wp2_with fail
              go_ret
              exact ⟨ret_bool (HBAD.out HOK.out).symm, below_then HB1.out (below_then HB3.out HB6.out)⟩
            · go_wp2_with fail
              go_roundw
              case rel => exact ⟨j + 1, by omega, by go_num, (fun i hi => by rcases Nat.lt_or_ge i j with h | h; exact hall.out i h; rw [show i = j by omega]; exact HOK.out), HB6.out⟩
              case measure => simp [intOf]; omega
        · have hjn : j = 64 := by omega
          subst hjn
          have HRR2 : Hid (refAboveT line last l dev seq time deps = decide ((manyR l dev f seq : Int) = seq - f)) := HRR1.out.trans (if_neg (by rw [List.all_eq_true.2 fun i hi => hall.out i (List.mem_range.1 hi)]; simp))
          have HB0 := HBL
          clear hall HBL hlt hj
          go_wp2_with fail
          go_loopw [16, 17] (fun vm vi wz => ∃ k : Nat, k ≤ n ∧ vm = .int .i64 (manyR (l.take k) dev f seq : Int) ∧ vi = .int .i64 k ∧ Hid (Below w3.heap.size w3 wz)) (fun _ vi _ => n - (intOf vi).toNat)
          case atStart => exact ⟨0, Nat.zero_le _, by simp [manyR], by go_num, HB0.out⟩
          case round =>
            obtain ⟨k, hk, rfl, rfl, HBL⟩ := hrel
            rename World => wz
            obtain ⟨M, hM⟩ : ∃ M, manyR (l.take k) dev f seq = M := ⟨_, rfl⟩
            have hMn : M ≤ 1000000 := by have := manyR_le (l.take k) dev f seq; rw [hM, List.length_take] at this; omega
            have p0 := cell_of_box (bx_later (below_then HB3.out HBL.out) HX.out) 0 rfl
            have p1 := cell_of_box (bx_later (below_then HB3.out HBL.out) HX.out) 1 rfl
            have p2 := cell_of_box (bx_later (below_then HB3.out HBL.out) HX.out) 2 rfl
            have p3 := cell_of_box (bx_later (below_then HB3.out HBL.out) HX.out) 3 rfl
            have p4 := cell_of_box (bx_later (below_then HB3.out HBL.out) HX.out) 4 rfl
            have p5 := cell_of_box (bx_later (below_then HB3.out HBL.out) HX.out) 5 rfl
            have p6 := cell_of_box (bx_later (below_then HB3.out HBL.out) HX.out) 6 rfl
            have p7 := cell_of_box (bx_later (below_then HB3.out HBL.out) HX.out) 7 rfl
            have p8 := cell_of_box (bx_later (below_then HB3.out HBL.out) HX.out) 8 rfl
            have p9 := cell_of_box (bx_later (below_then HB3.out HBL.out) HX.out) 9 rfl
            have p10 := cell_of_box (bx_later (below_then HB3.out HBL.out) HX.out) 10 rfl
            by_cases hlt : k < n
            · have hkl : k < l.length := by have := HLN.out; omega
              have hk2 : (k : Int) < (n : Int) := by omega
              have hk0 : (0 : Int) ≤ (k : Int) := by omega
              obtain ⟨x, hx⟩ : ∃ x, l[k]'hkl = x := ⟨_, rfl⟩
              have hlr := (HL.out.later (below_then HB3.out HBL.out)).1
              rw [HLN.out] at hlr
              obtain ⟨bx, ox, ex, c0, c1, c2, c3, c4, c5, c6, c7, c8, c9, c10, -⟩ := rd_txs hlr HLN.out.symm k hkl hx
              have HTx : Hid (l.take (k + 1) = l.take k ++ [x]) := by show _ = _; rw [List.take_succ_eq_append_getElem hkl, hx]
              have HGx : Hid (l[k]? = some x) := by show _ = _; rw [List.getElem?_eq_getElem hkl, hx]
              have HIx : Hid (x ∈ l) := by show _ ∈ _; rw [← hx]; exact List.getElem_mem hkl
              clear hlr hx
              have hnx := many_next (dev := dev) (f := f) (s := seq) HTx.out
              rw [hM] at hnx ⊢
              have HNX := Lib.hid hnx
              clear hnx hM
              cases g1 : (x.dev == dev)
              · have HMQ : Hid (manyQ dev f seq x = false) := by show _ = _; unfold manyQ; rw [g1]; rfl
                go_wp2_with fail
                refine wp_region_flow (by kernel_rfl) 30 [(17, ⟨fun v => v = .int .i64 f, fun _ _ _ _ => True⟩)] (by kernel_rfl) ?_ ?_ ?_
                · intro x hx
                  simp only [List.mem_cons, List.not_mem_nil, or_false] at hx
                  subst hx
                  exact ⟨_, rfl⟩
                · intro x hx v lo hi w w' h hb
                  simp only [List.mem_cons, List.not_mem_nil, or_false] at hx
                  subst hx
                  exact trivial
                · intro lo hi
                  have kp0 := cell_regrown p0
                  have kp1 := cell_regrown p1
                  have kc0 := cell_regrown c0
                  have kc1 := cell_regrown c1
                  refine flowW_plain rfl ?_
                  go_big_quiet_step (fail)
                  refine wpQuiet_nil ?_
                  refine flowW_plain rfl ?_
                  go_big_quiet_step (fail)
                  refine wpQuiet_nil ?_
                  refine flowW_plain rfl ?_
                  go_big_quiet_step (fail)
                  refine wpQuiet_nil ?_
                  refine flowW_plain rfl ?_
                  go_big_quiet_step (fail)
                  refine wpQuiet_nil ?_
                  refine flowW_plain rfl ?_
                  go_big_quiet_step (fail)
                  refine wpQuiet_nil ?_
                  refine flowW_plain rfl ?_
                  go_big_quiet_step (fail)
                  refine wpQuiet_nil ?_
                  refine flowW_plain rfl ?_
                  go_big_quiet_step (fail)
                  refine wpQuiet_nil ?_
                  refine flowW_plain rfl ?_
                  go_big_quiet_step (fail)
                  refine wpQuiet_nil ?_
                  refine flowW_plain rfl ?_
                  go_big_quiet_step (fail)
                  refine wpQuiet_nil ?_
                  refine flowW_skip rfl ?_
                  go_big_quiet_step (fail)
                  refine wpQuiet_nil ?_
                  refine flowW_skip rfl ?_
                  go_big_quiet_step (fail)
                  refine wpQuiet_nil ?_
                  refine flowW_skip rfl ?_
                  go_big_quiet_step (fail)
                  refine wpQuiet_nil ?_
                  refine flowW_skip rfl ?_
                  go_big_quiet_step (fail)
                  refine wpQuiet_nil ?_
                  refine flowW_skip rfl ?_
                  go_big_quiet_step (fail)
                  refine wpQuiet_nil ?_
                  refine flowW_skip rfl ?_
                  go_big_quiet_step (fail)
                  refine wpQuiet_nil ?_
                  refine flowW_skip rfl ?_
                  go_big_quiet_step (fail)
                  refine wpQuiet_nil ?_
                  refine flowW_skip rfl ?_
                  go_big_quiet_step (fail)
                  refine wpQuiet_nil ?_
                  refine flowW_skip rfl ?_
                  go_big_quiet_step (fail)
                  refine wpQuiet_nil ?_
                  refine flowW_skip rfl ?_
                  go_big_quiet_step (fail)
                  refine wpQuiet_nil ?_
                  refine flowW_plain rfl ?_
                  go_big_quiet_step (fail)
                  refine wpQuiet_nil ?_
                  refine flowW_plain rfl ?_
                  go_big_quiet_step (fail)
                  refine wpQuiet_nil ?_
                  refine flowW_skip rfl ?_
                  go_big_quiet_step (fail)
                  refine wpQuiet_nil ?_
                  refine flowW_skip rfl ?_
                  go_big_quiet_step (fail)
                  refine wpQuiet_nil ?_
                  refine flowW_skip rfl ?_
                  go_big_quiet_step (fail)
                  refine wpQuiet_nil ?_
                  refine flowW_skip rfl ?_
                  go_big_quiet_step (fail)
                  refine wpQuiet_nil ?_
                  refine flowW_skip rfl ?_
                  go_big_quiet_step (fail)
                  refine wpQuiet_nil ?_
                  refine flowW_skip rfl ?_
                  go_big_quiet_step (fail)
                  refine wpQuiet_nil ?_
                  refine flowW_skip rfl ?_
                  go_big_quiet_step (fail)
                  refine wpQuiet_nil ?_
                  refine flowW_skip rfl ?_
                  go_big_quiet_step (fail)
                  refine wpQuiet_nil ?_
                  refine flowW_plain rfl ?_
                  go_big_quiet_step (fail)
                  refine wpQuiet_nil ?_
                  refine flowW_end fun w7 hw7 hF hD => ?_
                  clear kp0 kp1 kc0 kc1
                  simp only [List.drop_succ_cons, List.drop_zero]
                  have HBM := Lib.hid (below_then HBL.out hw7)
                  clear hw7 hF hD ex c0 c1 c2 c3 c4 c5 c6 c7 c8 c9 c10 p0 p1 p2 p3 p4 p5 p6 p7 p8 p9 p10
                  go_wp2_with fail
                  go_roundw
                  case rel => exact ⟨k + 1, by omega, (by rw [HNX.out, HMQ.out]; simp), by go_num, HBM.out⟩
                  case measure => simp [intOf]; omega
              cases g2 : decide (f < x.seq)
              · have HMQ : Hid (manyQ dev f seq x = false) := by show _ = _; unfold manyQ; rw [g1, g2]; rfl
                go_wp2_with fail
                refine wp_region_flow (by kernel_rfl) 30 [(17, ⟨fun v => v = .int .i64 f, fun _ _ _ _ => True⟩)] (by kernel_rfl) ?_ ?_ ?_
                · intro x hx
                  simp only [List.mem_cons, List.not_mem_nil, or_false] at hx
                  subst hx
                  exact ⟨_, rfl⟩
                · intro x hx v lo hi w w' h hb
                  simp only [List.mem_cons, List.not_mem_nil, or_false] at hx
                  subst hx
                  exact trivial
                · intro lo hi
                  have kp0 := cell_regrown p0
                  have kp1 := cell_regrown p1
                  have kc0 := cell_regrown c0
                  have kc1 := cell_regrown c1
                  refine flowW_plain rfl ?_
                  go_big_quiet_step (fail)
                  refine wpQuiet_nil ?_
                  refine flowW_plain rfl ?_
                  go_big_quiet_step (fail)
                  refine wpQuiet_nil ?_
                  refine flowW_plain rfl ?_
                  go_big_quiet_step (fail)
                  refine wpQuiet_nil ?_
                  refine flowW_plain rfl ?_
                  go_big_quiet_step (fail)
                  refine wpQuiet_nil ?_
                  refine flowW_plain rfl ?_
                  go_big_quiet_step (fail)
                  refine wpQuiet_nil ?_
                  refine flowW_plain rfl ?_
                  go_big_quiet_step (fail)
                  refine wpQuiet_nil ?_
                  refine flowW_plain rfl ?_
                  go_big_quiet_step (fail)
                  refine wpQuiet_nil ?_
                  refine flowW_plain rfl ?_
                  go_big_quiet_step (fail)
                  refine wpQuiet_nil ?_
                  refine flowW_plain rfl ?_
                  go_big_quiet_step (fail)
                  refine wpQuiet_nil ?_
                  refine flowW_plain rfl ?_
                  go_big_quiet_step (fail)
                  refine wpQuiet_nil ?_
                  refine flowW_plain rfl ?_
                  go_big_quiet_step (fail)
                  refine wpQuiet_nil ?_
                  refine flowW_plain rfl ?_
                  go_big_quiet_step (fail)
                  refine wpQuiet_nil ?_
                  refine flowW_plain rfl ?_
                  go_big_quiet_step (fail)
                  refine wpQuiet_nil ?_
                  refine flowW_plain rfl ?_
                  go_big_quiet_step (fail)
                  refine wpQuiet_nil ?_
                  refine flowW_plain rfl ?_
                  go_big_quiet_step (fail)
                  refine wpQuiet_nil ?_
                  refine flowW_plain rfl ?_
                  go_big_quiet_step (fail)
                  refine wpQuiet_nil ?_
                  refine flowW_plain rfl ?_
                  go_big_quiet_step (fail)
                  refine wpQuiet_nil ?_
                  refine flowW_call rfl rfl ?_ ?_
                  · intro W hW hF K hK
                    clear kp0 kp1 kc0 kc1
                    go_wp2_with fail
                    refine (refOfV_v HF.out (HV.out.later (below_then HB3.out (below_then HBL.out hW)))).mono ?_
                    rintro e wq ⟨rfl, rfl⟩
                    go_wp2_with fail
                    exact hK _ _ rfl trivial (Below.refl _ _)
                  rintro v rfl K hK
                  go_simp
                  refine hK _ ?_
                  clear hK K
                  refine flowW_plain rfl ?_
                  go_big_quiet_step (fail)
                  refine wpQuiet_nil ?_
                  refine flowW_plain rfl ?_
                  go_big_quiet_step (fail)
                  refine wpQuiet_nil ?_
                  refine flowW_plain rfl ?_
                  go_big_quiet_step (fail)
                  refine wpQuiet_nil ?_
                  refine flowW_skip rfl ?_
                  go_big_quiet_step (fail)
                  refine wpQuiet_nil ?_
                  refine flowW_skip rfl ?_
                  go_big_quiet_step (fail)
                  refine wpQuiet_nil ?_
                  refine flowW_skip rfl ?_
                  go_big_quiet_step (fail)
                  refine wpQuiet_nil ?_
                  refine flowW_skip rfl ?_
                  go_big_quiet_step (fail)
                  refine wpQuiet_nil ?_
                  refine flowW_skip rfl ?_
                  go_big_quiet_step (fail)
                  refine wpQuiet_nil ?_
                  refine flowW_skip rfl ?_
                  go_big_quiet_step (fail)
                  refine wpQuiet_nil ?_
                  refine flowW_skip rfl ?_
                  go_big_quiet_step (fail)
                  refine wpQuiet_nil ?_
                  refine flowW_skip rfl ?_
                  go_big_quiet_step (fail)
                  refine wpQuiet_nil ?_
                  refine flowW_plain rfl ?_
                  go_big_quiet_step (fail)
                  refine wpQuiet_nil ?_
                  refine flowW_end fun w7 hw7 hF hD => ?_
                  clear kp0 kp1 kc0 kc1
                  simp only [List.drop_succ_cons, List.drop_zero]
                  have HBM := Lib.hid (below_then HBL.out hw7)
                  clear hw7 hF hD ex c0 c1 c2 c3 c4 c5 c6 c7 c8 c9 c10 p0 p1 p2 p3 p4 p5 p6 p7 p8 p9 p10
                  go_wp2_with fail
                  refine ⟨?_, ?measure⟩
                  (repeat apply Exists.intro)
                  refine ⟨?rel, ?eqs⟩
                  case eqs => repeat' (first | rfl | refine ⟨?_, ?_⟩)
                  case rel => exact ⟨k + 1, by omega, (by rw [HNX.out, HMQ.out]; simp), by go_num, HBM.out⟩
                  case measure => simp [intOf]; omega
              cases g3 : decide (x.seq ≤ seq)
              · have HMQ : Hid (manyQ dev f seq x = false) := by show _ = _; unfold manyQ; rw [g1, g2, g3]; rfl
                go_wp2_with fail
                refine wp_region_flow (by kernel_rfl) 30 [(17, ⟨fun v => v = .int .i64 f, fun _ _ _ _ => True⟩)] (by kernel_rfl) ?_ ?_ ?_
                · intro x hx
                  simp only [List.mem_cons, List.not_mem_nil, or_false] at hx
                  subst hx
                  exact ⟨_, rfl⟩
                · intro x hx v lo hi w w' h hb
                  simp only [List.mem_cons, List.not_mem_nil, or_false] at hx
                  subst hx
                  exact trivial
                · intro lo hi
                  have kp0 := cell_regrown p0
                  have kp1 := cell_regrown p1
                  have kc0 := cell_regrown c0
                  have kc1 := cell_regrown c1
                  refine flowW_plain rfl ?_
                  go_big_quiet_step (fail)
                  refine wpQuiet_nil ?_
                  refine flowW_plain rfl ?_
                  go_big_quiet_step (fail)
                  refine wpQuiet_nil ?_
                  refine flowW_plain rfl ?_
                  go_big_quiet_step (fail)
                  refine wpQuiet_nil ?_
                  refine flowW_plain rfl ?_
                  go_big_quiet_step (fail)
                  refine wpQuiet_nil ?_
                  refine flowW_plain rfl ?_
                  go_big_quiet_step (fail)
                  refine wpQuiet_nil ?_
                  refine flowW_plain rfl ?_
                  go_big_quiet_step (fail)
                  refine wpQuiet_nil ?_
                  refine flowW_plain rfl ?_
                  go_big_quiet_step (fail)
                  refine wpQuiet_nil ?_
                  refine flowW_plain rfl ?_
                  go_big_quiet_step (fail)
                  refine wpQuiet_nil ?_
                  refine flowW_plain rfl ?_
                  go_big_quiet_step (fail)
                  refine wpQuiet_nil ?_
                  refine flowW_plain rfl ?_
                  go_big_quiet_step (fail)
                  refine wpQuiet_nil ?_
                  refine flowW_plain rfl ?_
                  go_big_quiet_step (fail)
                  refine wpQuiet_nil ?_
                  refine flowW_plain rfl ?_
                  go_big_quiet_step (fail)
                  refine wpQuiet_nil ?_
                  refine flowW_plain rfl ?_
                  go_big_quiet_step (fail)
                  refine wpQuiet_nil ?_
                  refine flowW_plain rfl ?_
                  go_big_quiet_step (fail)
                  refine wpQuiet_nil ?_
                  refine flowW_plain rfl ?_
                  go_big_quiet_step (fail)
                  refine wpQuiet_nil ?_
                  refine flowW_plain rfl ?_
                  go_big_quiet_step (fail)
                  refine wpQuiet_nil ?_
                  refine flowW_plain rfl ?_
                  go_big_quiet_step (fail)
                  refine wpQuiet_nil ?_
                  refine flowW_call rfl rfl ?_ ?_
                  · intro W hW hF K hK
                    clear kp0 kp1 kc0 kc1
                    go_wp2_with fail
                    refine (refOfV_v HF.out (HV.out.later (below_then HB3.out (below_then HBL.out hW)))).mono ?_
                    rintro e wq ⟨rfl, rfl⟩
                    go_wp2_with fail
                    exact hK _ _ rfl trivial (Below.refl _ _)
                  rintro v rfl K hK
                  go_simp
                  refine hK _ ?_
                  clear hK K
                  refine flowW_plain rfl ?_
                  go_big_quiet_step (fail)
                  refine wpQuiet_nil ?_
                  refine flowW_plain rfl ?_
                  go_big_quiet_step (fail)
                  refine wpQuiet_nil ?_
                  refine flowW_plain rfl ?_
                  go_big_quiet_step (fail)
                  refine wpQuiet_nil ?_
                  refine flowW_plain rfl ?_
                  go_big_quiet_step (fail)
                  refine wpQuiet_nil ?_
                  refine flowW_plain rfl ?_
                  go_big_quiet_step (fail)
                  refine wpQuiet_nil ?_
                  refine flowW_plain rfl ?_
                  go_big_quiet_step (fail)
                  refine wpQuiet_nil ?_
                  refine flowW_plain rfl ?_
                  go_big_quiet_step (fail)
                  refine wpQuiet_nil ?_
                  refine flowW_plain rfl ?_
                  go_big_quiet_step (fail)
                  refine wpQuiet_nil ?_
                  refine flowW_plain rfl ?_
                  go_big_quiet_step (fail)
                  refine wpQuiet_nil ?_
                  refine flowW_plain rfl ?_
                  go_big_quiet_step (fail)
                  refine wpQuiet_nil ?_
                  refine flowW_plain rfl ?_
                  go_big_quiet_step (fail)
                  refine wpQuiet_nil ?_
                  refine flowW_plain rfl ?_
                  go_big_quiet_step (fail)
                  refine wpQuiet_nil ?_
                  refine flowW_end fun w7 hw7 hF hD => ?_
                  clear kp0 kp1 kc0 kc1
                  simp only [List.drop_succ_cons, List.drop_zero]
                  have HBM := Lib.hid (below_then HBL.out hw7)
                  clear hw7 hF hD ex c0 c1 c2 c3 c4 c5 c6 c7 c8 c9 c10 p0 p1 p2 p3 p4 p5 p6 p7 p8 p9 p10
                  go_wp2_with fail
                  refine ⟨?_, ?measure⟩
                  (repeat apply Exists.intro)
                  refine ⟨?rel, ?eqs⟩
                  case eqs => repeat' (first | rfl | refine ⟨?_, ?_⟩)
                  case rel => exact ⟨k + 1, by omega, (by rw [HNX.out, HMQ.out]; simp), by go_num, HBM.out⟩
                  case measure => simp [intOf]; omega
              · have HMQ : Hid (manyQ dev f seq x = true) := by show _ = _; unfold manyQ; rw [g1, g2, g3]; rfl
                go_wp2_with fail
                refine wp_region_flow (by kernel_rfl) 30 [(17, ⟨fun v => v = .int .i64 f, fun _ _ _ _ => True⟩)] (by kernel_rfl) ?_ ?_ ?_
                · intro x hx
                  simp only [List.mem_cons, List.not_mem_nil, or_false] at hx
                  subst hx
                  exact ⟨_, rfl⟩
                · intro x hx v lo hi w w' h hb
                  simp only [List.mem_cons, List.not_mem_nil, or_false] at hx
                  subst hx
                  exact trivial
                · intro lo hi
                  have kp0 := cell_regrown p0
                  have kp1 := cell_regrown p1
                  have kc0 := cell_regrown c0
                  have kc1 := cell_regrown c1
                  refine flowW_plain rfl ?_
                  go_big_quiet_step (fail)
                  refine wpQuiet_nil ?_
                  refine flowW_plain rfl ?_
                  go_big_quiet_step (fail)
                  refine wpQuiet_nil ?_
                  refine flowW_plain rfl ?_
                  go_big_quiet_step (fail)
                  refine wpQuiet_nil ?_
                  refine flowW_plain rfl ?_
                  go_big_quiet_step (fail)
                  refine wpQuiet_nil ?_
                  refine flowW_plain rfl ?_
                  go_big_quiet_step (fail)
                  refine wpQuiet_nil ?_
                  refine flowW_plain rfl ?_
                  go_big_quiet_step (fail)
                  refine wpQuiet_nil ?_
                  refine flowW_plain rfl ?_
                  go_big_quiet_step (fail)
                  refine wpQuiet_nil ?_
                  refine flowW_plain rfl ?_
                  go_big_quiet_step (fail)
                  refine wpQuiet_nil ?_
                  refine flowW_plain rfl ?_
                  go_big_quiet_step (fail)
                  refine wpQuiet_nil ?_
                  refine flowW_plain rfl ?_
                  go_big_quiet_step (fail)
                  refine wpQuiet_nil ?_
                  refine flowW_plain rfl ?_
                  go_big_quiet_step (fail)
                  refine wpQuiet_nil ?_
                  refine flowW_plain rfl ?_
                  go_big_quiet_step (fail)
                  refine wpQuiet_nil ?_
                  refine flowW_plain rfl ?_
                  go_big_quiet_step (fail)
                  refine wpQuiet_nil ?_
                  refine flowW_plain rfl ?_
                  go_big_quiet_step (fail)
                  refine wpQuiet_nil ?_
                  refine flowW_plain rfl ?_
                  go_big_quiet_step (fail)
                  refine wpQuiet_nil ?_
                  refine flowW_plain rfl ?_
                  go_big_quiet_step (fail)
                  refine wpQuiet_nil ?_
                  refine flowW_plain rfl ?_
                  go_big_quiet_step (fail)
                  refine wpQuiet_nil ?_
                  refine flowW_call rfl rfl ?_ ?_
                  · intro W hW hF K hK
                    clear kp0 kp1 kc0 kc1
                    go_wp2_with fail
                    refine (refOfV_v HF.out (HV.out.later (below_then HB3.out (below_then HBL.out hW)))).mono ?_
                    rintro e wq ⟨rfl, rfl⟩
                    go_wp2_with fail
                    exact hK _ _ rfl trivial (Below.refl _ _)
                  rintro v rfl K hK
                  go_simp
                  refine hK _ ?_
                  clear hK K
                  refine flowW_plain rfl ?_
                  go_big_quiet_step (fail)
                  refine wpQuiet_nil ?_
                  refine flowW_plain rfl ?_
                  go_big_quiet_step (fail)
                  refine wpQuiet_nil ?_
                  refine flowW_plain rfl ?_
                  go_big_quiet_step (fail)
                  refine wpQuiet_nil ?_
                  refine flowW_plain rfl ?_
                  go_big_quiet_step (fail)
                  refine wpQuiet_nil ?_
                  refine flowW_plain rfl ?_
                  go_big_quiet_step (fail)
                  refine wpQuiet_nil ?_
                  refine flowW_plain rfl ?_
                  go_big_quiet_step (fail)
                  refine wpQuiet_nil ?_
                  refine flowW_plain rfl ?_
                  go_big_quiet_step (fail)
                  refine wpQuiet_nil ?_
                  refine flowW_plain rfl ?_
                  go_big_quiet_step (fail)
                  refine wpQuiet_nil ?_
                  refine flowW_plain rfl ?_
                  go_big_quiet_step (fail)
                  refine wpQuiet_nil ?_
                  refine flowW_plain rfl ?_
                  go_big_quiet_step (fail)
                  refine wpQuiet_nil ?_
                  refine flowW_plain rfl ?_
                  go_big_quiet_step (fail)
                  refine wpQuiet_nil ?_
                  refine flowW_plain rfl ?_
                  go_big_quiet_step (fail)
                  refine wpQuiet_nil ?_
                  refine flowW_end fun w7 hw7 hF hD => ?_
                  clear kp0 kp1 kc0 kc1
                  simp only [List.drop_succ_cons, List.drop_zero]
                  have HBM := Lib.hid (below_then HBL.out hw7)
                  clear hw7 hF hD ex c0 c1 c2 c3 c4 c5 c6 c7 c8 c9 c10 p0 p1 p2 p3 p4 p5 p6 p7 p8 p9 p10
                  go_wp2_with fail
                  refine ⟨?_, ?measure⟩
                  (repeat apply Exists.intro)
                  refine ⟨?rel, ?eqs⟩
                  case eqs => repeat' (first | rfl | refine ⟨?_, ?_⟩)
                  case rel => exact ⟨k + 1, by omega, (by rw [HNX.out, HMQ.out]; simp), by go_num, HBM.out⟩
                  case measure => simp [intOf]; omega
            · have hkn : n = k := by omega
              subst hkn
              have hk2 : ¬ (n : Int) < (n : Int) := by omega
              rw [List.take_of_length_le (by have := HLN.out; omega)] at hM ⊢
              rw [hM] at HRR2 ⊢
              clear hM
              obtain ⟨z, hz⟩ : ∃ z, IntKind.i64.wrap (seq - f) = z := ⟨_, rfl⟩
              have hzz : z = seq - f := by rw [← hz]; exact IntWalk.i64_in _ (by omega)
              rw [← hzz] at HRR2
              have HZZ := Lib.hid hzz
              clear hzz
              cases g4 : ((M : Int) == z)
              all_goals
                have HRR : Hid (refAboveT line last l dev seq time deps = ((M : Int) == z)) := by show _ = _; rw [HRR2.out, Bool.eq_iff_iff, decide_eq_true_eq, beq_iff_eq]
                rw [g4] at HRR
                go_upto_region 23 with fail
                refine wp_region_flow (by kernel_rfl) 10 [(6, ⟨fun v => v = .int .i64 f, fun _ _ _ _ => True⟩)] (by kernel_rfl) ?_ ?_ ?_
                · intro x hx
                  simp only [List.mem_cons, List.not_mem_nil, or_false] at hx
                  subst hx
                  exact ⟨_, rfl⟩
                · intro x hx v lo hi w w' h hb
                  simp only [List.mem_cons, List.not_mem_nil, or_false] at hx
                  subst hx
                  exact trivial
                · intro lo hi
                  have kp0 := cell_regrown p0
                  have kp1 := cell_regrown p1
                  refine flowW_plain rfl ?_
                  go_big_quiet_step (fail)
                  refine wpQuiet_nil ?_
                  refine flowW_plain rfl ?_
                  go_big_quiet_step (fail)
                  refine wpQuiet_nil ?_
                  refine flowW_plain rfl ?_
                  go_big_quiet_step (fail)
                  refine wpQuiet_nil ?_
                  refine flowW_plain rfl ?_
                  go_big_quiet_step (fail)
                  refine wpQuiet_nil ?_
                  refine flowW_plain rfl ?_
                  go_big_quiet_step (fail)
                  refine wpQuiet_nil ?_
                  refine flowW_plain rfl ?_
                  go_big_quiet_step (fail)
                  refine wpQuiet_nil ?_
                  refine flowW_call rfl rfl ?_ ?_
                  · intro W hW hF K hK
                    clear kp0 kp1
                    go_wp2_with fail
                    refine (refOfV_v HF.out (HV.out.later (below_then HB3.out (below_then HBL.out hW)))).mono ?_
                    rintro e wq ⟨rfl, rfl⟩
                    go_wp2_with fail
                    exact hK _ _ rfl trivial (Below.refl _ _)
                  rintro v rfl K hK
                  go_simp
                  refine hK _ ?_
                  clear hK K
                  refine flowW_plain rfl ?_
                  go_big_quiet_step (fail)
                  refine wpQuiet_nil ?_
                  refine flowW_plain rfl ?_
                  go_big_quiet_step (fail)
                  refine wpQuiet_nil ?_
                  refine flowW_plain rfl ?_
                  go_big_quiet_step (fail)
                  refine wpQuiet_nil ?_
                  refine flowW_end fun w8 hw8 hF hD => ?_
                  clear kp0 kp1
                  simp only [List.drop_succ_cons, List.drop_zero]
                  have HB8 := Lib.hid (below_then HBL.out hw8)
                  clear hw8 hF hD p0 p1 p2 p3 p4 p5 p6 p7 p8 p9 p10
                  go_wp2_with fail
                  go_ret
                  exact ⟨ret_bool HRR.out.symm, below_then HB1.out (below_then HB3.out HB8.out)⟩
end Go.Proofs.YtnolbabpkhdpmaaGreat
