/-
  Layer 20 (past): the document's Closed. (printed by tools/gen_r22.py)
-/
import Derived.Test.YtnolbabpkhdpmaaGreatN8
namespace Go.Proofs.YtnolbabpkhdpmaaGreat
open Go.RowKit Go.Sort Go.Shelf Go.BigFrame
attribute [local irreducible] FlowW

theorem at_here {l : List TxS} {k : Nat} {x : TxS} {r : Int} (hx : l[k]? = some x) (h : AtP l x.dev x.seq r) : (r = (k : Int) ↔ findD x.dev x.seq (l.take k) = none) := by
  obtain ⟨hk, hxk⟩ := List.getElem?_eq_some_iff.1 hx
  rcases h with ⟨hno, -⟩ | ⟨j, y, rfl, hy, hf, hj⟩
  · exact absurd ⟨rfl, rfl⟩ (findD_none.1 hno x (hxk ▸ List.getElem_mem hk))
  obtain ⟨hjl, hyj⟩ := List.getElem?_eq_some_iff.1 hy
  have hyd := findD_some hf
  constructor
  · intro e
    have : j = k := by omega
    rw [← this]; exact hj
  · intro hn
    rcases Nat.lt_trichotomy j k with h1 | h1 | h1
    · exact absurd ⟨hyd.2.1.symm, hyd.2.2.symm⟩ (findD_none.1 hn y (List.mem_take_iff_getElem.2 ⟨j, by omega, hyj⟩))
    · rw [h1]
    · exact absurd ⟨rfl, rfl⟩ (findD_none.1 hj x (List.mem_take_iff_getElem.2 ⟨k, by omega, hxk⟩))
theorem refAbove_b {dev seq time note whom upto : Int} {fm : Bool} {ad ao ae ah : Option Addr} {nd cd no co ne ce nh ch : Nat} {line deps : List Int} {last : Int} {vl vv : Value} {l : List TxS} {w : World} {r : Bool} (hr : refAboveT line last l dev seq time deps = r) (hv : Rd w vv line.length (line.map ic)) (hl : LRd w vl l) (hd : Rd w (.slice ad nd cd) deps.length (deps.map ic)) (hn : l.length ≤ 1000000) (h1 : line.length ≤ 1000000) (h2 : deps.length ≤ 1000000) (h3 : ∀ x ∈ l, x.nd ≤ 1000000) (h4 : 0 ≤ ofV line dev ∧ ofV line dev ≤ 1048576) (h5 : 1 ≤ seq ∧ seq ≤ 1048576) :
    Calls Tryz.prog 28 #[vv, .int .i64 last, vl, .agg #[.int .i64 dev, .int .i64 seq, .int .i64 time, .slice ad nd cd, .slice ao no co, .slice ae ne ce, .bool fm, .slice ah nh ch, .int .i64 note, .int .i64 whom, .int .i64 upto]] w fun e w' => e = .returned (.bool r) ∧ Below w.heap.size w w' := hr ▸ refAbove_any w hv hl hd hn h1 h2 h3 h4 h5
theorem inQ3_mk {n a b : Int} (h1 : a ≤ n) (h2 : n ≤ b) : inQ3 n a b = true := by unfold inQ3; simp [h1, h2]
set_option maxRecDepth 100000 in
set_option maxHeartbeats 8000000 in
theorem refClosed_any {vl vv : Value} {line : List Int} {last : Int} {l : List TxS} (w : World) (hv : Rd w vv line.length (line.map ic)) (hl : LRd w vl l) (hn : l.length ≤ 1000000) (h1 : line.length ≤ 1000000) (h3 : ∀ x ∈ l, x.nd ≤ 1000000) :
    Calls Tryz.prog 7 #[vv, .int .i64 last, vl] w fun e w' => e = .returned (.bool (refClosedT line last l)) ∧ Below w.heap.size w w' := by
  obtain ⟨la, lc, rfl, hnc, hcm, -, -⟩ := id hl.1
  unfold maxLen at hcm
  obtain ⟨n, hln⟩ : ∃ n, l.length = n := ⟨_, rfl⟩
  have HL := Lib.hid hl
  have HLN := Lib.hid hln
  rw [hln] at hnc ⊢
  rw [hln] at hl
  replace HL := Lib.hid hl
  have HV := Lib.hid hv
  have HNL := Lib.hid hn
  have H1 := Lib.hid h1
  have H3 := Lib.hid h3
  clear hl hv hn h1 h3 hln
  go_enter Tryz.func7, Tryz.ntmps7
  go_wp2_with fail
  cases hu : rightVec line
  · have HU := Lib.hid hu
    have HRR : Hid (refClosedT line last l = false) := by show _ = _; unfold refClosedT; rw [if_pos (.inl hu)]
    clear hu
    refine (refVecRight_b false HU.out HV.out).mono ?_
    rintro e w9 ⟨rfl, rfl⟩
    go_wp2_with fail
    go_ret
    exact ⟨ret_bool HRR.out.symm, Below.refl _ _⟩
  have HU := Lib.hid hu
  clear hu
  refine (refVecRight_b true HU.out HV.out).mono ?_
  rintro e w9 ⟨rfl, rfl⟩
  cases ha : decide (last < 0)
  case true =>
    have HRR : Hid (refClosedT line last l = false) := by show _ = _; unfold refClosedT; rw [if_pos (.inr (by unfold inQ3; rw [decide_eq_false (by have := of_decide_eq_true ha; omega)]; rfl))]
    go_wp2_with fail
    go_ret
    exact ⟨ret_bool HRR.out.symm, Below.refl _ _⟩
  cases hb : decide (1125899906842624 < last)
  case true =>
    have HRR : Hid (refClosedT line last l = false) := by show _ = _; unfold refClosedT; rw [if_pos (.inr (by unfold inQ3; rw [decide_eq_false (p := last ≤ 1125899906842624) (by have := of_decide_eq_true hb; omega), Bool.and_false]))]
    go_wp2_with fail
    go_ret
    exact ⟨ret_bool HRR.out.symm, Below.refl _ _⟩
  have HRR0 : Hid (refClosedT line last l = if (List.range l.length).all (fun k => refOne l k (l.getD k default)) = false then false else l.all (refMay line last l)) := by
    show _ = _
    unfold refClosedT
    rw [if_neg]
    rintro (e | e)
    · rw [HU.out] at e; cases e
    · rw [inQ3_mk (by have := of_decide_eq_false ha; omega) (by have := of_decide_eq_false hb; omega)] at e; cases e
  have HLI : Hid (∀ d, 0 ≤ ofV line d ∧ ofV line d ≤ 1048576) := (rightVec_bd HU.out).2
  go_wp2_with fail
  clear ha hb
  go_loopw [8] (fun vi wr => ∃ k : Nat, k ≤ n ∧ vi = .int .i64 k ∧ Hid (∀ j : Nat, j < k → refOne l j (l.getD j default) = true) ∧ Hid (Below w.heap.size w wr)) (fun vi _ => n - (intOf vi).toNat)
  case atStart => exact ⟨0, Nat.zero_le _, by go_num, (fun j hj => absurd hj (by omega)), Below.refl _ _⟩
  case round =>
    obtain ⟨k, hk, rfl, hall, HB⟩ := hrel
    rename World => wr
    by_cases hlt : k < n
    · have hkl : k < l.length := by have := HLN.out; omega
      have hk2 : (k : Int) < (n : Int) := by omega
      have hk0 : (0 : Int) ≤ (k : Int) := by omega
      obtain ⟨x, hx⟩ : ∃ x, l[k]'hkl = x := ⟨_, rfl⟩
      have hlr := (HL.out.later HB.out).1
      rw [HLN.out] at hlr
      obtain ⟨bx, ox, ex, c0, c1, c2, c3, c4, c5, c6, c7, c8, c9, c10, -⟩ := rd_txs hlr HLN.out.symm k hkl hx
      have HTx : Hid (l.take (k + 1) = l.take k ++ [x]) := by show _ = _; rw [List.take_succ_eq_append_getElem hkl, hx]
      have HGx : Hid (l[k]? = some x) := by show _ = _; rw [List.getElem?_eq_getElem hkl, hx]
      have HIx : Hid (x ∈ l) := by show _ ∈ _; rw [← hx]; exact List.getElem_mem hkl
      clear hlr hx
      have HXR := Lib.hid (HL.out.2 x HIx.out)
      have HGD : Hid (l.getD k default = x) := by show _ = _; rw [List.getD_eq_getElem?_getD, HGx.out]; rfl
      have HBAD : Hid (refOne l k x = false → refClosedT line last l = false) := fun h => HRR0.out.trans (if_pos (List.all_eq_false.2 ⟨k, List.mem_range.2 hkl, by rw [HGD.out, h]; simp⟩))
      obtain ⟨w4, hw4⟩ : ∃ w4, wr.alloc (.cells #[.int .i64 x.dev, .int .i64 x.seq, .int .i64 x.time, .slice x.ad x.nd x.cd, .slice x.ao x.no x.co, .slice x.ae x.ne x.ce, .bool x.fm, .slice x.ah x.nh x.ch, .int .i64 x.note, .int .i64 x.whom, .int .i64 x.upto] 31) = w4 := ⟨_, rfl⟩
      have hbw4 : Below wr.heap.size wr w4 := by rw [← hw4]; exact below_alloc _ _
      have bw4 : Bx w4 wr.heap.size #[.int .i64 x.dev, .int .i64 x.seq, .int .i64 x.time, .slice x.ad x.nd x.cd, .slice x.ao x.no x.co, .slice x.ae x.ne x.ce, .bool x.fm, .slice x.ah x.nh x.ch, .int .i64 x.note, .int .i64 x.whom, .int .i64 x.upto] 31 := by rw [← hw4]; exact bx_new rfl
      have Hw4 := Lib.hid hw4
      have HQ := Lib.hid bw4
      have HB4 := Lib.hid (below_then HB.out hbw4)
      clear hw4 hbw4 bw4
      go_upto_region 8 with fail
      rw [Hw4.out]
      clear c0 c1 c2 c3 c4 c5 c6 c7 c8 c9 c10 ex
      obtain ⟨u, hu⟩ : ∃ u, rightVec x.deps = u := ⟨_, rfl⟩
      have HUX := Lib.hid hu
      clear hu
      have q0 := cell_of_box (bx_later (Below.refl w4.heap.size w4) HQ.out) 0 rfl
      have q1 := cell_of_box (bx_later (Below.refl w4.heap.size w4) HQ.out) 1 rfl
      have q2 := cell_of_box (bx_later (Below.refl w4.heap.size w4) HQ.out) 2 rfl
      have q3 := cell_of_box (bx_later (Below.refl w4.heap.size w4) HQ.out) 3 rfl
      have q4 := cell_of_box (bx_later (Below.refl w4.heap.size w4) HQ.out) 4 rfl
      have q5 := cell_of_box (bx_later (Below.refl w4.heap.size w4) HQ.out) 5 rfl
      have q6 := cell_of_box (bx_later (Below.refl w4.heap.size w4) HQ.out) 6 rfl
      have q7 := cell_of_box (bx_later (Below.refl w4.heap.size w4) HQ.out) 7 rfl
      have q8 := cell_of_box (bx_later (Below.refl w4.heap.size w4) HQ.out) 8 rfl
      have q9 := cell_of_box (bx_later (Below.refl w4.heap.size w4) HQ.out) 9 rfl
      have q10 := cell_of_box (bx_later (Below.refl w4.heap.size w4) HQ.out) 10 rfl
      go_wp2_with fail
      refine (refVecRight_b u HUX.out (HXR.out.later HB4.out).deps').mono ?_
      rintro e w9 ⟨rfl, rfl⟩
      go_wp2_with fail
      refine (refAt_any _ (HL.out.later HB4.out)).mono ?_
      rintro e w9 ⟨r, hr, rfl, rfl⟩
      have hat := at_here HGx.out hr
      clear hr
      cases hrk : (r == (k : Int))
      · have hrk2 : (r != (k : Int)) = true := by rw [bne, hrk]; rfl
        have HRR : Hid (refClosedT line last l = false) := HBAD.out (by
          unfold refOne
          rw [if_pos]
          cases hq : findD x.dev x.seq (l.take k) with
          | none => rw [hat.2 hq] at hrk; simp at hrk
          | some y => rfl)
        clear hat
        go_wp2_with fail
        go_ret
        exact ⟨ret_bool HRR.out.symm, HB4.out⟩
      have hrk2 : (r != (k : Int)) = false := by rw [bne, hrk]; rfl
      have HNF : Hid (findD x.dev x.seq (l.take k) = none) := hat.1 (eq_of_beq hrk)
      have HON : Hid (refOne l k x = if inQ3 x.dev 1 64 = false then false else if inQ3 x.seq 1 1048576 = false then false else if rightVec x.deps = false then false else decide (ofV x.deps x.dev = x.seq - 1)) := by show _ = _; unfold refOne; rw [HNF.out]; rfl
      clear hat
      cases g1 : decide (x.dev < 1)
      case true =>
        have HRR : Hid (refClosedT line last l = false) := HBAD.out (by rw [HON.out, if_pos (by unfold inQ3; rw [decide_eq_false (by have := of_decide_eq_true g1; omega)]; rfl)])
        go_wp2_with fail
        go_ret
        exact ⟨ret_bool HRR.out.symm, HB4.out⟩
      cases g2 : decide (64 < x.dev)
      case true =>
        have HRR : Hid (refClosedT line last l = false) := HBAD.out (by rw [HON.out, if_pos (by unfold inQ3; rw [decide_eq_false (p := x.dev ≤ 64) (by have := of_decide_eq_true g2; omega), Bool.and_false])])
        go_wp2_with fail
        go_ret
        exact ⟨ret_bool HRR.out.symm, HB4.out⟩
      have HI1 : Hid (inQ3 x.dev 1 64 = true) := inQ3_mk (by have := of_decide_eq_false g1; omega) (by have := of_decide_eq_false g2; omega)
      cases g3 : decide (x.seq < 1)
      case true =>
        have HRR : Hid (refClosedT line last l = false) := HBAD.out (by rw [HON.out, HI1.out, if_neg (by simp), if_pos (by unfold inQ3; rw [decide_eq_false (by have := of_decide_eq_true g3; omega)]; rfl)])
        go_wp2_with fail
        go_ret
        exact ⟨ret_bool HRR.out.symm, HB4.out⟩
      cases g4 : decide (1048576 < x.seq)
      case true =>
        have HRR : Hid (refClosedT line last l = false) := HBAD.out (by rw [HON.out, HI1.out, if_neg (by simp), if_pos (by unfold inQ3; rw [decide_eq_false (p := x.seq ≤ 1048576) (by have := of_decide_eq_true g4; omega), Bool.and_false])])
        go_wp2_with fail
        go_ret
        exact ⟨ret_bool HRR.out.symm, HB4.out⟩
      have hs1 : 1 ≤ x.seq := by have := of_decide_eq_false g3; omega
      have hs2 : x.seq ≤ 1048576 := by have := of_decide_eq_false g4; omega
      have HI2 : Hid (inQ3 x.seq 1 1048576 = true) := inQ3_mk hs1 hs2
      cases u
      · have HRR : Hid (refClosedT line last l = false) := HBAD.out (by rw [HON.out, HI1.out, HI2.out, if_neg (by simp), if_neg (by simp), if_pos HUX.out])
        go_wp2_with fail
        go_ret
        exact ⟨ret_bool HRR.out.symm, HB4.out⟩
      have HON2 : Hid (refOne l k x = decide (ofV x.deps x.dev = x.seq - 1)) := by show _ = _; rw [HON.out, HI1.out, HI2.out, if_neg (by simp), if_neg (by simp), if_neg (by rw [HUX.out]; simp)]
      obtain ⟨f, hf⟩ : ∃ f, ofV x.deps x.dev = f := ⟨_, rfl⟩
      have HFD := Lib.hid hf
      obtain ⟨z, hz⟩ : ∃ z, IntKind.i64.wrap (x.seq - 1) = z := ⟨_, rfl⟩
      have hzz : z = x.seq - 1 := by rw [← hz]; exact IntWalk.i64_in _ (by omega)
      rw [hf, ← hzz] at HON2
      clear hf hzz
      go_upto_region 11 with fail
      clear g1 g2 g3 g4 hrk hrk2
      cases g5 : (f == z)
      · have g5' : (f != z) = true := by rw [bne, g5]; rfl
        have HRR : Hid (refClosedT line last l = false) := HBAD.out (by rw [HON2.out, decide_eq_false (by simpa using g5)])
        refine wp_region_flow (by kernel_rfl) 9 [(4, ⟨fun v => v = .int .i64 f, fun _ _ _ _ => True⟩)] (by kernel_rfl) ?_ ?_ ?_
        · intro x hx
          simp only [List.mem_cons, List.not_mem_nil, or_false] at hx
          subst hx
          exact ⟨_, rfl⟩
        · intro x hx v lo hi w w' h hb
          simp only [List.mem_cons, List.not_mem_nil, or_false] at hx
          subst hx
          exact trivial
        · intro lo hi
          have kq0 := cell_regrown q0
          have kq1 := cell_regrown q1
          have kq2 := cell_regrown q2
          have kq3 := cell_regrown q3
          have kq4 := cell_regrown q4
          have kq5 := cell_regrown q5
          have kq6 := cell_regrown q6
          have kq7 := cell_regrown q7
          have kq8 := cell_regrown q8
          have kq9 := cell_regrown q9
          have kq10 := cell_regrown q10
          refine flowW_plain rfl ?_
          go_big_quiet_step (fail)
          refine wpQuiet_nil ?_
          refine flowW_plain rfl ?_
          go_big_quiet_step (fail)
          refine wpQuiet_nil ?_
          refine flowW_plain rfl ?_
          go_big_quiet_step (fail)
          refine wpQuiet_nil ?_
          refine flowW_plain rfl ?_
          go_big_quiet_step (fail)
          refine wpQuiet_nil ?_
          refine flowW_call rfl rfl ?_ ?_
          · intro W hW hF K hK
            clear kq0 kq1 kq2 kq3 kq4 kq5 kq6 kq7 kq8 kq9 kq10
            go_wp2_with fail
            refine (refOfV_v HFD.out (HXR.out.later (below_then HB4.out hW)).deps').mono ?_
            rintro e wq ⟨rfl, rfl⟩
            go_wp2_with fail
            exact hK _ _ rfl trivial (Below.refl _ _)
          rintro v rfl K hK
          go_simp
          refine hK _ ?_
          clear hK K
          refine flowW_plain rfl ?_
          go_big_quiet_step (fail)
          refine wpQuiet_nil ?_
          refine flowW_plain rfl ?_
          go_big_quiet_step (fail)
          refine wpQuiet_nil ?_
          refine flowW_plain rfl ?_
          go_big_quiet_step (fail)
          refine wpQuiet_nil ?_
          refine flowW_plain rfl ?_
          go_big_quiet_step (fail)
          refine wpQuiet_nil ?_
          refine flowW_end fun w5 hw5 hF hD => ?_
          clear kq0 kq1 kq2 kq3 kq4 kq5 kq6 kq7 kq8 kq9 kq10
          simp only [List.drop_succ_cons, List.drop_zero]
          have HB5 := Lib.hid (below_then HB4.out hw5)
          clear hw5 hF hD q0 q1 q2 q3 q4 q5 q6 q7 q8 q9 q10
          go_wp2_with fail
          go_ret
          exact ⟨ret_bool HRR.out.symm, HB5.out⟩
      · have g5' : (f != z) = false := by rw [bne, g5]; rfl
        have HOK : Hid (refOne l k (l.getD k default) = true) := by show _ = _; rw [HGD.out, HON2.out, decide_eq_true (eq_of_beq g5)]
        refine wp_region_flow (by kernel_rfl) 9 [(4, ⟨fun v => v = .int .i64 f, fun _ _ _ _ => True⟩)] (by kernel_rfl) ?_ ?_ ?_
        · intro x hx
          simp only [List.mem_cons, List.not_mem_nil, or_false] at hx
          subst hx
          exact ⟨_, rfl⟩
        · intro x hx v lo hi w w' h hb
          simp only [List.mem_cons, List.not_mem_nil, or_false] at hx
          subst hx
          exact trivial
        · intro lo hi
          have kq0 := cell_regrown q0
          have kq1 := cell_regrown q1
          have kq2 := cell_regrown q2
          have kq3 := cell_regrown q3
          have kq4 := cell_regrown q4
          have kq5 := cell_regrown q5
          have kq6 := cell_regrown q6
          have kq7 := cell_regrown q7
          have kq8 := cell_regrown q8
          have kq9 := cell_regrown q9
          have kq10 := cell_regrown q10
          refine flowW_plain rfl ?_
          go_big_quiet_step (fail)
          refine wpQuiet_nil ?_
          refine flowW_plain rfl ?_
          go_big_quiet_step (fail)
          refine wpQuiet_nil ?_
          refine flowW_plain rfl ?_
          go_big_quiet_step (fail)
          refine wpQuiet_nil ?_
          refine flowW_plain rfl ?_
          go_big_quiet_step (fail)
          refine wpQuiet_nil ?_
          refine flowW_call rfl rfl ?_ ?_
          · intro W hW hF K hK
            clear kq0 kq1 kq2 kq3 kq4 kq5 kq6 kq7 kq8 kq9 kq10
            go_wp2_with fail
            refine (refOfV_v HFD.out (HXR.out.later (below_then HB4.out hW)).deps').mono ?_
            rintro e wq ⟨rfl, rfl⟩
            go_wp2_with fail
            exact hK _ _ rfl trivial (Below.refl _ _)
          rintro v rfl K hK
          go_simp
          refine hK _ ?_
          clear hK K
          refine flowW_plain rfl ?_
          go_big_quiet_step (fail)
          refine wpQuiet_nil ?_
          refine flowW_plain rfl ?_
          go_big_quiet_step (fail)
          refine wpQuiet_nil ?_
          refine flowW_plain rfl ?_
          go_big_quiet_step (fail)
          refine wpQuiet_nil ?_
          refine flowW_plain rfl ?_
          go_big_quiet_step (fail)
          refine wpQuiet_nil ?_
          refine flowW_end fun w5 hw5 hF hD => ?_
          clear kq0 kq1 kq2 kq3 kq4 kq5 kq6 kq7 kq8 kq9 kq10
          simp only [List.drop_succ_cons, List.drop_zero]
          have HB5 := Lib.hid (below_then HB4.out hw5)
          clear hw5 hF hD q0 q1 q2 q3 q4 q5 q6 q7 q8 q9 q10
          go_wp2_with fail
          go_roundw
          case rel => exact ⟨k + 1, by omega, by go_num, (fun j hj => by rcases Nat.lt_or_ge j k with h | h; exact hall.out j h; rw [show j = k by omega]; exact HOK.out), HB5.out⟩
          case measure => simp [intOf]; omega
    · have hkn : n = k := by omega
      subst hkn
      have hk2 : ¬ (n : Int) < (n : Int) := by omega
      have HALL : Hid ((List.range l.length).all (fun k => refOne l k (l.getD k default)) = true) := List.all_eq_true.2 fun j hj => hall.out j (by have := List.mem_range.1 hj; have := HLN.out; omega)
      have HRR1 : Hid (refClosedT line last l = l.all (refMay line last l)) := HRR0.out.trans (if_neg (by rw [HALL.out]; simp))
      have HSEQ : Hid (∀ x ∈ l, 1 ≤ x.seq ∧ x.seq ≤ 1048576) := fun x hx => by
        obtain ⟨j, hj, rfl⟩ := List.mem_iff_getElem.1 hx
        have := (refOne_iff (line := line)).1 (List.all_eq_true.1 HALL.out j (List.mem_range.2 hj))
        rw [List.getD_eq_getElem?_getD, List.getElem?_eq_getElem hj] at this
        exact ⟨this.2.seq1, this.2.seq2⟩
      have HB0 := HB
      clear hall HB hlt hk
      go_wp2_with fail
      go_loopw [11] (fun vi wr => ∃ k : Nat, k ≤ n ∧ vi = .int .i64 k ∧ Hid (∀ y ∈ l.take k, refMay line last l y = true) ∧ Hid (Below w.heap.size w wr)) (fun vi _ => n - (intOf vi).toNat)
      case atStart => exact ⟨0, Nat.zero_le _, by go_num, (fun y hy => by simp at hy), HB0.out⟩
      case round =>
        obtain ⟨k, hk, rfl, hall, HB⟩ := hrel
        rename World => wz
        by_cases hlt : k < n
        · have hkl : k < l.length := by have := HLN.out; omega
          have hk2 : (k : Int) < (n : Int) := by omega
          have hk0 : (0 : Int) ≤ (k : Int) := by omega
          obtain ⟨x, hx⟩ : ∃ x, l[k]'hkl = x := ⟨_, rfl⟩
          have hlr := (HL.out.later HB.out).1
          rw [HLN.out] at hlr
          obtain ⟨bx, ox, ex, c0, c1, c2, c3, c4, c5, c6, c7, c8, c9, c10, -⟩ := rd_txs hlr HLN.out.symm k hkl hx
          have HTx : Hid (l.take (k + 1) = l.take k ++ [x]) := by show _ = _; rw [List.take_succ_eq_append_getElem hkl, hx]
          have HGx : Hid (l[k]? = some x) := by show _ = _; rw [List.getElem?_eq_getElem hkl, hx]
          have HIx : Hid (x ∈ l) := by show _ ∈ _; rw [← hx]; exact List.getElem_mem hkl
          clear hlr hx
          have HXR := Lib.hid (HL.out.2 x HIx.out)
          have HXN : Hid (x.deps.length ≤ 1000000) := by show _ ≤ _; rw [← HXR.out.hnd]; exact H3.out x HIx.out
          have HBAD : Hid (refMay line last l x = false → refClosedT line last l = false) := fun h => HRR1.out.trans (List.all_eq_false.2 ⟨x, HIx.out, by rw [h]; simp⟩)
          have HNXT : Hid (refMay line last l x = true → ∀ y ∈ l.take (k + 1), refMay line last l y = true) := fun h y hy => by
            rw [HTx.out] at hy
            rcases List.mem_append.1 hy with hy | hy
            · exact hall.out y hy
            · rw [List.mem_singleton.1 hy]; exact h
          obtain ⟨w4, hw4⟩ : ∃ w4, wz.alloc (.cells #[.int .i64 x.dev, .int .i64 x.seq, .int .i64 x.time, .slice x.ad x.nd x.cd, .slice x.ao x.no x.co, .slice x.ae x.ne x.ce, .bool x.fm, .slice x.ah x.nh x.ch, .int .i64 x.note, .int .i64 x.whom, .int .i64 x.upto] 31) = w4 := ⟨_, rfl⟩
          have hbw4 : Below wz.heap.size wz w4 := by rw [← hw4]; exact below_alloc _ _
          have bw4 : Bx w4 wz.heap.size #[.int .i64 x.dev, .int .i64 x.seq, .int .i64 x.time, .slice x.ad x.nd x.cd, .slice x.ao x.no x.co, .slice x.ae x.ne x.ce, .bool x.fm, .slice x.ah x.nh x.ch, .int .i64 x.note, .int .i64 x.whom, .int .i64 x.upto] 31 := by rw [← hw4]; exact bx_new rfl
          have Hw4 := Lib.hid hw4
          have HQ := Lib.hid bw4
          have HB4 := Lib.hid (below_then HB.out hbw4)
          clear hw4 hbw4 bw4 hall
          go_upto_region 17 with fail
          rw [Hw4.out]
          clear c0 c1 c2 c3 c4 c5 c6 c7 c8 c9 c10 ex
          obtain ⟨a, ha⟩ : ∃ a, refAboveT line last l x.dev x.seq x.time x.deps = a := ⟨_, rfl⟩
          obtain ⟨u, hu⟩ : ∃ u, uptoB x.deps line = u := ⟨_, rfl⟩
          obtain ⟨f, hf⟩ : ∃ f, ofV line x.dev = f := ⟨_, rfl⟩
          have HMY : Hid (refMay line last l x = if x.seq ≤ f then u && !x.fm else a) := by show _ = _; unfold refMay; rw [ha, hu, hf]
          have HA := Lib.hid ha
          have HUX := Lib.hid hu
          have HFD := Lib.hid hf
          clear ha hu hf
          have q0 := cell_of_box (bx_later (Below.refl w4.heap.size w4) HQ.out) 0 rfl
          have q1 := cell_of_box (bx_later (Below.refl w4.heap.size w4) HQ.out) 1 rfl
          have q2 := cell_of_box (bx_later (Below.refl w4.heap.size w4) HQ.out) 2 rfl
          have q3 := cell_of_box (bx_later (Below.refl w4.heap.size w4) HQ.out) 3 rfl
          have q4 := cell_of_box (bx_later (Below.refl w4.heap.size w4) HQ.out) 4 rfl
          have q5 := cell_of_box (bx_later (Below.refl w4.heap.size w4) HQ.out) 5 rfl
          have q6 := cell_of_box (bx_later (Below.refl w4.heap.size w4) HQ.out) 6 rfl
          have q7 := cell_of_box (bx_later (Below.refl w4.heap.size w4) HQ.out) 7 rfl
          have q8 := cell_of_box (bx_later (Below.refl w4.heap.size w4) HQ.out) 8 rfl
          have q9 := cell_of_box (bx_later (Below.refl w4.heap.size w4) HQ.out) 9 rfl
          have q10 := cell_of_box (bx_later (Below.refl w4.heap.size w4) HQ.out) 10 rfl
          go_wp2_with fail
          refine (refAbove_b HA.out (HV.out.later HB4.out) (HL.out.later HB4.out) (HXR.out.later HB4.out).deps' HNL.out H1.out HXN.out H3.out (HLI.out _) (HSEQ.out x HIx.out)).mono ?_
          rintro e w5 ⟨rfl, hb5⟩
          have HB45 := Lib.hid hb5
          have HB5 := Lib.hid (below_then HB4.out hb5)
          clear hb5 q0 q1 q2 q3 q4 q5 q6 q7 q8 q9 q10
          have q0 := cell_of_box (bx_later HB45.out HQ.out) 0 rfl
          have q1 := cell_of_box (bx_later HB45.out HQ.out) 1 rfl
          have q2 := cell_of_box (bx_later HB45.out HQ.out) 2 rfl
          have q3 := cell_of_box (bx_later HB45.out HQ.out) 3 rfl
          have q4 := cell_of_box (bx_later HB45.out HQ.out) 4 rfl
          have q5 := cell_of_box (bx_later HB45.out HQ.out) 5 rfl
          have q6 := cell_of_box (bx_later HB45.out HQ.out) 6 rfl
          have q7 := cell_of_box (bx_later HB45.out HQ.out) 7 rfl
          have q8 := cell_of_box (bx_later HB45.out HQ.out) 8 rfl
          have q9 := cell_of_box (bx_later HB45.out HQ.out) 9 rfl
          have q10 := cell_of_box (bx_later HB45.out HQ.out) 10 rfl
          go_wp2_with fail
          refine (refUpto_b u HUX.out (HXR.out.later HB5.out).deps' (HV.out.later HB5.out) HXN.out H1.out).mono ?_
          rintro e w9 ⟨rfl, rfl⟩
          go_wp2_with fail
          cases hle : decide (x.seq ≤ f)
          · have HMY2 : Hid (refMay line last l x = a) := HMY.out.trans (if_neg (of_decide_eq_false hle))
            refine wp_region_flow (by kernel_rfl) 7 [(5, ⟨fun v => v = .int .i64 f, fun _ _ _ _ => True⟩)] (by kernel_rfl) ?_ ?_ ?_
            · intro x hx
              simp only [List.mem_cons, List.not_mem_nil, or_false] at hx
              subst hx
              exact ⟨_, rfl⟩
            · intro x hx v lo hi w w' h hb
              simp only [List.mem_cons, List.not_mem_nil, or_false] at hx
              subst hx
              exact trivial
            · intro lo hi
              have kq0 := cell_regrown q0
              have kq1 := cell_regrown q1
              have kq2 := cell_regrown q2
              have kq3 := cell_regrown q3
              have kq4 := cell_regrown q4
              have kq5 := cell_regrown q5
              have kq6 := cell_regrown q6
              have kq7 := cell_regrown q7
              have kq8 := cell_regrown q8
              have kq9 := cell_regrown q9
              have kq10 := cell_regrown q10
              refine flowW_plain rfl ?_
              go_big_quiet_step (fail)
              refine wpQuiet_nil ?_
              refine flowW_plain rfl ?_
              go_big_quiet_step (fail)
              refine wpQuiet_nil ?_
              refine flowW_plain rfl ?_
              go_big_quiet_step (fail)
              refine wpQuiet_nil ?_
              refine flowW_plain rfl ?_
              go_big_quiet_step (fail)
              refine wpQuiet_nil ?_
              refine flowW_plain rfl ?_
              go_big_quiet_step (fail)
              refine wpQuiet_nil ?_
              refine flowW_call rfl rfl ?_ ?_
              · intro W hW hF K hK
                clear kq0 kq1 kq2 kq3 kq4 kq5 kq6 kq7 kq8 kq9 kq10
                go_wp2_with fail
                refine (refOfV_v HFD.out (HV.out.later (below_then HB5.out hW))).mono ?_
                rintro e wq ⟨rfl, rfl⟩
                go_wp2_with fail
                exact hK _ _ rfl trivial (Below.refl _ _)
              rintro v rfl K hK
              go_simp
              refine hK _ ?_
              clear hK K
              refine flowW_plain rfl ?_
              go_big_quiet_step (fail)
              refine wpQuiet_nil ?_
              refine flowW_end fun w6 hw6 hF hD => ?_
              clear kq0 kq1 kq2 kq3 kq4 kq5 kq6 kq7 kq8 kq9 kq10
              simp only [List.drop_succ_cons, List.drop_zero]
              have HB6 := Lib.hid (below_then HB5.out hw6)
              clear hw6 hF hD q0 q1 q2 q3 q4 q5 q6 q7 q8 q9 q10
              cases a
              · have HRR := Lib.hid (HBAD.out HMY2.out)
                go_wp2_with fail
                go_ret
                exact ⟨ret_bool HRR.out.symm, HB6.out⟩
              · go_wp2_with fail
                go_roundw
                case rel => exact ⟨k + 1, by omega, by go_num, HNXT.out HMY2.out, HB6.out⟩
                case measure => simp [intOf]; omega
          · have HMY2 : Hid (refMay line last l x = (u && !x.fm)) := HMY.out.trans (if_pos (of_decide_eq_true hle))
            refine wp_region_flow (by kernel_rfl) 7 [(5, ⟨fun v => v = .int .i64 f, fun _ _ _ _ => True⟩)] (by kernel_rfl) ?_ ?_ ?_
            · intro x hx
              simp only [List.mem_cons, List.not_mem_nil, or_false] at hx
              subst hx
              exact ⟨_, rfl⟩
            · intro x hx v lo hi w w' h hb
              simp only [List.mem_cons, List.not_mem_nil, or_false] at hx
              subst hx
              exact trivial
            · intro lo hi
              have kq0 := cell_regrown q0
              have kq1 := cell_regrown q1
              have kq2 := cell_regrown q2
              have kq3 := cell_regrown q3
              have kq4 := cell_regrown q4
              have kq5 := cell_regrown q5
              have kq6 := cell_regrown q6
              have kq7 := cell_regrown q7
              have kq8 := cell_regrown q8
              have kq9 := cell_regrown q9
              have kq10 := cell_regrown q10
              refine flowW_plain rfl ?_
              go_big_quiet_step (fail)
              refine wpQuiet_nil ?_
              refine flowW_plain rfl ?_
              go_big_quiet_step (fail)
              refine wpQuiet_nil ?_
              refine flowW_plain rfl ?_
              go_big_quiet_step (fail)
              refine wpQuiet_nil ?_
              refine flowW_plain rfl ?_
              go_big_quiet_step (fail)
              refine wpQuiet_nil ?_
              refine flowW_plain rfl ?_
              go_big_quiet_step (fail)
              refine wpQuiet_nil ?_
              refine flowW_call rfl rfl ?_ ?_
              · intro W hW hF K hK
                clear kq0 kq1 kq2 kq3 kq4 kq5 kq6 kq7 kq8 kq9 kq10
                go_wp2_with fail
                refine (refOfV_v HFD.out (HV.out.later (below_then HB5.out hW))).mono ?_
                rintro e wq ⟨rfl, rfl⟩
                go_wp2_with fail
                exact hK _ _ rfl trivial (Below.refl _ _)
              rintro v rfl K hK
              go_simp
              refine hK _ ?_
              clear hK K
              refine flowW_plain rfl ?_
              go_big_quiet_step (fail)
              refine wpQuiet_nil ?_
              refine flowW_end fun w6 hw6 hF hD => ?_
              clear kq0 kq1 kq2 kq3 kq4 kq5 kq6 kq7 kq8 kq9 kq10
              simp only [List.drop_succ_cons, List.drop_zero]
              have HB6 := Lib.hid (below_then HB5.out hw6)
              have HB46 := Lib.hid (below_then HB45.out hw6)
              clear hw6 hF hD q0 q1 q2 q3 q4 q5 q6 q7 q8 q9 q10
              have q0 := cell_of_box (bx_later HB46.out HQ.out) 0 rfl
              have q1 := cell_of_box (bx_later HB46.out HQ.out) 1 rfl
              have q2 := cell_of_box (bx_later HB46.out HQ.out) 2 rfl
              have q3 := cell_of_box (bx_later HB46.out HQ.out) 3 rfl
              have q4 := cell_of_box (bx_later HB46.out HQ.out) 4 rfl
              have q5 := cell_of_box (bx_later HB46.out HQ.out) 5 rfl
              have q6 := cell_of_box (bx_later HB46.out HQ.out) 6 rfl
              have q7 := cell_of_box (bx_later HB46.out HQ.out) 7 rfl
              have q8 := cell_of_box (bx_later HB46.out HQ.out) 8 rfl
              have q9 := cell_of_box (bx_later HB46.out HQ.out) 9 rfl
              have q10 := cell_of_box (bx_later HB46.out HQ.out) 10 rfl
              cases u
              · have HRR := Lib.hid (HBAD.out HMY2.out)
                go_wp2_with fail
                go_ret
                exact ⟨ret_bool HRR.out.symm, HB6.out⟩
              cases hfm : x.fm
              · rw [hfm] at HMY2 q6
                go_wp2_with fail
                go_roundw
                case rel => exact ⟨k + 1, by omega, by go_num, HNXT.out HMY2.out, HB6.out⟩
                case measure => simp [intOf]; omega
              · rw [hfm] at HMY2 q6
                have HRR := Lib.hid (HBAD.out HMY2.out)
                go_wp2_with fail
                go_ret
                exact ⟨ret_bool HRR.out.symm, HB6.out⟩
        · have hkn : n = k := by omega
          subst hkn
          have hk2 : ¬ (n : Int) < (n : Int) := by omega
          have hend := hall.out
          rw [List.take_of_length_le (by have := HLN.out; omega)] at hend
          have HRR : Hid (refClosedT line last l = true) := HRR1.out.trans (List.all_eq_true.2 hend)
          clear hall hend
          go_wp2_with fail
          go_ret
          exact ⟨ret_bool HRR.out.symm, HB.out⟩
end Go.Proofs.YtnolbabpkhdpmaaGreat
