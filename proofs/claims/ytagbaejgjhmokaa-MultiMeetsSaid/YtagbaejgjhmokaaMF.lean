/-
  Layer 7 (multi): the document's answer: Few, Has, put, Same, Vals. (printed by tools/gen_mf.py)
-/
import Derived.Test.YtagbaejgjhmokaaMV
namespace Go.Proofs.Ytagbaejgjhmokaa
open Go.RowKit Go.Sort Go.BigFrame

set_option maxRecDepth 100000 in
theorem few_any (kd : Int) (cv : Val) (va : Value) (l : List Prt) (w : World) (ha : PRd w va l) :
    Calls Try.prog 10 #[.agg #[.int .i64 kd, .int .i64 cv.k, .int .i64 cv.n, .string cv.s, va]] w fun e w' => e = .returned (.bool (decide ((l.length : Int) ≤ 60))) ∧ Below w.heap.size w w' := by
  obtain ⟨ao, cc, rfl, _, hcm, _, _⟩ := id ha
  have HB := Lib.hid (below_alloc w (.cells #[.int .i64 kd, .int .i64 cv.k, .int .i64 cv.n, .string cv.s, .slice ao l.length cc] 26))
  unfold maxLen at hcm
  clear ha
  go_enter Try.func10, Try.ntmps10
  go_wp2
  go_ret
  exact ⟨by first | rfl | exact ret_bool (by simp), HB.out⟩

theorem hasP_stop {l : List Prt} {k : Nat} (hk : k < l.length) {d : Dt} (h : l[k].d = d) : hasP l d = true := hasP_iff.2 ⟨_, List.getElem_mem hk, h⟩
theorem hasP_none {l : List Prt} {d : Dt} (h : ∀ p ∈ l, p.d ≠ d) : hasP l d = false := by
  cases e : hasP l d with
  | false => rfl
  | true => obtain ⟨p, hp, hd⟩ := hasP_iff.1 e; exact absurd hd (h p hp)

set_option maxRecDepth 100000 in
set_option maxHeartbeats 4000000 in
theorem refHas_any (kd : Int) (cv : Val) (va : Value) (l : List Prt) (q : Dt) (w : World) (ha : PRd w va l) (hn : l.length ≤ 1000000) :
    Calls Try.prog 21 #[.agg #[.int .i64 kd, .int .i64 cv.k, .int .i64 cv.n, .string cv.s, va], q.agg] w fun e w' => e = .returned (.bool (hasP l q)) ∧ Below w.heap.size w w' := by
  obtain ⟨ao, cc, rfl, hnc, hcm, _, _⟩ := id ha
  obtain ⟨qd, qs⟩ := q
  obtain ⟨w1, hw1⟩ : ∃ w1, (w.alloc (.cells #[.int .i64 kd, .int .i64 cv.k, .int .i64 cv.n, .string cv.s, .slice ao l.length cc] 26)).alloc (.cells #[.int .i64 qd, .int .i64 qs] 30) = w1 := ⟨_, rfl⟩
  have hb1 : Below w.heap.size w w1 := by rw [← hw1]; exact below_alloc_then (below_alloc _ _)
  have b0 : Bx w1 w.heap.size #[.int .i64 kd, .int .i64 cv.k, .int .i64 cv.n, .string cv.s, .slice ao l.length cc] 26 := by rw [← hw1]; exact bx_later (below_alloc _ _) (bx_new rfl)
  have b1 : Bx w1 (w.heap.size + 1) #[.int .i64 qd, .int .i64 qs] 30 := by rw [← hw1]; exact bx_new (by simp)
  have HA := Lib.hid ha
  have HW := Lib.hid hw1
  have HB := Lib.hid hb1
  have B0 := Lib.hid b0
  have B1 := Lib.hid b1
  obtain ⟨n, hln⟩ : ∃ n, l.length = n := ⟨_, rfl⟩
  have HLN := Lib.hid hln
  rw [hln] at hnc hn HW B0 ⊢
  unfold maxLen at hcm
  clear ha hln hw1 hb1 b0 b1
  go_enter Try.func21, Try.ntmps21
  go_wp2_with fail
  rw [HW.out]
  go_loopw [5] (fun vi wr => ∃ k : Nat, k ≤ n ∧ vi = .int .i64 k ∧ Hid (∀ p ∈ l.take k, p.d ≠ ⟨qd, qs⟩) ∧ Hid (Below w1.heap.size w1 wr)) (fun vi _ => n - (intOf vi).toNat)
  case atStart => exact ⟨0, Nat.zero_le _, rfl, (fun p hp => by simp at hp), Below.refl _ _⟩
  case round =>
    obtain ⟨k, hk, rfl, hno, hbw⟩ := hrel
    rename World => wr
    have y4 := cell_of_box (bx_later hbw.out B0.out) 4 rfl
    by_cases hlt : k < n
    · have hkl : k < l.length := by have := HLN.out; omega
      obtain ⟨x, hx⟩ : ∃ x, l[k] = x := ⟨_, rfl⟩
      have hst := @hasP_stop l k hkl ⟨qd, qs⟩
      have hnx : x.d ≠ ⟨qd, qs⟩ → ∀ p ∈ l.take (k + 1), p.d ≠ ⟨qd, qs⟩ := fun h p hp => by
        rw [List.take_succ_eq_append_getElem hkl] at hp
        rcases List.mem_append.1 hp with hp | hp
        · exact hno.out p hp
        · rw [List.mem_singleton.1 hp, hx]; exact h
      obtain ⟨b, o, x1, c0, c1, c2, c3, c4, c5, c6, c7, c8, c9, c10, _⟩ := rd_prt (HA.out.later (below_then HB.out hbw.out)) rfl k hkl hx
      rw [HLN.out] at x1
      rw [hx] at hst
      have e0 := cell_of_box (bx_later hbw.out B1.out) 0 rfl
      have e1 := cell_of_box (bx_later hbw.out B1.out) 1 rfl
      obtain ⟨xd, hxd⟩ : ∃ xd, x.d = xd := ⟨_, rfl⟩
      rw [hxd] at c3 c4 hst hnx
      obtain ⟨da, ds⟩ := xd
      have HST := Lib.hid hst
      have HNX := Lib.hid hnx
      clear hst hnx hx hxd c0 c1 c2 c5 c6 c7 c8 c9 c10
      have key : (da = qd ∧ ds = qs) ∨ ((da == qd) = false) ∨ (da = qd ∧ (ds == qs) = false) := by
        by_cases h1 : da = qd
        · by_cases h2 : ds = qs
          · exact .inl ⟨h1, h2⟩
          · exact .inr (.inr ⟨h1, by simpa using h2⟩)
        · exact .inr (.inl (by simpa using h1))
      rcases key with ⟨rfl, rfl⟩ | h1 | ⟨rfl, h1⟩
      · go_wp2_with fail
        have ky4 := cell_regrown y4
        have kc3 := cell_regrown c3
        have kc4 := cell_regrown c4
        have ke0 := cell_regrown e0
        have ke1 := cell_regrown e1
        refine wp_region_quiet_below (by kernel_rfl) (by kernel_rfl) ?_
        repeat (go_big_quiet_step (first | fail))
        refine wpQuiet_nil ?_
        intro _ hw'
        obtain ⟨⟨dq, osq⟩, hw''⟩ := hw'
        subst hw''
        clear ky4 kc3 kc4 ke0 ke1
        have hb2 := below_regrown wr dq osq
        generalize grow (redrawn wr dq) osq = w2 at *
        replace y4 := cell_later hb2 y4
        replace c3 := cell_later hb2 c3
        replace c4 := cell_later hb2 c4
        replace e0 := cell_later hb2 e0
        replace e1 := cell_later hb2 e1
        have HB2 := Lib.hid (below_then HB.out (below_then hbw.out hb2))
        clear hb2
        go_wp2_with fail
        go_ret
        exact ⟨ret_bool (by first | exact (HST.out rfl).symm | exact (HST.out trivial).symm), HB2.out⟩
      · go_wp2_with fail
        have ky4 := cell_regrown y4
        have kc3 := cell_regrown c3
        have kc4 := cell_regrown c4
        have ke0 := cell_regrown e0
        have ke1 := cell_regrown e1
        refine wp_region_quiet_below (by kernel_rfl) (by kernel_rfl) ?_
        repeat (go_big_quiet_step (first | fail))
        refine wpQuiet_nil ?_
        intro _ hw'
        obtain ⟨⟨dq, osq⟩, hw''⟩ := hw'
        subst hw''
        clear ky4 kc3 kc4 ke0 ke1
        have hb2 := below_regrown wr dq osq
        generalize grow (redrawn wr dq) osq = w2 at *
        replace y4 := cell_later hb2 y4
        replace c3 := cell_later hb2 c3
        replace c4 := cell_later hb2 c4
        replace e0 := cell_later hb2 e0
        replace e1 := cell_later hb2 e1
        have HB2 := Lib.hid (below_then hbw.out hb2)
        clear hb2
        go_wp2_with fail
        go_roundw
        case rel => exact ⟨k + 1, by omega, by go_num, HNX.out (fun h => by cases h; simp at h1), HB2.out⟩
        case measure => simp [intOf]; omega
      · go_wp2_with fail
        have ky4 := cell_regrown y4
        have kc3 := cell_regrown c3
        have kc4 := cell_regrown c4
        have ke0 := cell_regrown e0
        have ke1 := cell_regrown e1
        refine wp_region_quiet_below (by kernel_rfl) (by kernel_rfl) ?_
        repeat (go_big_quiet_step (first | fail))
        refine wpQuiet_nil ?_
        intro _ hw'
        obtain ⟨⟨dq, osq⟩, hw''⟩ := hw'
        subst hw''
        clear ky4 kc3 kc4 ke0 ke1
        have hb2 := below_regrown wr dq osq
        generalize grow (redrawn wr dq) osq = w2 at *
        replace y4 := cell_later hb2 y4
        replace c3 := cell_later hb2 c3
        replace c4 := cell_later hb2 c4
        replace e0 := cell_later hb2 e0
        replace e1 := cell_later hb2 e1
        have HB2 := Lib.hid (below_then hbw.out hb2)
        clear hb2
        go_wp2_with fail
        go_roundw
        case rel => exact ⟨k + 1, by omega, by go_num, HNX.out (fun h => by cases h; simp at h1), HB2.out⟩
        case measure => simp [intOf]; omega
    · have hkn : k = n := by omega
      subst hkn
      have hf : hasP l ⟨qd, qs⟩ = false := hasP_none (by have := hno.out; rwa [List.take_of_length_le (by have := HLN.out; omega)] at this)
      have HF := Lib.hid hf
      clear hf
      go_wp2_with fail
      go_ret
      exact ⟨ret_bool HF.out.symm, below_then HB.out hbw.out⟩

/-- What is still to come of a put. -/
def putR (p : Prt) (laid : Bool) (l : List Prt) : List Prt := if laid then l else putD p l
theorem putR_hit {p x : Prt} {l : List Prt} (h : ltD p.d x.d = true) : putR p false (x :: l) = p :: x :: putR p true l := by
  unfold putR putD
  simp only [Bool.false_eq_true, if_false, if_true]
  rw [List.takeWhile_cons_of_neg (by simp [ltP, h]), List.dropWhile_cons_of_neg (by simp [ltP, h])]; rfl
theorem putR_miss {p x : Prt} {l : List Prt} (h : ltD p.d x.d = false) : putR p false (x :: l) = x :: putR p false l := by
  unfold putR putD
  simp only [Bool.false_eq_true, if_false]
  rw [List.takeWhile_cons_of_pos (by simp [ltP, h]), List.dropWhile_cons_of_pos (by simp [ltP, h])]; rfl
theorem putR_laid {p x : Prt} {l : List Prt} : putR p true (x :: l) = x :: putR p true l := rfl
theorem putR_end {p : Prt} : putR p false [] = [p] := rfl

set_option maxRecDepth 100000 in
set_option maxHeartbeats 8000000 in
theorem put_any (va : Value) (l : List Prt) (p : Prt) (w : World) (ha : PRd w va l) (hn : l.length ≤ 1000) :
    Calls Try.prog 44 #[va, p.agg] w (OwnPostP w (putD p l)) := by
  obtain ⟨ao, cc, rfl, hnc, hcm, _, _⟩ := id ha
  obtain ⟨w1, hw1⟩ : ∃ w1, w.alloc (.cells #[.int .i64 p.v.k, .int .i64 p.v.n, .string p.v.s, .int .i64 p.d.dev, .int .i64 p.d.seq, .int .i64 p.at_, .int .i64 p.tm, .int .i64 p.aft.dev, .int .i64 p.aft.seq, .int .i64 p.aat, .bool p.gone] 32) = w1 := ⟨_, rfl⟩
  have hb1 : Below w.heap.size w w1 := by rw [← hw1]; exact below_alloc _ _
  have hsz : w1.heap.size = w.heap.size + 1 := by rw [← hw1]; simp
  have bp : Bx w1 w.heap.size #[.int .i64 p.v.k, .int .i64 p.v.n, .string p.v.s, .int .i64 p.d.dev, .int .i64 p.d.seq, .int .i64 p.at_, .int .i64 p.tm, .int .i64 p.aft.dev, .int .i64 p.aft.seq, .int .i64 p.aat, .bool p.gone] 32 := by rw [← hw1]; exact bx_new rfl
  have HA := Lib.hid ha
  have HW := Lib.hid hw1
  have HB := Lib.hid hb1
  have HSZ := Lib.hid hsz
  have BP := Lib.hid bp
  obtain ⟨n, hln⟩ : ∃ n, l.length = n := ⟨_, rfl⟩
  have HLN := Lib.hid hln
  rw [hln] at hnc hn ⊢
  unfold maxLen at hcm
  clear ha hln hw1 hb1 bp hsz
  go_enter Try.func44, Try.ntmps44
  go_wp2_with fail
  rw [HW.out]
  go_loopw [5, 6, 7] (fun vo vd vi wr => ∃ (k : Nat) (d : Bool) (O : List Prt), k ≤ n ∧ vi = .int .i64 k ∧ vd = .bool d ∧ Hid (OwnP wr w1.heap.size vo O) ∧ Hid (O ++ putR p d (l.drop k) = putD p l ∧ O.length ≤ k + d.toNat) ∧ Hid (Below w1.heap.size w1 wr)) (fun _ _ vi _ => n - (intOf vi).toNat)
  case atStart => exact ⟨0, false, [], Nat.zero_le _, rfl, rfl, World.ownsRow_nil _ _ _ _, ⟨rfl, by simp⟩, Below.refl _ _⟩
  case round =>
    obtain ⟨k, laid, O, hk, rfl, rfl, ho, heq, hbw⟩ := hrel
    rename World => wr
    have HLE : Hid (O.length ≤ 1001) := by have := heq.out.2; have := Bool.toNat_le laid; show _ ≤ _; omega
    have HLK := Lib.hid heq.out.2
    by_cases hlt : k < n
    · have hkl : k < l.length := by have := HLN.out; omega
      obtain ⟨x, hx⟩ : ∃ x, l[k] = x := ⟨_, rfl⟩
      obtain ⟨b, o, x1, c0, c1, c2, c3, c4, c5, c6, c7, c8, c9, c10, hbl⟩ := rd_prt HA.out rfl k hkl hx
      rw [HLN.out] at x1
      replace c0 := cell_later (below_then HB.out hbw.out) c0
      replace c1 := cell_later (below_then HB.out hbw.out) c1
      replace c2 := cell_later (below_then HB.out hbw.out) c2
      replace c3 := cell_later (below_then HB.out hbw.out) c3
      replace c4 := cell_later (below_then HB.out hbw.out) c4
      replace c5 := cell_later (below_then HB.out hbw.out) c5
      replace c6 := cell_later (below_then HB.out hbw.out) c6
      replace c7 := cell_later (below_then HB.out hbw.out) c7
      replace c8 := cell_later (below_then HB.out hbw.out) c8
      replace c9 := cell_later (below_then HB.out hbw.out) c9
      replace c10 := cell_later (below_then HB.out hbw.out) c10
      have hdr := List.drop_eq_getElem_cons hkl
      rw [hx] at hdr
      have heq' := heq.out.1
      rw [hdr] at heq'
      have HBL := Lib.hid hbl
      have bp := bx_later hbw.out BP.out
      have e0 := cell_of_box bp 0 rfl
      have e1 := cell_of_box bp 1 rfl
      have e2 := cell_of_box bp 2 rfl
      have e3 := cell_of_box bp 3 rfl
      have e4 := cell_of_box bp 4 rfl
      have e5 := cell_of_box bp 5 rfl
      have e6 := cell_of_box bp 6 rfl
      have e7 := cell_of_box bp 7 rfl
      have e8 := cell_of_box bp 8 rfl
      have e9 := cell_of_box bp 9 rfl
      have e10 := cell_of_box bp 10 rfl
      clear hx hdr bp hbl
      cases laid
      · skip
        have cS : ∀ d os, Calls Try.prog 34 #[x.d.agg, p.d.agg] (grow (redrawn wr d) os) fun e w'' => e = .returned (.bool (ltD p.d x.d)) ∧ ∃ p : Regrown, w'' = grow (redrawn wr p.d) p.os := fun d os => Calls.regrown_of ((above_any x.d p.d _))
        cases hl : ltD p.d x.d
        all_goals
          rw [hl] at cS
        · rw [putR_miss hl] at heq'
          have HEQ := Lib.hid heq'
          clear heq' hl
          go_wp2_with fail
          have kc0 := cell_regrown c0
          have kc1 := cell_regrown c1
          have kc2 := cell_regrown c2
          have kc3 := cell_regrown c3
          have kc4 := cell_regrown c4
          have kc5 := cell_regrown c5
          have kc6 := cell_regrown c6
          have kc7 := cell_regrown c7
          have kc8 := cell_regrown c8
          have kc9 := cell_regrown c9
          have kc10 := cell_regrown c10
          have ke0 := cell_regrown e0
          have ke1 := cell_regrown e1
          have ke2 := cell_regrown e2
          have ke3 := cell_regrown e3
          have ke4 := cell_regrown e4
          have ke5 := cell_regrown e5
          have ke6 := cell_regrown e6
          have ke7 := cell_regrown e7
          have ke8 := cell_regrown e8
          have ke9 := cell_regrown e9
          have ke10 := cell_regrown e10
          refine wp_region_quiet_below (by kernel_rfl) (by kernel_rfl) ?_
          repeat (go_big_quiet_step (first | exact cS _ _))
          refine wpQuiet_nil ?_
          intro _ hw'
          obtain ⟨⟨dq, osq⟩, hw''⟩ := hw'
          subst hw''
          clear kc0 kc1 kc2 kc3 kc4 kc5 kc6 kc7 kc8 kc9 kc10 ke0 ke1 ke2 ke3 ke4 ke5 ke6 ke7 ke8 ke9 ke10 cS
          have hb3 := below_regrown wr dq osq
          generalize grow (redrawn wr dq) osq = w3 at *
          replace c0 := cell_later hb3 c0
          replace c1 := cell_later hb3 c1
          replace c2 := cell_later hb3 c2
          replace c3 := cell_later hb3 c3
          replace c4 := cell_later hb3 c4
          replace c5 := cell_later hb3 c5
          replace c6 := cell_later hb3 c6
          replace c7 := cell_later hb3 c7
          replace c8 := cell_later hb3 c8
          replace c9 := cell_later hb3 c9
          replace c10 := cell_later hb3 c10
          replace e0 := cell_later hb3 e0
          replace e1 := cell_later hb3 e1
          replace e2 := cell_later hb3 e2
          replace e3 := cell_later hb3 e3
          replace e4 := cell_later hb3 e4
          replace e5 := cell_later hb3 e5
          replace e6 := cell_later hb3 e6
          replace e7 := cell_later hb3 e7
          replace e8 := cell_later hb3 e8
          replace e9 := cell_later hb3 e9
          replace e10 := cell_later hb3 e10
          have HB3 := Lib.hid (below_then hbw.out hb3)
          have HO3 := Lib.hid (own_later ho.out hb3)
          clear hb3
          go_wp2_with (at_builtin; refine wpList_push elP rfl (.tmp 30) (.tmp 35) rfl rfl rfl HO3.out rfl rfl (by have := HLE.out; simp only [maxLen]; omega) (by have := HLE.out; omega) HB3.out.size ?_; intro v4 w4 own4 grow4 _blk4; have HO4 := Lib.hid (own_snocP (x := x) own4); have HB4 := Lib.hid (HB3.out.grown grow4 HB3.out.size (fun kk hk => (HO3.out.lt kk hk).1)); clear own4 grow4 _blk4)
          go_roundw
          case rel => exact ⟨k + 1, false, _, by omega, by go_num, rfl, HO4.out, ⟨by have := HEQ.out; rw [List.append_assoc]; exact this, by have := HLK.out; simp at *; omega⟩, HB4.out⟩
          case measure => simp [intOf]; omega
        · rw [putR_hit hl] at heq'
          have HEQ := Lib.hid heq'
          clear heq' hl
          go_wp2_with fail
          have kc0 := cell_regrown c0
          have kc1 := cell_regrown c1
          have kc2 := cell_regrown c2
          have kc3 := cell_regrown c3
          have kc4 := cell_regrown c4
          have kc5 := cell_regrown c5
          have kc6 := cell_regrown c6
          have kc7 := cell_regrown c7
          have kc8 := cell_regrown c8
          have kc9 := cell_regrown c9
          have kc10 := cell_regrown c10
          have ke0 := cell_regrown e0
          have ke1 := cell_regrown e1
          have ke2 := cell_regrown e2
          have ke3 := cell_regrown e3
          have ke4 := cell_regrown e4
          have ke5 := cell_regrown e5
          have ke6 := cell_regrown e6
          have ke7 := cell_regrown e7
          have ke8 := cell_regrown e8
          have ke9 := cell_regrown e9
          have ke10 := cell_regrown e10
          refine wp_region_quiet_below (by kernel_rfl) (by kernel_rfl) ?_
          repeat (go_big_quiet_step (first | exact cS _ _))
          refine wpQuiet_nil ?_
          intro _ hw'
          obtain ⟨⟨dq, osq⟩, hw''⟩ := hw'
          subst hw''
          clear kc0 kc1 kc2 kc3 kc4 kc5 kc6 kc7 kc8 kc9 kc10 ke0 ke1 ke2 ke3 ke4 ke5 ke6 ke7 ke8 ke9 ke10 cS
          have hb3 := below_regrown wr dq osq
          generalize grow (redrawn wr dq) osq = w3 at *
          replace c0 := cell_later hb3 c0
          replace c1 := cell_later hb3 c1
          replace c2 := cell_later hb3 c2
          replace c3 := cell_later hb3 c3
          replace c4 := cell_later hb3 c4
          replace c5 := cell_later hb3 c5
          replace c6 := cell_later hb3 c6
          replace c7 := cell_later hb3 c7
          replace c8 := cell_later hb3 c8
          replace c9 := cell_later hb3 c9
          replace c10 := cell_later hb3 c10
          replace e0 := cell_later hb3 e0
          replace e1 := cell_later hb3 e1
          replace e2 := cell_later hb3 e2
          replace e3 := cell_later hb3 e3
          replace e4 := cell_later hb3 e4
          replace e5 := cell_later hb3 e5
          replace e6 := cell_later hb3 e6
          replace e7 := cell_later hb3 e7
          replace e8 := cell_later hb3 e8
          replace e9 := cell_later hb3 e9
          replace e10 := cell_later hb3 e10
          have HB3 := Lib.hid (below_then hbw.out hb3)
          have HO3 := Lib.hid (own_later ho.out hb3)
          clear hb3
          go_wp2_with (at_builtin; first | (refine wpList_push elP rfl (.tmp 26) (.tmp 28) rfl rfl rfl HO3.out rfl rfl (by have := HLE.out; simp only [maxLen]; omega) (by have := HLE.out; omega) HB3.out.size ?_; intro v4 w4 own4 grow4 _blk4; have HO4 := Lib.hid (own_snocP (x := p) own4); have HB4 := Lib.hid (HB3.out.grown grow4 HB3.out.size (fun kk hk => (HO3.out.lt kk hk).1)); replace c0 := grown_cell grow4 c0 (fun e => by have := (HO3.out.lt b e).1; have := HBL.out; have := HSZ.out; omega); replace c1 := grown_cell grow4 c1 (fun e => by have := (HO3.out.lt b e).1; have := HBL.out; have := HSZ.out; omega); replace c2 := grown_cell grow4 c2 (fun e => by have := (HO3.out.lt b e).1; have := HBL.out; have := HSZ.out; omega); replace c3 := grown_cell grow4 c3 (fun e => by have := (HO3.out.lt b e).1; have := HBL.out; have := HSZ.out; omega); replace c4 := grown_cell grow4 c4 (fun e => by have := (HO3.out.lt b e).1; have := HBL.out; have := HSZ.out; omega); replace c5 := grown_cell grow4 c5 (fun e => by have := (HO3.out.lt b e).1; have := HBL.out; have := HSZ.out; omega); replace c6 := grown_cell grow4 c6 (fun e => by have := (HO3.out.lt b e).1; have := HBL.out; have := HSZ.out; omega); replace c7 := grown_cell grow4 c7 (fun e => by have := (HO3.out.lt b e).1; have := HBL.out; have := HSZ.out; omega); replace c8 := grown_cell grow4 c8 (fun e => by have := (HO3.out.lt b e).1; have := HBL.out; have := HSZ.out; omega); replace c9 := grown_cell grow4 c9 (fun e => by have := (HO3.out.lt b e).1; have := HBL.out; have := HSZ.out; omega); replace c10 := grown_cell grow4 c10 (fun e => by have := (HO3.out.lt b e).1; have := HBL.out; have := HSZ.out; omega); clear own4 grow4 _blk4) | (refine wpList_push elP rfl (.tmp 30) (.tmp 35) rfl rfl rfl HO4.out rfl rfl (by have := HLE.out; rw [List.length_append, List.length_singleton]; simp only [maxLen]; omega) (by have := HLE.out; rw [List.length_append, List.length_singleton]; omega) HB4.out.size ?_; intro v5 w5 own5 grow5 _blk5; have HO5 := Lib.hid (own_snocP (x := x) own5); have HB5 := Lib.hid (HB4.out.grown grow5 HB4.out.size (fun kk hk => (HO4.out.lt kk hk).1)); clear own5 grow5 _blk5))
          go_roundw
          case rel => exact ⟨k + 1, true, _, by omega, by go_num, rfl, HO5.out, ⟨by have := HEQ.out; rw [List.append_assoc, List.append_assoc]; exact this, by have := HLK.out; simp at *; omega⟩, HB5.out⟩
          case measure => simp [intOf]; omega
      · rw [putR_laid] at heq'
        have HEQ := Lib.hid heq'
        clear heq'
        go_wp2_with fail
        have kc0 := cell_regrown c0
        have kc1 := cell_regrown c1
        have kc2 := cell_regrown c2
        have kc3 := cell_regrown c3
        have kc4 := cell_regrown c4
        have kc5 := cell_regrown c5
        have kc6 := cell_regrown c6
        have kc7 := cell_regrown c7
        have kc8 := cell_regrown c8
        have kc9 := cell_regrown c9
        have kc10 := cell_regrown c10
        have ke0 := cell_regrown e0
        have ke1 := cell_regrown e1
        have ke2 := cell_regrown e2
        have ke3 := cell_regrown e3
        have ke4 := cell_regrown e4
        have ke5 := cell_regrown e5
        have ke6 := cell_regrown e6
        have ke7 := cell_regrown e7
        have ke8 := cell_regrown e8
        have ke9 := cell_regrown e9
        have ke10 := cell_regrown e10
        refine wp_region_quiet_below (by kernel_rfl) (by kernel_rfl) ?_
        repeat (go_big_quiet_step (first | fail))
        refine wpQuiet_nil ?_
        intro _ hw'
        obtain ⟨⟨dq, osq⟩, hw''⟩ := hw'
        subst hw''
        clear kc0 kc1 kc2 kc3 kc4 kc5 kc6 kc7 kc8 kc9 kc10 ke0 ke1 ke2 ke3 ke4 ke5 ke6 ke7 ke8 ke9 ke10
        have hb3 := below_regrown wr dq osq
        generalize grow (redrawn wr dq) osq = w3 at *
        replace c0 := cell_later hb3 c0
        replace c1 := cell_later hb3 c1
        replace c2 := cell_later hb3 c2
        replace c3 := cell_later hb3 c3
        replace c4 := cell_later hb3 c4
        replace c5 := cell_later hb3 c5
        replace c6 := cell_later hb3 c6
        replace c7 := cell_later hb3 c7
        replace c8 := cell_later hb3 c8
        replace c9 := cell_later hb3 c9
        replace c10 := cell_later hb3 c10
        replace e0 := cell_later hb3 e0
        replace e1 := cell_later hb3 e1
        replace e2 := cell_later hb3 e2
        replace e3 := cell_later hb3 e3
        replace e4 := cell_later hb3 e4
        replace e5 := cell_later hb3 e5
        replace e6 := cell_later hb3 e6
        replace e7 := cell_later hb3 e7
        replace e8 := cell_later hb3 e8
        replace e9 := cell_later hb3 e9
        replace e10 := cell_later hb3 e10
        have HB3 := Lib.hid (below_then hbw.out hb3)
        have HO3 := Lib.hid (own_later ho.out hb3)
        clear hb3
        go_wp2_with (at_builtin; refine wpList_push elP rfl (.tmp 30) (.tmp 35) rfl rfl rfl HO3.out rfl rfl (by have := HLE.out; simp only [maxLen]; omega) (by have := HLE.out; omega) HB3.out.size ?_; intro v4 w4 own4 grow4 _blk4; have HO4 := Lib.hid (own_snocP (x := x) own4); have HB4 := Lib.hid (HB3.out.grown grow4 HB3.out.size (fun kk hk => (HO3.out.lt kk hk).1)); clear own4 grow4 _blk4)
        go_roundw
        case rel => exact ⟨k + 1, true, _, by omega, by go_num, rfl, HO4.out, ⟨by have := HEQ.out; rw [List.append_assoc]; exact this, by have := HLK.out; simp at *; omega⟩, HB4.out⟩
        case measure => simp [intOf]; omega
    · have hkn : k = n := by omega
      subst hkn
      have heq' := heq.out.1
      rw [List.drop_of_length_le (by have := HLN.out; omega)] at heq'
      have bp := bx_later hbw.out BP.out
      have e0 := cell_of_box bp 0 rfl
      have e1 := cell_of_box bp 1 rfl
      have e2 := cell_of_box bp 2 rfl
      have e3 := cell_of_box bp 3 rfl
      have e4 := cell_of_box bp 4 rfl
      have e5 := cell_of_box bp 5 rfl
      have e6 := cell_of_box bp 6 rfl
      have e7 := cell_of_box bp 7 rfl
      have e8 := cell_of_box bp 8 rfl
      have e9 := cell_of_box bp 9 rfl
      have e10 := cell_of_box bp 10 rfl
      clear bp
      cases laid
      · rw [putR_end] at heq'
        have HEQ := Lib.hid heq'
        clear heq'
        go_wp2_with (at_builtin; refine wpList_push elP rfl (.tmp 39) (.tmp 41) rfl rfl rfl ho.out rfl rfl (by have := HLE.out; simp only [maxLen]; omega) (by have := HLE.out; omega) hbw.out.size ?_; intro v4 w4 own4 grow4 _blk4; have HO4 := Lib.hid (own_snocP (x := p) own4); have HB4 := Lib.hid (hbw.out.grown grow4 hbw.out.size (fun kk hk => (ho.out.lt kk hk).1)); clear own4 grow4 _blk4)
        go_ret
        exact ⟨_, rfl, by rw [← HEQ.out]; exact own_monoP HO4.out HB.out.size, below_then HB.out HB4.out⟩
      · have HEQ := Lib.hid heq'
        clear heq'
        go_wp2_with fail
        go_ret
        exact ⟨_, rfl, by rw [← HEQ.out]; show World.ownsRow _ _ _ _ _ _ _; unfold putR; simp only [if_true, List.append_nil]; exact own_monoP ho.out HB.out.size, below_then HB.out hbw.out⟩
end Go.Proofs.Ytagbaejgjhmokaa
