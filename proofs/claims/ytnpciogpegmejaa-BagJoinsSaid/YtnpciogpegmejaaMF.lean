/-
  Layer 7 (multi): the document's answer: Few, Has, put, Same, Vals. (printed by tools/gen_mf.py)
-/
import Derived.Test.YtnpciogpegmejaaGB
namespace Go.Proofs.Ytnpciogpegmejaa
open Go.RowKit Go.Sort Go.BigFrame

set_option maxRecDepth 100000 in
theorem few_any (kd : Int) (cv : Val) (va : Value) (l : List Prt) (w : World) (ha : PRd w va l) :
    Calls Try.prog 26 #[.agg #[.int .i64 kd, .int .i64 cv.k, .int .i64 cv.n, .string cv.s, va]] w fun e w' => e = .returned (.bool (decide ((l.length : Int) ≤ 60))) ∧ Below w.heap.size w w' := by
  obtain ⟨ao, cc, rfl, _, hcm, _, _⟩ := id ha
  have HB := Lib.hid (below_alloc w (.cells #[.int .i64 kd, .int .i64 cv.k, .int .i64 cv.n, .string cv.s, .slice ao l.length cc] 26))
  unfold maxLen at hcm
  clear ha
  go_enter Try.func26, Try.ntmps26
  go_wp2
  go_ret
  exact ⟨by first | rfl | exact ret_bool (by simp), HB.out⟩

theorem hasP_stop {l : List Prt} {k : Nat} (hk : k < l.length) {d : Dt} (h : l[k].d = d) : hasP l d = true := hasP_iff.2 ⟨_, List.getElem_mem hk, h⟩
theorem hasP_none {l : List Prt} {d : Dt} (h : ∀ p ∈ l, p.d ≠ d) : hasP l d = false := by
  cases e : hasP l d with
  | false => rfl
  | true => obtain ⟨p, hp, hd⟩ := hasP_iff.1 e; exact absurd hd (h p hp)

set_option maxRecDepth 100000 in
set_option maxHeartbeats 4000000 in
theorem refHas_any (kd : Int) (cv : Val) (va : Value) (l : List Prt) (q : Dt) (w : World) (ha : PRd w va l) (hn : l.length ≤ 1000000) :
    Calls Try.prog 19 #[.agg #[.int .i64 kd, .int .i64 cv.k, .int .i64 cv.n, .string cv.s, va], q.agg] w fun e w' => e = .returned (.bool (hasP l q)) ∧ Below w.heap.size w w' := by
  obtain ⟨ao, cc, rfl, hnc, hcm, _, _⟩ := id ha
  obtain ⟨qd, qs⟩ := q
  obtain ⟨w1, hw1⟩ : ∃ w1, (w.alloc (.cells #[.int .i64 kd, .int .i64 cv.k, .int .i64 cv.n, .string cv.s, .slice ao l.length cc] 26)).alloc (.cells #[.int .i64 qd, .int .i64 qs] 37) = w1 := ⟨_, rfl⟩
  have hb1 : Below w.heap.size w w1 := by rw [← hw1]; exact below_alloc_then (below_alloc _ _)
  have b0 : Bx w1 w.heap.size #[.int .i64 kd, .int .i64 cv.k, .int .i64 cv.n, .string cv.s, .slice ao l.length cc] 26 := by rw [← hw1]; exact bx_later (below_alloc _ _) (bx_new rfl)
  have b1 : Bx w1 (w.heap.size + 1) #[.int .i64 qd, .int .i64 qs] 37 := by rw [← hw1]; exact bx_new (by simp)
  have HA := Lib.hid ha
  have HW := Lib.hid hw1
  have HB := Lib.hid hb1
  have B0 := Lib.hid b0
  have B1 := Lib.hid b1
  obtain ⟨n, hln⟩ : ∃ n, l.length = n := ⟨_, rfl⟩
  have HLN := Lib.hid hln
  rw [hln] at hnc hn HW B0 ⊢
  unfold maxLen at hcm
  clear ha hln hw1 hb1 b0 b1
  go_enter Try.func19, Try.ntmps19
  go_wp2_with fail
  rw [HW.out]
  go_loopw [5] (fun vi wr => ∃ k : Nat, k ≤ n ∧ vi = .int .i64 k ∧ Hid (∀ p ∈ l.take k, p.d ≠ ⟨qd, qs⟩) ∧ Hid (Below w1.heap.size w1 wr)) (fun vi _ => n - (intOf vi).toNat)
  case atStart => exact ⟨0, Nat.zero_le _, rfl, (fun p hp => by simp at hp), Below.refl _ _⟩
  case round =>
    obtain ⟨k, hk, rfl, hno, hbw⟩ := hrel
    rename World => wr
    have y4 := cell_of_box (bx_later hbw.out B0.out) 4 rfl
    by_cases hlt : k < n
    · have hkl : k < l.length := by have := HLN.out; omega
      obtain ⟨x, hx⟩ : ∃ x, l[k] = x := ⟨_, rfl⟩
      have hst := @hasP_stop l k hkl ⟨qd, qs⟩
      have hnx : x.d ≠ ⟨qd, qs⟩ → ∀ p ∈ l.take (k + 1), p.d ≠ ⟨qd, qs⟩ := fun h p hp => by
        rw [List.take_succ_eq_append_getElem hkl] at hp
        rcases List.mem_append.1 hp with hp | hp
        · exact hno.out p hp
        · rw [List.mem_singleton.1 hp, hx]; exact h
      obtain ⟨b, o, x1, c0, c1, c2, c3, c4, c5, c6, c7, c8, c9, c10, _⟩ := rd_prt (HA.out.later (below_then HB.out hbw.out)) rfl k hkl hx
      rw [HLN.out] at x1
      rw [hx] at hst
      have e0 := cell_of_box (bx_later hbw.out B1.out) 0 rfl
      have e1 := cell_of_box (bx_later hbw.out B1.out) 1 rfl
      obtain ⟨xd, hxd⟩ : ∃ xd, x.d = xd := ⟨_, rfl⟩
      rw [hxd] at c3 c4 hst hnx
      obtain ⟨da, ds⟩ := xd
      have HST := Lib.hid hst
      have HNX := Lib.hid hnx
      clear hst hnx hx hxd c0 c1 c2 c5 c6 c7 c8 c9 c10
      have key : (da = qd ∧ ds = qs) ∨ ((da == qd) = false) ∨ (da = qd ∧ (ds == qs) = false) := by
        by_cases h1 : da = qd
        · by_cases h2 : ds = qs
          · exact .inl ⟨h1, h2⟩
          · exact .inr (.inr ⟨h1, by simpa using h2⟩)
        · exact .inr (.inl (by simpa using h1))
      rcases key with ⟨rfl, rfl⟩ | h1 | ⟨rfl, h1⟩
      · go_wp2_with fail
        have ky4 := cell_regrown y4
        have kc3 := cell_regrown c3
        have kc4 := cell_regrown c4
        have ke0 := cell_regrown e0
        have ke1 := cell_regrown e1
        refine wp_region_quiet_below (by kernel_rfl) (by kernel_rfl) ?_
        repeat (go_big_quiet_step (first | fail))
        refine wpQuiet_nil ?_
        intro _ hw'
        obtain ⟨⟨dq, osq⟩, hw''⟩ := hw'
        subst hw''
        clear ky4 kc3 kc4 ke0 ke1
        have hb2 := below_regrown wr dq osq
        generalize grow (redrawn wr dq) osq = w2 at *
        replace y4 := cell_later hb2 y4
        replace c3 := cell_later hb2 c3
        replace c4 := cell_later hb2 c4
        replace e0 := cell_later hb2 e0
        replace e1 := cell_later hb2 e1
        have HB2 := Lib.hid (below_then HB.out (below_then hbw.out hb2))
        clear hb2
        go_wp2_with fail
        go_ret
        exact ⟨ret_bool (by first | exact (HST.out rfl).symm | exact (HST.out trivial).symm), HB2.out⟩
      · go_wp2_with fail
        have ky4 := cell_regrown y4
        have kc3 := cell_regrown c3
        have kc4 := cell_regrown c4
        have ke0 := cell_regrown e0
        have ke1 := cell_regrown e1
        refine wp_region_quiet_below (by kernel_rfl) (by kernel_rfl) ?_
        repeat (go_big_quiet_step (first | fail))
        refine wpQuiet_nil ?_
        intro _ hw'
        obtain ⟨⟨dq, osq⟩, hw''⟩ := hw'
        subst hw''
        clear ky4 kc3 kc4 ke0 ke1
        have hb2 := below_regrown wr dq osq
        generalize grow (redrawn wr dq) osq = w2 at *
        replace y4 := cell_later hb2 y4
        replace c3 := cell_later hb2 c3
        replace c4 := cell_later hb2 c4
        replace e0 := cell_later hb2 e0
        replace e1 := cell_later hb2 e1
        have HB2 := Lib.hid (below_then hbw.out hb2)
        clear hb2
        go_wp2_with fail
        go_roundw
        case rel => exact ⟨k + 1, by omega, by go_num, HNX.out (fun h => by cases h; simp at h1), HB2.out⟩
        case measure => simp [intOf]; omega
      · go_wp2_with fail
        have ky4 := cell_regrown y4
        have kc3 := cell_regrown c3
        have kc4 := cell_regrown c4
        have ke0 := cell_regrown e0
        have ke1 := cell_regrown e1
        refine wp_region_quiet_below (by kernel_rfl) (by kernel_rfl) ?_
        repeat (go_big_quiet_step (first | fail))
        refine wpQuiet_nil ?_
        intro _ hw'
        obtain ⟨⟨dq, osq⟩, hw''⟩ := hw'
        subst hw''
        clear ky4 kc3 kc4 ke0 ke1
        have hb2 := below_regrown wr dq osq
        generalize grow (redrawn wr dq) osq = w2 at *
        replace y4 := cell_later hb2 y4
        replace c3 := cell_later hb2 c3
        replace c4 := cell_later hb2 c4
        replace e0 := cell_later hb2 e0
        replace e1 := cell_later hb2 e1
        have HB2 := Lib.hid (below_then hbw.out hb2)
        clear hb2
        go_wp2_with fail
        go_roundw
        case rel => exact ⟨k + 1, by omega, by go_num, HNX.out (fun h => by cases h; simp at h1), HB2.out⟩
        case measure => simp [intOf]; omega
    · have hkn : k = n := by omega
      subst hkn
      have hf : hasP l ⟨qd, qs⟩ = false := hasP_none (by have := hno.out; rwa [List.take_of_length_le (by have := HLN.out; omega)] at this)
      have HF := Lib.hid hf
      clear hf
      go_wp2_with fail
      go_ret
      exact ⟨ret_bool HF.out.symm, below_then HB.out hbw.out⟩

/-- What is still to come of a put. -/
def putR (p : Prt) (laid : Bool) (l : List Prt) : List Prt := if laid then l else putD p l
theorem putR_hit {p x : Prt} {l : List Prt} (h : ltD p.d x.d = true) : putR p false (x :: l) = p :: x :: putR p true l := by
  unfold putR putD
  simp only [Bool.false_eq_true, if_false, if_true]
  rw [List.takeWhile_cons_of_neg (by simp [ltP, h]), List.dropWhile_cons_of_neg (by simp [ltP, h])]; rfl
theorem putR_miss {p x : Prt} {l : List Prt} (h : ltD p.d x.d = false) : putR p false (x :: l) = x :: putR p false l := by
  unfold putR putD
  simp only [Bool.false_eq_true, if_false]
  rw [List.takeWhile_cons_of_pos (by simp [ltP, h]), List.dropWhile_cons_of_pos (by simp [ltP, h])]; rfl
theorem putR_laid {p x : Prt} {l : List Prt} : putR p true (x :: l) = x :: putR p true l := rfl
theorem putR_end {p : Prt} : putR p false [] = [p] := rfl

end Go.Proofs.Ytnpciogpegmejaa
