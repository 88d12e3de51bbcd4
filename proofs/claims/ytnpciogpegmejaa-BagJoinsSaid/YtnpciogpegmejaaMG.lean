/-
  Layer 7 (multi): the document's Same and Vals, of what is the same. (printed by tools/gen_mg.py)
-/
import Derived.Test.YtnpciogpegmejaaMF
namespace Go.Proofs.Ytnpciogpegmejaa
open Go.RowKit Go.Sort Go.BigFrame

set_option maxRecDepth 100000 in
set_option maxHeartbeats 4000000 in
theorem refSame_any (kd : Int) (cv : Val) (va vb : Value) (l : List Prt) (w : World) (ha : PRd w va l) (hb : PRd w vb l) (hn : l.length ≤ 1000000) :
    Calls Try.prog 12 #[.agg #[.int .i64 kd, .int .i64 cv.k, .int .i64 cv.n, .string cv.s, va], .agg #[.int .i64 kd, .int .i64 cv.k, .int .i64 cv.n, .string cv.s, vb]] w fun e w' => e = .returned (.bool true) ∧ Below w.heap.size w w' := by
  obtain ⟨ao, ca, rfl, hnc, hcm, _, _⟩ := id ha
  obtain ⟨bo, cb, rfl, hnc', hcm', _, _⟩ := id hb
  obtain ⟨w1, hw1⟩ : ∃ w1, (w.alloc (.cells #[.int .i64 kd, .int .i64 cv.k, .int .i64 cv.n, .string cv.s, .slice ao l.length ca] 26)).alloc (.cells #[.int .i64 kd, .int .i64 cv.k, .int .i64 cv.n, .string cv.s, .slice bo l.length cb] 26) = w1 := ⟨_, rfl⟩
  have hb1 : Below w.heap.size w w1 := by rw [← hw1]; exact below_alloc_then (below_alloc _ _)
  have b0 : Bx w1 w.heap.size #[.int .i64 kd, .int .i64 cv.k, .int .i64 cv.n, .string cv.s, .slice ao l.length ca] 26 := by rw [← hw1]; exact bx_later (below_alloc _ _) (bx_new rfl)
  have b1 : Bx w1 (w.heap.size + 1) #[.int .i64 kd, .int .i64 cv.k, .int .i64 cv.n, .string cv.s, .slice bo l.length cb] 26 := by rw [← hw1]; exact bx_new (by simp)
  have HA := Lib.hid ha
  have HC := Lib.hid hb
  have HW := Lib.hid hw1
  have HB := Lib.hid hb1
  obtain ⟨n, hln⟩ : ∃ n, l.length = n := ⟨_, rfl⟩
  have HLN := Lib.hid hln
  rw [hln] at hnc hnc' hn HW b0 b1 ⊢
  unfold maxLen at hcm hcm'
  have B0 := Lib.hid b0
  have B1 := Lib.hid b1
  have y0 := cell_of_box b0 0 rfl
  have y1 := cell_of_box b0 1 rfl
  have y2 := cell_of_box b0 2 rfl
  have y3 := cell_of_box b0 3 rfl
  have y4 := cell_of_box b0 4 rfl
  have z0 := cell_of_box b1 0 rfl
  have z1 := cell_of_box b1 1 rfl
  have z2 := cell_of_box b1 2 rfl
  have z3 := cell_of_box b1 3 rfl
  have z4 := cell_of_box b1 4 rfl
  clear ha hb hln hw1 hb1 b0 b1
  go_enter Try.func12, Try.ntmps12
  go_wp2_with fail
  rw [HW.out]
  go_wp2_with fail
  clear y0 y1 y2 y3 y4 z0 z1 z2 z3 z4
  go_loopw [5] (fun vi wr => ∃ k : Nat, k ≤ n ∧ vi = .int .i64 k ∧ Hid (Below w1.heap.size w1 wr)) (fun vi _ => n - (intOf vi).toNat)
  case atStart => exact ⟨0, Nat.zero_le _, rfl, Below.refl _ _⟩
  case round =>
    obtain ⟨k, hk, rfl, hbw⟩ := hrel
    rename World => wr
    have y4 := cell_of_box (bx_later hbw.out B0.out) 4 rfl
    have z4 := cell_of_box (bx_later hbw.out B1.out) 4 rfl
    by_cases hlt : k < n
    · have hkl : k < l.length := by have := HLN.out; omega
      obtain ⟨x, hx⟩ : ∃ x, l[k] = x := ⟨_, rfl⟩
      obtain ⟨b, o, x1, c0, c1, c2, c3, c4, c5, c6, c7, c8, c9, c10, _⟩ := rd_prt (HA.out.later (below_then HB.out hbw.out)) rfl k hkl hx
      obtain ⟨b', o', x2, d0, d1, d2, d3, d4, d5, d6, d7, d8, d9, d10, _⟩ := rd_prt (HC.out.later (below_then HB.out hbw.out)) rfl k hkl hx
      rw [HLN.out] at x1 x2
      clear hx
      go_wp2_with fail
      have ky4 := cell_regrown y4
      have kz4 := cell_regrown z4
      have kc0 := cell_regrown c0
      have kc1 := cell_regrown c1
      have kc2 := cell_regrown c2
      have kc3 := cell_regrown c3
      have kc4 := cell_regrown c4
      have kc5 := cell_regrown c5
      have kc6 := cell_regrown c6
      have kc7 := cell_regrown c7
      have kc8 := cell_regrown c8
      have kc9 := cell_regrown c9
      have kc10 := cell_regrown c10
      have kd0 := cell_regrown d0
      have kd1 := cell_regrown d1
      have kd2 := cell_regrown d2
      have kd3 := cell_regrown d3
      have kd4 := cell_regrown d4
      have kd5 := cell_regrown d5
      have kd6 := cell_regrown d6
      have kd7 := cell_regrown d7
      have kd8 := cell_regrown d8
      have kd9 := cell_regrown d9
      have kd10 := cell_regrown d10
      refine wp_region_quiet_below (by kernel_rfl) (by kernel_rfl) ?_
      repeat (go_big_quiet_step (first | fail))
      refine wpQuiet_nil ?_
      intro _ hw'
      obtain ⟨⟨dq, osq⟩, hw''⟩ := hw'
      subst hw''
      clear ky4 kz4 kc0 kc1 kc2 kc3 kc4 kc5 kc6 kc7 kc8 kc9 kc10 kd0 kd1 kd2 kd3 kd4 kd5 kd6 kd7 kd8 kd9 kd10
      have hb2 := below_regrown wr dq osq
      generalize grow (redrawn wr dq) osq = w2 at *
      replace y4 := cell_later hb2 y4
      replace z4 := cell_later hb2 z4
      replace c0 := cell_later hb2 c0
      replace c1 := cell_later hb2 c1
      replace c2 := cell_later hb2 c2
      replace c3 := cell_later hb2 c3
      replace c4 := cell_later hb2 c4
      replace c5 := cell_later hb2 c5
      replace c6 := cell_later hb2 c6
      replace c7 := cell_later hb2 c7
      replace c8 := cell_later hb2 c8
      replace c9 := cell_later hb2 c9
      replace c10 := cell_later hb2 c10
      replace d0 := cell_later hb2 d0
      replace d1 := cell_later hb2 d1
      replace d2 := cell_later hb2 d2
      replace d3 := cell_later hb2 d3
      replace d4 := cell_later hb2 d4
      replace d5 := cell_later hb2 d5
      replace d6 := cell_later hb2 d6
      replace d7 := cell_later hb2 d7
      replace d8 := cell_later hb2 d8
      replace d9 := cell_later hb2 d9
      replace d10 := cell_later hb2 d10
      have HB2 := Lib.hid (below_then hbw.out hb2)
      clear hb2
      go_wp2_with fail
      go_roundw
      case rel => exact ⟨k + 1, by omega, by go_num, HB2.out⟩
      case measure => simp [intOf]; omega
    · go_wp2_with fail
      go_ret
      exact ⟨rfl, below_then HB.out hbw.out⟩

end Go.Proofs.Ytnpciogpegmejaa
