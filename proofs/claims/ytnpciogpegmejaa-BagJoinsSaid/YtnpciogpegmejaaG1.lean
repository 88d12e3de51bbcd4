/-
  Layer 9 (bag): the example. (printed by tools/gen_g1.py)
-/
import Derived.Test.YtnpciogpegmejaaG0
namespace Go.Proofs.Ytnpciogpegmejaa
open Go.RowKit Go.Sort Go.BigFrame

set_option maxRecDepth 100000 in
set_option maxHeartbeats 8000000 in
theorem alive_any (w : World) : Calls Try.prog 11 #[] w fun e w' => e = .returned (.bool true) ∧ Below w.heap.size w w' := by
  obtain ⟨w1, hw1⟩ : ∃ w1, w.alloc (.cells #[.int .i64 3, .int .i64 0, .int .i64 0, .string ⟨#[]⟩, .slice none 0 0] 26) = w1 := ⟨_, rfl⟩
  have hb1 : Below w.heap.size w w1 := by rw [← hw1]; exact below_alloc _ _
  have b1 : Bx w1 w.heap.size #[.int .i64 3, .int .i64 0, .int .i64 0, .string ⟨#[]⟩, .slice none 0 0] 26 := by rw [← hw1]; exact bx_new rfl
  have HW := Lib.hid hw1
  have HB1 := Lib.hid hb1
  have B1 := Lib.hid b1
  have c0 := cell_of_box b1 0 rfl
  have c1 := cell_of_box b1 1 rfl
  have c2 := cell_of_box b1 2 rfl
  have c3 := cell_of_box b1 3 rfl
  have c4 := cell_of_box b1 4 rfl
  clear hw1 hb1 b1
  go_enter Try.func11, Try.ntmps11
  go_wp2_with fail
  rw [HW.out]
  go_wp2_with fail
  refine (put_o (m := [pB1]) (rd_nilP _) (by decide) al_p1).mono ?_
  rintro e wz ⟨a2, k2, rfl, ho, hwz⟩
  have bz := bx_later hwz B1.out
  have f0 := frozen_of_box bz 0
  have f1 := frozen_of_box bz 1
  have f2 := frozen_of_box bz 2
  have f3 := frozen_of_box bz 3
  have f4 := frozen_of_box bz 4
  have d0 := cell_of_box bz 0 rfl
  have d1 := cell_of_box bz 1 rfl
  have d2 := cell_of_box bz 2 rfl
  have d3 := cell_of_box bz 3 rfl
  have d4 := cell_of_box bz 4 rfl
  have BZ := Lib.hid bz
  have HO := Lib.hid ho
  have HBZ := Lib.hid (below_then HB1.out hwz)
  have hsz : w.heap.size < wz.heap.size := (Array.getElem?_eq_some_iff.1 bz).1
  have hsz1 : w.heap.size < w1.heap.size := (Array.getElem?_eq_some_iff.1 B1.out).1
  clear bz ho hwz c0 c1 c2 c3 c4
  go_upto_region 3 with fail
  have b2 := bx_set5 (a' := .int .i64 3) (b' := .int .i64 0) (c' := .int .i64 0) (d' := .string ⟨#[]⟩) (e' := .slice a2 1 k2) BZ.out
  have o2 := own_set5 (a' := .int .i64 3) (b' := .int .i64 0) (c' := .int .i64 0) (d' := .string ⟨#[]⟩) (e' := .slice a2 1 k2) BZ.out HO.out rfl
  have hb2 := below_set5 HBZ.out (Nat.le_refl _) (.int .i64 3) (.int .i64 0) (.int .i64 0) (.string ⟨#[]⟩) (.slice a2 1 k2)
  unfold set5 at b2 o2 hb2
  clear f0 f1 f2 f3 f4 d0 d1 d2 d3 d4 hsz hsz1
  generalize (((((wz.setCell ⟨w.heap.size, 0, none⟩ (.int .i64 3)).setCell ⟨w.heap.size, 1, none⟩ (.int .i64 0)).setCell ⟨w.heap.size, 2, none⟩ (.int .i64 0)).setCell ⟨w.heap.size, 3, none⟩ (.string ⟨#[]⟩)).setCell ⟨w.heap.size, 4, none⟩ (.slice a2 1 k2)) = w2 at *
  have B2 := Lib.hid b2
  have R2 := Lib.hid (Rd.of_own o2)
  have HB2 := Lib.hid hb2
  have c0 := cell_of_box b2 0 rfl
  have c1 := cell_of_box b2 1 rfl
  have c2 := cell_of_box b2 2 rfl
  have c3 := cell_of_box b2 3 rfl
  have c4 := cell_of_box b2 4 rfl
  clear b2 o2 hb2 BZ HO HBZ
  go_wp2_with fail
  refine (put_o (m := [pB1, pB2]) R2.out (by decide) al_p2).mono ?_
  rintro e wz ⟨a3, k3, rfl, ho, hwz⟩
  have bz := bx_later hwz B2.out
  have f0 := frozen_of_box bz 0
  have f1 := frozen_of_box bz 1
  have f2 := frozen_of_box bz 2
  have f3 := frozen_of_box bz 3
  have f4 := frozen_of_box bz 4
  have d0 := cell_of_box bz 0 rfl
  have d1 := cell_of_box bz 1 rfl
  have d2 := cell_of_box bz 2 rfl
  have d3 := cell_of_box bz 3 rfl
  have d4 := cell_of_box bz 4 rfl
  have BZ := Lib.hid bz
  have HO := Lib.hid ho
  have HBZ := Lib.hid (below_then HB2.out hwz)
  have hsz : w.heap.size < wz.heap.size := (Array.getElem?_eq_some_iff.1 bz).1
  have hsz1 : w.heap.size < w2.heap.size := (Array.getElem?_eq_some_iff.1 B2.out).1
  clear bz ho hwz c0 c1 c2 c3 c4
  go_upto_region 4 with fail
  have b3 := bx_set5 (a' := .int .i64 3) (b' := .int .i64 0) (c' := .int .i64 0) (d' := .string ⟨#[]⟩) (e' := .slice a3 2 k3) BZ.out
  have o3 := own_set5 (a' := .int .i64 3) (b' := .int .i64 0) (c' := .int .i64 0) (d' := .string ⟨#[]⟩) (e' := .slice a3 2 k3) BZ.out HO.out rfl
  have hb3 := below_set5 HBZ.out (Nat.le_refl _) (.int .i64 3) (.int .i64 0) (.int .i64 0) (.string ⟨#[]⟩) (.slice a3 2 k3)
  unfold set5 at b3 o3 hb3
  clear f0 f1 f2 f3 f4 d0 d1 d2 d3 d4 hsz hsz1
  generalize (((((wz.setCell ⟨w.heap.size, 0, none⟩ (.int .i64 3)).setCell ⟨w.heap.size, 1, none⟩ (.int .i64 0)).setCell ⟨w.heap.size, 2, none⟩ (.int .i64 0)).setCell ⟨w.heap.size, 3, none⟩ (.string ⟨#[]⟩)).setCell ⟨w.heap.size, 4, none⟩ (.slice a3 2 k3)) = w3 at *
  have B3 := Lib.hid b3
  have R3 := Lib.hid (Rd.of_own o3)
  have HB3 := Lib.hid hb3
  have c0 := cell_of_box b3 0 rfl
  have c1 := cell_of_box b3 1 rfl
  have c2 := cell_of_box b3 2 rfl
  have c3 := cell_of_box b3 3 rfl
  have c4 := cell_of_box b3 4 rfl
  clear b3 o3 hb3 BZ HO HBZ
  go_wp2_with fail
  refine (put_o (m := [pB3, pB1, pB2]) R3.out (by decide) al_p3).mono ?_
  rintro e wz ⟨a4, k4, rfl, ho, hwz⟩
  have bz := bx_later hwz B3.out
  have f0 := frozen_of_box bz 0
  have f1 := frozen_of_box bz 1
  have f2 := frozen_of_box bz 2
  have f3 := frozen_of_box bz 3
  have f4 := frozen_of_box bz 4
  have d0 := cell_of_box bz 0 rfl
  have d1 := cell_of_box bz 1 rfl
  have d2 := cell_of_box bz 2 rfl
  have d3 := cell_of_box bz 3 rfl
  have d4 := cell_of_box bz 4 rfl
  have BZ := Lib.hid bz
  have HO := Lib.hid ho
  have HBZ := Lib.hid (below_then HB3.out hwz)
  have hsz : w.heap.size < wz.heap.size := (Array.getElem?_eq_some_iff.1 bz).1
  have hsz1 : w.heap.size < w3.heap.size := (Array.getElem?_eq_some_iff.1 B3.out).1
  clear bz ho hwz c0 c1 c2 c3 c4
  go_upto_region 5 with fail
  have b4 := bx_set5 (a' := .int .i64 3) (b' := .int .i64 0) (c' := .int .i64 0) (d' := .string ⟨#[]⟩) (e' := .slice a4 3 k4) BZ.out
  have o4 := own_set5 (a' := .int .i64 3) (b' := .int .i64 0) (c' := .int .i64 0) (d' := .string ⟨#[]⟩) (e' := .slice a4 3 k4) BZ.out HO.out rfl
  have hb4 := below_set5 HBZ.out (Nat.le_refl _) (.int .i64 3) (.int .i64 0) (.int .i64 0) (.string ⟨#[]⟩) (.slice a4 3 k4)
  unfold set5 at b4 o4 hb4
  clear f0 f1 f2 f3 f4 d0 d1 d2 d3 d4 hsz hsz1
  generalize (((((wz.setCell ⟨w.heap.size, 0, none⟩ (.int .i64 3)).setCell ⟨w.heap.size, 1, none⟩ (.int .i64 0)).setCell ⟨w.heap.size, 2, none⟩ (.int .i64 0)).setCell ⟨w.heap.size, 3, none⟩ (.string ⟨#[]⟩)).setCell ⟨w.heap.size, 4, none⟩ (.slice a4 3 k4)) = w4 at *
  have B4 := Lib.hid b4
  have R4 := Lib.hid (Rd.of_own o4)
  have HB4 := Lib.hid hb4
  have c0 := cell_of_box b4 0 rfl
  have c1 := cell_of_box b4 1 rfl
  have c2 := cell_of_box b4 2 rfl
  have c3 := cell_of_box b4 3 rfl
  have c4 := cell_of_box b4 4 rfl
  clear b4 o4 hb4 BZ HO HBZ
  have RC0 := Lib.hid R4.out
  go_wp2_with fail
  refine (take_o [1] (m := [pB3, pB2]) (R4.out.later (below_alloc _ _)) (rd_ints w4 #[.int .i64 1] 3 [1] _ rfl rfl (by decide)) (by decide) al_t1).mono ?_
  rintro e wz ⟨a5, k5, rfl, ho, hb⟩
  have hwz := below_alloc_then hb
  have BC := Lib.hid (bx_later hwz B4.out)
  have RC := Lib.hid (R4.out.later hwz)
  have RD := Lib.hid (Rd.of_own ho)
  have HBZ := Lib.hid (below_then HB4.out hwz)
  clear ho hb hwz c0 c1 c2 c3 c4
  go_upto_region 6 with fail
  obtain ⟨w5, hw5⟩ : ∃ w5, wz.alloc (.cells #[.int .i64 3, .int .i64 0, .int .i64 0, .string ⟨#[]⟩, .slice a5 2 k5] 26) = w5 := ⟨_, rfl⟩
  have hb : Below wz.heap.size wz w5 := by rw [← hw5]; exact below_alloc _ _
  have bn : Bx w5 wz.heap.size #[.int .i64 3, .int .i64 0, .int .i64 0, .string ⟨#[]⟩, .slice a5 2 k5] 26 := by rw [← hw5]; exact bx_new rfl
  rw [hw5]
  clear hw5
  have BD := Lib.hid bn
  replace BC := Lib.hid (bx_later hb BC.out)
  replace RC := Lib.hid (RC.out.later hb)
  replace RD := Lib.hid (RD.out.later hb)
  replace HBZ := Lib.hid (below_then HBZ.out hb)
  obtain ⟨gD, hgD⟩ : ∃ g, wz.heap.size = g := ⟨_, rfl⟩
  rw [hgD] at BD ⊢
  clear bn hb hgD
  have c0 := cell_of_box BC.out 0 rfl
  have c1 := cell_of_box BC.out 1 rfl
  have c2 := cell_of_box BC.out 2 rfl
  have c3 := cell_of_box BC.out 3 rfl
  have c4 := cell_of_box BC.out 4 rfl
  have d0 := cell_of_box BD.out 0 rfl
  have d1 := cell_of_box BD.out 1 rfl
  have d2 := cell_of_box BD.out 2 rfl
  have d3 := cell_of_box BD.out 3 rfl
  have d4 := cell_of_box BD.out 4 rfl
  go_wp2_with fail
  refine (take_o [1, 1] (m := [pB3]) (RD.out.later (below_alloc _ _)) (rd_ints w5 #[.int .i64 1, .int .i64 1] 3 [1, 1] _ rfl rfl (by decide)) (by decide) al_t2).mono ?_
  rintro e wy ⟨a6, k6, rfl, ho, hb⟩
  have hwz := below_alloc_then hb
  replace BC := Lib.hid (bx_later hwz BC.out)
  replace BD := Lib.hid (bx_later hwz BD.out)
  replace RC := Lib.hid (RC.out.later hwz)
  replace RD := Lib.hid (RD.out.later hwz)
  have RE := Lib.hid (Rd.of_own ho)
  replace HBZ := Lib.hid (below_then HBZ.out hwz)
  clear ho hb hwz c0 c1 c2 c3 c4 d0 d1 d2 d3 d4
  go_upto_region 7 with fail
  obtain ⟨w6, hw6⟩ : ∃ w6, wy.alloc (.cells #[.int .i64 3, .int .i64 0, .int .i64 0, .string ⟨#[]⟩, .slice a6 1 k6] 26) = w6 := ⟨_, rfl⟩
  have hb : Below wy.heap.size wy w6 := by rw [← hw6]; exact below_alloc _ _
  have bn : Bx w6 wy.heap.size #[.int .i64 3, .int .i64 0, .int .i64 0, .string ⟨#[]⟩, .slice a6 1 k6] 26 := by rw [← hw6]; exact bx_new rfl
  rw [hw6]
  clear hw6
  have BE := Lib.hid bn
  replace BC := Lib.hid (bx_later hb BC.out)
  replace BD := Lib.hid (bx_later hb BD.out)
  replace RC := Lib.hid (RC.out.later hb)
  replace RD := Lib.hid (RD.out.later hb)
  replace RE := Lib.hid (RE.out.later hb)
  replace HBZ := Lib.hid (below_then HBZ.out hb)
  obtain ⟨gE, hgE⟩ : ∃ g, wy.heap.size = g := ⟨_, rfl⟩
  rw [hgE] at BE ⊢
  clear bn hb hgE
  have c0 := cell_of_box BC.out 0 rfl
  have c1 := cell_of_box BC.out 1 rfl
  have c2 := cell_of_box BC.out 2 rfl
  have c3 := cell_of_box BC.out 3 rfl
  have c4 := cell_of_box BC.out 4 rfl
  have d0 := cell_of_box BD.out 0 rfl
  have d1 := cell_of_box BD.out 1 rfl
  have d2 := cell_of_box BD.out 2 rfl
  have d3 := cell_of_box BD.out 3 rfl
  have d4 := cell_of_box BD.out 4 rfl
  have e0 := cell_of_box BE.out 0 rfl
  have e1 := cell_of_box BE.out 1 rfl
  have e2 := cell_of_box BE.out 2 rfl
  have e3 := cell_of_box BE.out 3 rfl
  have e4 := cell_of_box BE.out 4 rfl
  refine wp_region_flow (by kernel_rfl) 44 [(1, ⟨fun v => ∃ a k, v = .slice a 2 k, fun v _ _ w' => ∃ a k, v = .slice a 2 k ∧ Rd w' (.slice a 2 k) ([-3, 5] : List Int).length (([-3, 5] : List Int).map ic)⟩), (2, ⟨fun v => ∃ g : Nat, v = .slice (some ⟨g, 0, none⟩) 2 2, fun v _ _ w' => ∃ g : Nat, v = .slice (some ⟨g, 0, none⟩) 2 2 ∧ Rd w' (.slice (some ⟨g, 0, none⟩) 2 2) ([-3, 5] : List Int).length (([-3, 5] : List Int).map ic)⟩), (3, ⟨fun v => v = .bool true, fun _ _ _ _ => True⟩), (12, ⟨fun v => v = .bool true, fun _ _ _ _ => True⟩), (16, ⟨fun v => v = .bool false, fun _ _ _ _ => True⟩), (21, ⟨fun v => v = .agg #[.int .i64 1, .int .i64 1, .string ⟨#[]⟩], fun _ _ _ _ => True⟩), (27, ⟨fun v => v = .bool true, fun _ _ _ _ => True⟩), (31, ⟨fun v => v = .bool false, fun _ _ _ _ => True⟩), (37, ⟨fun v => ∃ g : Nat, v = .slice (some ⟨g, 0, none⟩) 2 2, fun v _ _ w' => ∃ g : Nat, v = .slice (some ⟨g, 0, none⟩) 2 2 ∧ Rd w' (.slice (some ⟨g, 0, none⟩) 2 2) ([1, 1] : List Int).length (([1, 1] : List Int).map ic)⟩), (38, ⟨fun v => ∃ g : Nat, v = .slice (some ⟨g, 0, none⟩) 3 3, fun v _ _ w' => ∃ g : Nat, v = .slice (some ⟨g, 0, none⟩) 3 3 ∧ Rd w' (.slice (some ⟨g, 0, none⟩) 3 3) ([1, 1, 2] : List Int).length (([1, 1, 2] : List Int).map ic)⟩), (39, ⟨fun v => ∃ a k, v = .agg #[.int .i64 3, .int .i64 0, .int .i64 0, .string ⟨#[]⟩, .slice a 1 k], fun v _ _ w' => ∃ a k, v = .agg #[.int .i64 3, .int .i64 0, .int .i64 0, .string ⟨#[]⟩, .slice a 1 k] ∧ PRd w' (.slice a 1 k) [pB3]⟩), (41, ⟨fun v => v = .bool true, fun _ _ _ _ => True⟩)] (by kernel_rfl) ?_ ?_ ?_
  · intro x hx
    simp only [List.mem_cons, List.not_mem_nil, or_false] at hx
    rcases hx with rfl | rfl | rfl | rfl | rfl | rfl | rfl | rfl | rfl | rfl | rfl | rfl
    · exact ⟨_, none, 0, rfl⟩
    · exact ⟨_, 0, rfl⟩
    · exact ⟨_, rfl⟩
    · exact ⟨_, rfl⟩
    · exact ⟨_, rfl⟩
    · exact ⟨_, rfl⟩
    · exact ⟨_, rfl⟩
    · exact ⟨_, rfl⟩
    · exact ⟨_, 0, rfl⟩
    · exact ⟨_, 0, rfl⟩
    · exact ⟨_, none, 0, rfl⟩
    · exact ⟨_, rfl⟩
  · intro x hx v lo hi w w' h hb
    simp only [List.mem_cons, List.not_mem_nil, or_false] at hx
    rcases hx with rfl | rfl | rfl | rfl | rfl | rfl | rfl | rfl | rfl | rfl | rfl | rfl
    · obtain ⟨a, k, rfl, h1⟩ := h
      exact ⟨a, k, rfl, h1.later hb⟩
    · obtain ⟨g, rfl, h1⟩ := h
      exact ⟨g, rfl, h1.later hb⟩
    · exact trivial
    · exact trivial
    · exact trivial
    · exact trivial
    · exact trivial
    · exact trivial
    · obtain ⟨g, rfl, h1⟩ := h
      exact ⟨g, rfl, h1.later hb⟩
    · obtain ⟨g, rfl, h1⟩ := h
      exact ⟨g, rfl, h1.later hb⟩
    · obtain ⟨a, k, rfl, h1⟩ := h
      exact ⟨a, k, rfl, h1.later hb⟩
    · exact trivial
  · intro lo hi
    have kc0 := cell_regrown c0
    have kc1 := cell_regrown c1
    have kc2 := cell_regrown c2
    have kc3 := cell_regrown c3
    have kc4 := cell_regrown c4
    have kd0 := cell_regrown d0
    have kd1 := cell_regrown d1
    have kd2 := cell_regrown d2
    have kd3 := cell_regrown d3
    have kd4 := cell_regrown d4
    have ke0 := cell_regrown e0
    have ke1 := cell_regrown e1
    have ke2 := cell_regrown e2
    have ke3 := cell_regrown e3
    have ke4 := cell_regrown e4
    refine flowW_plain rfl ?_
    go_big_quiet_step (fail)
    refine wpQuiet_nil ?_
    refine flowW_call rfl rfl ?_ ?_
    · intro W hW hF K hK
      clear kc0 kc1 kc2 kc3 kc4 kd0 kd1 kd2 kd3 kd4 ke0 ke1 ke2 ke3 ke4
      go_wp2_with fail
      refine (numbers_p (RC.out.later hW) (by decide) al_n1).mono ?_
      rintro e wq ⟨a, k, rfl, ho, hbq⟩
      go_wp2_with fail
      exact hK _ _ ⟨a, k, rfl⟩ ⟨a, k, rfl, ho⟩ hbq
    rintro v ⟨a1, k1, rfl⟩ K hK
    go_simp
    refine hK _ ?_
    clear hK K
    refine flowW_call rfl rfl ?_ ?_
    · intro W hW hF K hK
      clear kc0 kc1 kc2 kc3 kc4 kd0 kd1 kd2 kd3 kd4 ke0 ke1 ke2 ke3 ke4
      go_wp2_with fail
      exact hK _ _ ⟨_, rfl⟩ ⟨_, rfl, rd_ints W #[.int .i64 (-3), .int .i64 5] 3 [-3, 5] _ rfl rfl (by decide)⟩ (below_alloc _ _)
    rintro v ⟨g2, rfl⟩ K hK
    go_simp
    refine hK _ ?_
    clear hK K
    refine flowW_call rfl rfl ?_ ?_
    · intro W hW hF K hK
      clear kc0 kc1 kc2 kc3 kc4 kd0 kd1 kd2 kd3 kd4 ke0 ke1 ke2 ke3 ke4
      obtain ⟨_, _, he1, h1⟩ := hF 1 rfl
      cases he1
      obtain ⟨_, he2, h2⟩ := hF 2 rfl
      cases he2
      go_wp2_with fail
      refine (ints_same _ _ [-3, 5] _ h1 h2 (by decide)).mono ?_
      rintro e wq ⟨rfl, hbq⟩
      go_wp2_with fail
      exact hK _ _ rfl trivial hbq
    rintro v rfl K hK
    go_simp
    refine hK _ ?_
    clear hK K
    refine flowW_plain rfl ?_
    go_big_quiet_step (fail)
    refine wpQuiet_nil ?_
    refine flowW_plain rfl ?_
    go_big_quiet_step (fail)
    refine wpQuiet_nil ?_
    refine flowW_plain rfl ?_
    go_big_quiet_step (fail)
    refine wpQuiet_nil ?_
    refine flowW_plain rfl ?_
    go_big_quiet_step (fail)
    refine wpQuiet_nil ?_
    refine flowW_plain rfl ?_
    go_big_quiet_step (fail)
    refine wpQuiet_nil ?_
    refine flowW_plain rfl ?_
    go_big_quiet_step (fail)
    refine wpQuiet_nil ?_
    refine flowW_plain rfl ?_
    go_big_quiet_step (fail)
    refine wpQuiet_nil ?_
    refine flowW_plain rfl ?_
    go_big_quiet_step (fail)
    refine wpQuiet_nil ?_
    refine flowW_call rfl rfl ?_ ?_
    · intro W hW hF K hK
      clear kc0 kc1 kc2 kc3 kc4 kd0 kd1 kd2 kd3 kd4 ke0 ke1 ke2 ke3 ke4
      go_wp2_with fail
      refine (hasN_b true al_h1 (RD.out.later hW) (by decide)).mono ?_
      rintro e wq ⟨rfl, hbq⟩
      go_wp2_with fail
      exact hK _ _ rfl trivial hbq
    rintro v rfl K hK
    go_simp
    refine hK _ ?_
    clear hK K
    refine flowW_plain rfl ?_
    go_big_quiet_step (fail)
    refine wpQuiet_nil ?_
    refine flowW_plain rfl ?_
    go_big_quiet_step (fail)
    refine wpQuiet_nil ?_
    refine flowW_plain rfl ?_
    go_big_quiet_step (fail)
    refine wpQuiet_nil ?_
    refine flowW_call rfl rfl ?_ ?_
    · intro W hW hF K hK
      clear kc0 kc1 kc2 kc3 kc4 kd0 kd1 kd2 kd3 kd4 ke0 ke1 ke2 ke3 ke4
      go_wp2_with fail
      refine (hasN_b false al_h2 (RE.out.later hW) (by decide)).mono ?_
      rintro e wq ⟨rfl, hbq⟩
      go_wp2_with fail
      exact hK _ _ rfl trivial hbq
    rintro v rfl K hK
    go_simp
    refine hK _ ?_
    clear hK K
    refine flowW_plain rfl ?_
    go_big_quiet_step (fail)
    refine wpQuiet_nil ?_
    refine flowW_plain rfl ?_
    go_big_quiet_step (fail)
    refine wpQuiet_nil ?_
    refine flowW_plain rfl ?_
    go_big_quiet_step (fail)
    refine wpQuiet_nil ?_
    refine flowW_plain rfl ?_
    go_big_quiet_step (fail)
    refine wpQuiet_nil ?_
    refine flowW_call rfl rfl ?_ ?_
    · intro W hW hF K hK
      clear kc0 kc1 kc2 kc3 kc4 kd0 kd1 kd2 kd3 kd4 ke0 ke1 ke2 ke3 ke4
      go_wp2_with fail
      refine (show_p (q := 1) (RE.out.later hW) (by decide) (by rw [al_n2]; rfl)).mono ?_
      rintro e wq ⟨rfl, hbq⟩
      go_wp2_with fail
      exact hK _ _ rfl trivial hbq
    rintro v rfl K hK
    go_simp
    refine hK _ ?_
    clear hK K
    refine flowW_plain rfl ?_
    go_big_quiet_step (fail)
    refine wpQuiet_nil ?_
    refine flowW_plain rfl ?_
    go_big_quiet_step (fail)
    refine wpQuiet_nil ?_
    refine flowW_plain rfl ?_
    go_big_quiet_step (fail)
    refine wpQuiet_nil ?_
    refine flowW_plain rfl ?_
    go_big_quiet_step (fail)
    refine wpQuiet_nil ?_
    refine flowW_plain rfl ?_
    go_big_quiet_step (fail)
    refine wpQuiet_nil ?_
    refine flowW_call rfl rfl ?_ ?_
    · intro W hW hF K hK
      clear kc0 kc1 kc2 kc3 kc4 kd0 kd1 kd2 kd3 kd4 ke0 ke1 ke2 ke3 ke4
      go_wp2_with fail
      refine (right_b true al_r1 (RC.out.later hW) (by decide)).mono ?_
      rintro e wq ⟨rfl, hbq⟩
      go_wp2_with fail
      exact hK _ _ rfl trivial hbq
    rintro v rfl K hK
    go_simp
    refine hK _ ?_
    clear hK K
    refine flowW_plain rfl ?_
    go_big_quiet_step (fail)
    refine wpQuiet_nil ?_
    refine flowW_plain rfl ?_
    go_big_quiet_step (fail)
    refine wpQuiet_nil ?_
    refine flowW_plain rfl ?_
    go_big_quiet_step (fail)
    refine wpQuiet_nil ?_
    refine flowW_call rfl rfl ?_ ?_
    · intro W hW hF K hK
      clear kc0 kc1 kc2 kc3 kc4 kd0 kd1 kd2 kd3 kd4 ke0 ke1 ke2 ke3 ke4
      go_wp2_with fail
      refine (right_b false al_r2 (rd_nilP _) (by decide)).mono ?_
      rintro e wq ⟨rfl, hbq⟩
      go_wp2_with fail
      exact hK _ _ rfl trivial hbq
    rintro v rfl K hK
    go_simp
    refine hK _ ?_
    clear hK K
    refine flowW_plain rfl ?_
    go_big_quiet_step (fail)
    refine wpQuiet_nil ?_
    refine flowW_plain rfl ?_
    go_big_quiet_step (fail)
    refine wpQuiet_nil ?_
    refine flowW_plain rfl ?_
    go_big_quiet_step (fail)
    refine wpQuiet_nil ?_
    refine flowW_plain rfl ?_
    go_big_quiet_step (fail)
    refine wpQuiet_nil ?_
    refine flowW_plain rfl ?_
    go_big_quiet_step (fail)
    refine wpQuiet_nil ?_
    refine flowW_call rfl rfl ?_ ?_
    · intro W hW hF K hK
      clear kc0 kc1 kc2 kc3 kc4 kd0 kd1 kd2 kd3 kd4 ke0 ke1 ke2 ke3 ke4
      go_wp2_with fail
      exact hK _ _ ⟨_, rfl⟩ ⟨_, rfl, rd_ints W #[.int .i64 1, .int .i64 1] 3 [1, 1] _ rfl rfl (by decide)⟩ (below_alloc _ _)
    rintro v ⟨g37, rfl⟩ K hK
    go_simp
    refine hK _ ?_
    clear hK K
    refine flowW_call rfl rfl ?_ ?_
    · intro W hW hF K hK
      clear kc0 kc1 kc2 kc3 kc4 kd0 kd1 kd2 kd3 kd4 ke0 ke1 ke2 ke3 ke4
      go_wp2_with fail
      exact hK _ _ ⟨_, rfl⟩ ⟨_, rfl, rd_ints W #[.int .i64 1, .int .i64 1, .int .i64 2] 3 [1, 1, 2] _ rfl rfl (by decide)⟩ (below_alloc _ _)
    rintro v ⟨g38, rfl⟩ K hK
    go_simp
    refine hK _ ?_
    clear hK K
    refine flowW_call rfl rfl ?_ ?_
    · intro W hW hF K hK
      clear kc0 kc1 kc2 kc3 kc4 kd0 kd1 kd2 kd3 kd4 ke0 ke1 ke2 ke3 ke4
      obtain ⟨_, he37, h37⟩ := hF 37 rfl
      cases he37
      obtain ⟨_, he38, h38⟩ := hF 38 rfl
      cases he38
      go_wp2_with fail
      refine (join_p [1, 1] [1, 1, 2] (RC.out.later hW) (RE.out.later hW) h37 h38 (by decide) (by decide) al_j).mono ?_
      rintro e wq ⟨a, k, rfl, ho, hbq⟩
      go_wp2_with fail
      exact hK _ _ ⟨a, k, rfl⟩ ⟨a, k, rfl, ho⟩ hbq
    rintro v ⟨a39, k39, rfl⟩ K hK
    go_simp
    refine hK _ ?_
    clear hK K
    refine flowW_plain rfl ?_
    go_big_quiet_step (fail)
    refine wpQuiet_nil ?_
    refine flowW_call rfl rfl ?_ ?_
    · intro W hW hF K hK
      clear kc0 kc1 kc2 kc3 kc4 kd0 kd1 kd2 kd3 kd4 ke0 ke1 ke2 ke3 ke4
      obtain ⟨_, _, he39, h39⟩ := hF 39 rfl
      cases he39
      go_wp2_with fail
      refine (same_p [pB3] h39 (RE.out.later hW) (by decide)).mono ?_
      rintro e wq ⟨rfl, hbq⟩
      go_wp2_with fail
      exact hK _ _ rfl trivial hbq
    rintro v rfl K hK
    go_simp
    refine hK _ ?_
    clear hK K
    refine flowW_plain rfl ?_
    go_big_quiet_step (fail)
    refine wpQuiet_nil ?_
    refine flowW_plain rfl ?_
    go_big_quiet_step (fail)
    refine wpQuiet_nil ?_
    refine flowW_end fun wx hwx hF hD => ?_
    clear kc0 kc1 kc2 kc3 kc4 kd0 kd1 kd2 kd3 kd4 ke0 ke1 ke2 ke3 ke4
    simp only [List.drop_succ_cons, List.drop_zero]
    go_wp2_with fail
    go_ret
    exact ⟨rfl, below_then HBZ.out hwx⟩
end Go.Proofs.Ytnpciogpegmejaa
