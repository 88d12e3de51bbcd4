/-
  Layer 17 (tx): Right at four transactions. (printed by tools/gen_wb.py)
-/
import Derived.Test.YtliokkoalkhpaaaWA
namespace Go.Proofs.Ytliokkoalkhpaaa
open Go.RowKit Go.Sort Go.BigFrame
attribute [local irreducible] FlowW

theorem vecRight_b {v : Value} {l : List Int} {w : World} (b : Bool) (hb : rightVec l = b) (h : Rd w v l.length (l.map ic)) :
    Calls Try.prog 53 #[v] w fun e w' => e = .returned (.bool b) ∧ Below w.heap.size w w' :=
  (vecRight_any v l w h).mono fun e w' ⟨h1, h2⟩ => ⟨by rw [h1, hb], h2 ▸ Below.refl _ _⟩
theorem ofV_b {v : Value} {l : List Int} {d : Int} {w : World} (n : Int) (hn : ofV l d = n) (h : Rd w v l.length (l.map ic)) :
    Calls Try.prog 54 #[v, .int .i64 d] w fun e w' => e = .returned (.int .i64 n) ∧ Below w.heap.size w w' :=
  (ofV_any v l d w h).mono fun e w' ⟨h1, h2⟩ => ⟨by rw [h1, hn], h2 ▸ Below.refl _ _⟩
theorem rd_tab {w : World} {at_ ac : Option Addr} {ct cc : Nat} (h : Rd w (.slice at_ 1 ct) 1 [.string ⟨#[97]⟩, .slice ac 1 cc, .slice none 0 0, .slice none 0 0, .slice none 0 0, .slice none 0 0]) :
    ∃ b o : Nat, (∀ W, (Instr.indexAt 49 (.slice at_ 1 ct) (.int .i64 0)).run Try.prog W = .ok (.pointer (some ⟨b, o, none⟩)) W) ∧ w.cell? ⟨b, o, none⟩ = some (.string ⟨#[97]⟩) ∧ w.cell? ⟨b, o + 1, none⟩ = some (.slice ac 1 cc) ∧ w.cell? ⟨b, o + 2, none⟩ = some (.slice none 0 0) ∧ w.cell? ⟨b, o + 3, none⟩ = some (.slice none 0 0) ∧ w.cell? ⟨b, o + 4, none⟩ = some (.slice none 0 0) ∧ w.cell? ⟨b, o + 5, none⟩ = some (.slice none 0 0) := by
  obtain ⟨A, hA, _, hlt, hc⟩ := h.elem 6 0 (by omega) rfl (by decide)
  obtain ⟨b, o, s⟩ := A
  have hs : s = none := by
    obtain ⟨u, _, hu⟩ := hc 0 (by decide)
    have := World.cell?_spot hu
    simpa [Addr.add] using this
  subst hs
  have key : ∀ j, j < 6 → ∀ u, ([.string ⟨#[97]⟩, .slice ac 1 cc, .slice none 0 0, .slice none 0 0, .slice none 0 0, .slice none 0 0] : List Value)[0 * 6 + j]? = some u → w.cell? ⟨b, o + j, none⟩ = some u := by
    intro j hj u hu
    obtain ⟨u', h1, h2⟩ := hc j hj
    rw [hu] at h1
    cases h1
    rw [Addr.add_lit] at h2
    exact h2
  exact ⟨b, o, fun W => run_indexAt_at elTab hA (by omega) W, key 0 (by decide) _ rfl, key 1 (by decide) _ rfl, key 2 (by decide) _ rfl, key 3 (by decide) _ rfl, key 4 (by decide) _ rfl, key 5 (by decide) _ rfl⟩

/-- The one operation. -/
def op1 (ar : Option Addr) (cr : Nat) : OpM := ⟨⟨1, 0, 0, 0, [v7], ⟨0, 0, ⟨#[]⟩⟩, (0, 0), 0⟩, .slice ar 1 cr⟩
set_option maxRecDepth 100000 in
set_option maxHeartbeats 4000000 in
theorem opRight_ok {at_ ac ar : Option Addr} {ct cc cr : Nat} {w : World} (ht : Rd w (.slice at_ 1 ct) 1 [.string ⟨#[97]⟩, .slice ac 1 cc, .slice none 0 0, .slice none 0 0, .slice none 0 0, .slice none 0 0]) (hc : Rd w (.slice ac 1 cc) 1 (colsCs [idC])) (hr : Rd w (.slice ar 1 cr) 1 (rowCs [v7])) :
    Calls Try.prog 56 #[.agg #[.slice at_ 1 ct], .agg #[.int .i64 1, .int .i64 0, .int .i64 0, .int .i64 0, .slice ar 1 cr, .int .i64 0, .int .i64 0, .string ⟨#[]⟩, .int .i64 0, .int .i64 0, .int .i64 0]] w fun e w' => e = .returned (.int .i64 0) ∧ Below w.heap.size w w' := by
  obtain ⟨w1, hw1⟩ : ∃ w1, (w.alloc (.cells #[.slice at_ 1 ct] 51)).alloc (.cells #[.int .i64 1, .int .i64 0, .int .i64 0, .int .i64 0, .slice ar 1 cr, .int .i64 0, .int .i64 0, .string ⟨#[]⟩, .int .i64 0, .int .i64 0, .int .i64 0] 89) = w1 := ⟨_, rfl⟩
  have hb1 : Below w.heap.size w w1 := by rw [← hw1]; exact below_alloc_then (below_alloc _ _)
  have b0 : Bx w1 w.heap.size #[.slice at_ 1 ct] 51 := by rw [← hw1]; exact bx_later (below_alloc _ _) (bx_new (by simp))
  have b1 : Bx w1 (w.heap.size + 1) #[.int .i64 1, .int .i64 0, .int .i64 0, .int .i64 0, .slice ar 1 cr, .int .i64 0, .int .i64 0, .string ⟨#[]⟩, .int .i64 0, .int .i64 0, .int .i64 0] 89 := by rw [← hw1]; exact bx_new (by simp)
  have s0 := cell_of_box b0 0 rfl
  have p0 := cell_of_box b1 0 rfl
  have p1 := cell_of_box b1 1 rfl
  have p2 := cell_of_box b1 2 rfl
  have p3 := cell_of_box b1 3 rfl
  have p4 := cell_of_box b1 4 rfl
  have p5 := cell_of_box b1 5 rfl
  have p6 := cell_of_box b1 6 rfl
  have p7 := cell_of_box b1 7 rfl
  have p8 := cell_of_box b1 8 rfl
  have p9 := cell_of_box b1 9 rfl
  have p10 := cell_of_box b1 10 rfl
  obtain ⟨b, oo, hi, t0, t1, t2, t3, t4, t5⟩ := rd_tab (ht.later hb1)
  have hct : 1 ≤ ct := by obtain ⟨_, _, hv, h1, -, -, -⟩ := id ht; cases hv; omega
  have hcu : ct ≤ maxLen := by obtain ⟨_, _, hv, -, h1, -, -⟩ := id ht; cases hv; exact h1
  unfold maxLen at hcu
  have HW := Lib.hid hw1
  have HB1 := Lib.hid hb1
  have HC := Lib.hid hc
  have HR := Lib.hid hr
  clear hw1 hb1 b0 b1 hc hr ht
  go_enter Try.func56, Try.ntmps56
  go_wp2_with fail
  rw [HW.out]
  refine (within_b true (by decide)).mono ?_
  rintro e w2 ⟨rfl, rfl⟩
  go_wp2_with fail
  refine (within_b true (by decide)).mono ?_
  rintro e w2 ⟨rfl, rfl⟩
  go_wp2_with fail
  refine wp_region_flow (by kernel_rfl) 9 [(7, ⟨fun v => v = .int .i64 0, fun _ _ _ _ => True⟩)] (by kernel_rfl) ?_ ?_ ?_
  · intro x hx
    simp only [List.mem_cons, List.not_mem_nil, or_false] at hx
    subst hx
    exact ⟨_, rfl⟩
  · intro x hx v lo hi w w' h hb
    simp only [List.mem_cons, List.not_mem_nil, or_false] at hx
    subst hx
    exact trivial
  · intro lo hi
    have ks0 := cell_regrown s0
    have kp0 := cell_regrown p0
    have kp1 := cell_regrown p1
    have kp2 := cell_regrown p2
    have kp3 := cell_regrown p3
    have kp4 := cell_regrown p4
    have kp5 := cell_regrown p5
    have kp6 := cell_regrown p6
    have kp7 := cell_regrown p7
    have kp8 := cell_regrown p8
    have kp9 := cell_regrown p9
    have kp10 := cell_regrown p10
    have kt0 := cell_regrown t0
    have kt1 := cell_regrown t1
    have kt2 := cell_regrown t2
    have kt3 := cell_regrown t3
    have kt4 := cell_regrown t4
    have kt5 := cell_regrown t5
    refine flowW_plain rfl ?_
    go_big_quiet_step (fail)
    refine wpQuiet_nil ?_
    refine flowW_plain rfl ?_
    go_big_quiet_step (fail)
    refine wpQuiet_nil ?_
    refine flowW_plain rfl ?_
    go_big_quiet_step (fail)
    refine wpQuiet_nil ?_
    refine flowW_plain rfl ?_
    go_big_quiet_step (fail)
    refine wpQuiet_nil ?_
    refine flowW_plain rfl ?_
    go_big_quiet_step (fail)
    refine wpQuiet_nil ?_
    refine flowW_plain rfl ?_
    go_big_quiet_step (fail)
    refine wpQuiet_nil ?_
    refine flowW_plain rfl ?_
    go_big_quiet_step (fail)
    refine wpQuiet_nil ?_
    refine flowW_call rfl rfl ?_ ?_
    · intro W hW hF K hK
      clear ks0 kp0 kp1 kp2 kp3 kp4 kp5 kp6 kp7 kp8 kp9 kp10 kt0 kt1 kt2 kt3 kt4 kt5
      go_wp2_with fail
      refine (insert_ok (HC.out.later (below_then HB1.out hW)) (HR.out.later (below_then HB1.out hW))).mono ?_
      rintro e wq ⟨rfl, hbq⟩
      go_wp2_with fail
      exact hK _ _ rfl trivial hbq
    rintro v rfl K hK
    go_simp
    refine hK _ ?_
    clear hK K
    refine flowW_plain rfl ?_
    go_big_quiet_step (fail)
    refine wpQuiet_nil ?_
    refine flowW_end fun w2 hw2 hF hD => ?_
    clear ks0 kp0 kp1 kp2 kp3 kp4 kp5 kp6 kp7 kp8 kp9 kp10 kt0 kt1 kt2 kt3 kt4 kt5
    simp only [List.drop_succ_cons, List.drop_zero]
    have HB2 := Lib.hid (below_then HB1.out hw2)
    clear hF hD hw2
    go_wp2_with fail
    go_ret
    exact ⟨rfl, HB2.out⟩

set_option maxRecDepth 100000 in
theorem note_none {ad ao ah : Option Addr} {cd no co nh ch : Nat} (w : World) : Calls Try.prog 55 #[.agg #[.int .i64 2, .int .i64 3, .int .i64 5, .slice ad 2 cd, .slice ao no co, .slice none 0 0, .bool false, .slice ah nh ch, .int .i64 0, .int .i64 0, .int .i64 0]] w fun e w' => e = .returned (.bool true) ∧ Below w.heap.size w w' := by
  go_enter Try.func55, Try.ntmps55
  go_wp2
  go_ret
  exact ⟨rfl, below_alloc _ _⟩
set_option maxRecDepth 100000 in
theorem note_bad {ad : Option Addr} {cd : Nat} (w : World) : Calls Try.prog 55 #[.agg #[.int .i64 2, .int .i64 3, .int .i64 5, .slice ad 2 cd, .slice none 0 0, .slice none 0 0, .bool false, .slice none 0 0, .int .i64 2, .int .i64 1, .int .i64 0]] w fun e w' => e = .returned (.bool false) ∧ Below w.heap.size w w' := by
  go_enter Try.func55, Try.ntmps55
  go_wp2_with fail
  refine (txIn_b true (by decide)).mono ?_
  rintro e w1 ⟨rfl, rfl⟩
  go_wp2_with fail
  refine (txIn_b false (by decide)).mono ?_
  rintro e w1 ⟨rfl, rfl⟩
  go_wp2_with fail
  go_ret
  exact ⟨rfl, below_alloc _ _⟩
set_option maxRecDepth 100000 in
set_option maxHeartbeats 8000000 in
theorem right_gap {at_ ad : Option Addr} {ct cd : Nat} {ao : Option Addr} {co : Nat} {w : World} (hd : Rd w (.slice ad 2 cd) 2 (([1, 1] : List Int).map ic)) :
    Calls Try.prog 26 #[.agg #[.slice at_ 1 ct], .agg #[.int .i64 2, .int .i64 3, .int .i64 5, .slice ad 2 cd, .slice ao 1 co, .slice none 0 0, .bool false, .slice none 0 0, .int .i64 0, .int .i64 0, .int .i64 0]] w fun e w' => e = .returned (.int .i64 1) ∧ Below w.heap.size w w' := by
  obtain ⟨w1, hw1⟩ : ∃ w1, (w.alloc (.cells #[.slice at_ 1 ct] 51)).alloc (.cells #[.int .i64 2, .int .i64 3, .int .i64 5, .slice ad 2 cd, .slice ao 1 co, .slice none 0 0, .bool false, .slice none 0 0, .int .i64 0, .int .i64 0, .int .i64 0] 27) = w1 := ⟨_, rfl⟩
  have hb1 : Below w.heap.size w w1 := by rw [← hw1]; exact below_alloc_then (below_alloc _ _)
  have b0 : Bx w1 w.heap.size #[.slice at_ 1 ct] 51 := by rw [← hw1]; exact bx_later (below_alloc _ _) (bx_new (by simp))
  have b1 : Bx w1 (w.heap.size + 1) #[.int .i64 2, .int .i64 3, .int .i64 5, .slice ad 2 cd, .slice ao 1 co, .slice none 0 0, .bool false, .slice none 0 0, .int .i64 0, .int .i64 0, .int .i64 0] 27 := by rw [← hw1]; exact bx_new (by simp)
  have p0 := cell_of_box b1 0 rfl
  have p1 := cell_of_box b1 1 rfl
  have p2 := cell_of_box b1 2 rfl
  have p3 := cell_of_box b1 3 rfl
  have p4 := cell_of_box b1 4 rfl
  have p5 := cell_of_box b1 5 rfl
  have p6 := cell_of_box b1 6 rfl
  have p7 := cell_of_box b1 7 rfl
  have p8 := cell_of_box b1 8 rfl
  have p9 := cell_of_box b1 9 rfl
  have p10 := cell_of_box b1 10 rfl
  have HW := Lib.hid hw1
  have HB1 := Lib.hid hb1
  have HS := Lib.hid b0
  have HT := Lib.hid b1
  have HD := Lib.hid (hd.later hb1)
  clear hw1 hb1 b0 b1 hd
  go_enter Try.func26, Try.ntmps26
  go_wp2_with fail
  rw [HW.out]
  refine (txIn_b true (by decide)).mono ?_
  rintro e w2 ⟨rfl, rfl⟩
  go_wp2_with fail
  refine (txIn_b true (by decide)).mono ?_
  rintro e w2 ⟨rfl, rfl⟩
  go_wp2_with fail
  refine (txIn_b true (by decide)).mono ?_
  rintro e w2 ⟨rfl, rfl⟩
  go_wp2_with fail
  refine wp_region_flow (by kernel_rfl) 16 [(2, ⟨fun v => v = .bool true, fun _ _ _ _ => True⟩), (9, ⟨fun v => v = .int .i64 1, fun _ _ _ _ => True⟩)] (by kernel_rfl) ?_ ?_ ?_
  · intro x hx
    simp only [List.mem_cons, List.not_mem_nil, or_false] at hx
    rcases hx with rfl | rfl
    · exact ⟨_, rfl⟩
    · exact ⟨_, rfl⟩
  · intro x hx v lo hi w w' h hb
    simp only [List.mem_cons, List.not_mem_nil, or_false] at hx
    rcases hx with rfl | rfl
    · exact trivial
    · exact trivial
  · intro lo hi
    have kp0 := cell_regrown p0
    have kp1 := cell_regrown p1
    have kp2 := cell_regrown p2
    have kp3 := cell_regrown p3
    have kp4 := cell_regrown p4
    have kp5 := cell_regrown p5
    have kp6 := cell_regrown p6
    have kp7 := cell_regrown p7
    have kp8 := cell_regrown p8
    have kp9 := cell_regrown p9
    have kp10 := cell_regrown p10
    refine flowW_plain rfl ?_
    go_big_quiet_step (fail)
    refine wpQuiet_nil ?_
    refine flowW_plain rfl ?_
    go_big_quiet_step (fail)
    refine wpQuiet_nil ?_
    refine flowW_call rfl rfl ?_ ?_
    · intro W hW hF K hK
      clear kp0 kp1 kp2 kp3 kp4 kp5 kp6 kp7 kp8 kp9 kp10
      go_wp2_with fail
      refine (vecRight_b (l := [1, 1]) true (by decide +kernel) (HD.out.later hW)).mono ?_
      rintro e wq ⟨rfl, hbq⟩
      go_wp2_with fail
      exact hK _ _ rfl trivial hbq
    rintro v rfl K hK
    go_simp
    refine hK _ ?_
    clear hK K
    refine flowW_plain rfl ?_
    go_big_quiet_step (fail)
    refine wpQuiet_nil ?_
    refine flowW_plain rfl ?_
    go_big_quiet_step (fail)
    refine wpQuiet_nil ?_
    refine flowW_plain rfl ?_
    go_big_quiet_step (fail)
    refine wpQuiet_nil ?_
    refine flowW_plain rfl ?_
    go_big_quiet_step (fail)
    refine wpQuiet_nil ?_
    refine flowW_plain rfl ?_
    go_big_quiet_step (fail)
    refine wpQuiet_nil ?_
    refine flowW_plain rfl ?_
    go_big_quiet_step (fail)
    refine wpQuiet_nil ?_
    refine flowW_call rfl rfl ?_ ?_
    · intro W hW hF K hK
      clear kp0 kp1 kp2 kp3 kp4 kp5 kp6 kp7 kp8 kp9 kp10
      go_wp2_with fail
      refine (ofV_b (l := [1, 1]) 1 (by decide +kernel) (HD.out.later hW)).mono ?_
      rintro e wq ⟨rfl, hbq⟩
      go_wp2_with fail
      exact hK _ _ rfl trivial hbq
    rintro v rfl K hK
    go_simp
    refine hK _ ?_
    clear hK K
    refine flowW_plain rfl ?_
    go_big_quiet_step (fail)
    refine wpQuiet_nil ?_
    refine flowW_plain rfl ?_
    go_big_quiet_step (fail)
    refine wpQuiet_nil ?_
    refine flowW_plain rfl ?_
    go_big_quiet_step (fail)
    refine wpQuiet_nil ?_
    refine flowW_plain rfl ?_
    go_big_quiet_step (fail)
    refine wpQuiet_nil ?_
    refine flowW_plain rfl ?_
    go_big_quiet_step (fail)
    refine wpQuiet_nil ?_
    refine flowW_plain rfl ?_
    go_big_quiet_step (fail)
    refine wpQuiet_nil ?_
    refine flowW_end fun w2 hw2 hF hD => ?_
    clear kp0 kp1 kp2 kp3 kp4 kp5 kp6 kp7 kp8 kp9 kp10
    simp only [List.drop_succ_cons, List.drop_zero]
    have HB2 := Lib.hid (below_then HB1.out hw2)
    have HT2 := Lib.hid (bx_later hw2 HT.out)
    have HS2 := Lib.hid (bx_later hw2 HS.out)
    clear hF hD hw2 p0 p1 p2 p3 p4 p5 p6 p7 p8 p9 p10
    have p0 := cell_of_box HT2.out 0 rfl
    have p1 := cell_of_box HT2.out 1 rfl
    have p2 := cell_of_box HT2.out 2 rfl
    have p3 := cell_of_box HT2.out 3 rfl
    have p4 := cell_of_box HT2.out 4 rfl
    have p5 := cell_of_box HT2.out 5 rfl
    have p6 := cell_of_box HT2.out 6 rfl
    have p7 := cell_of_box HT2.out 7 rfl
    have p8 := cell_of_box HT2.out 8 rfl
    have p9 := cell_of_box HT2.out 9 rfl
    have p10 := cell_of_box HT2.out 10 rfl
    go_wp2_with fail
    go_ret
    exact ⟨rfl, HB2.out⟩
set_option maxRecDepth 100000 in
set_option maxHeartbeats 8000000 in
theorem right_hand {at_ ad : Option Addr} {ct cd : Nat} {ao ah : Option Addr} {co ch : Nat} {w : World} (hd : Rd w (.slice ad 2 cd) 2 (([1, 2] : List Int).map ic)) :
    Calls Try.prog 26 #[.agg #[.slice at_ 1 ct], .agg #[.int .i64 2, .int .i64 3, .int .i64 5, .slice ad 2 cd, .slice ao 1 co, .slice none 0 0, .bool false, .slice ah 1 ch, .int .i64 0, .int .i64 0, .int .i64 0]] w fun e w' => e = .returned (.int .i64 1) ∧ Below w.heap.size w w' := by
  obtain ⟨w1, hw1⟩ : ∃ w1, (w.alloc (.cells #[.slice at_ 1 ct] 51)).alloc (.cells #[.int .i64 2, .int .i64 3, .int .i64 5, .slice ad 2 cd, .slice ao 1 co, .slice none 0 0, .bool false, .slice ah 1 ch, .int .i64 0, .int .i64 0, .int .i64 0] 27) = w1 := ⟨_, rfl⟩
  have hb1 : Below w.heap.size w w1 := by rw [← hw1]; exact below_alloc_then (below_alloc _ _)
  have b0 : Bx w1 w.heap.size #[.slice at_ 1 ct] 51 := by rw [← hw1]; exact bx_later (below_alloc _ _) (bx_new (by simp))
  have b1 : Bx w1 (w.heap.size + 1) #[.int .i64 2, .int .i64 3, .int .i64 5, .slice ad 2 cd, .slice ao 1 co, .slice none 0 0, .bool false, .slice ah 1 ch, .int .i64 0, .int .i64 0, .int .i64 0] 27 := by rw [← hw1]; exact bx_new (by simp)
  have p0 := cell_of_box b1 0 rfl
  have p1 := cell_of_box b1 1 rfl
  have p2 := cell_of_box b1 2 rfl
  have p3 := cell_of_box b1 3 rfl
  have p4 := cell_of_box b1 4 rfl
  have p5 := cell_of_box b1 5 rfl
  have p6 := cell_of_box b1 6 rfl
  have p7 := cell_of_box b1 7 rfl
  have p8 := cell_of_box b1 8 rfl
  have p9 := cell_of_box b1 9 rfl
  have p10 := cell_of_box b1 10 rfl
  have HW := Lib.hid hw1
  have HB1 := Lib.hid hb1
  have HS := Lib.hid b0
  have HT := Lib.hid b1
  have HD := Lib.hid (hd.later hb1)
  clear hw1 hb1 b0 b1 hd
  go_enter Try.func26, Try.ntmps26
  go_wp2_with fail
  rw [HW.out]
  refine (txIn_b true (by decide)).mono ?_
  rintro e w2 ⟨rfl, rfl⟩
  go_wp2_with fail
  refine (txIn_b true (by decide)).mono ?_
  rintro e w2 ⟨rfl, rfl⟩
  go_wp2_with fail
  refine (txIn_b true (by decide)).mono ?_
  rintro e w2 ⟨rfl, rfl⟩
  go_wp2_with fail
  refine wp_region_flow (by kernel_rfl) 16 [(2, ⟨fun v => v = .bool true, fun _ _ _ _ => True⟩), (9, ⟨fun v => v = .int .i64 2, fun _ _ _ _ => True⟩)] (by kernel_rfl) ?_ ?_ ?_
  · intro x hx
    simp only [List.mem_cons, List.not_mem_nil, or_false] at hx
    rcases hx with rfl | rfl
    · exact ⟨_, rfl⟩
    · exact ⟨_, rfl⟩
  · intro x hx v lo hi w w' h hb
    simp only [List.mem_cons, List.not_mem_nil, or_false] at hx
    rcases hx with rfl | rfl
    · exact trivial
    · exact trivial
  · intro lo hi
    have kp0 := cell_regrown p0
    have kp1 := cell_regrown p1
    have kp2 := cell_regrown p2
    have kp3 := cell_regrown p3
    have kp4 := cell_regrown p4
    have kp5 := cell_regrown p5
    have kp6 := cell_regrown p6
    have kp7 := cell_regrown p7
    have kp8 := cell_regrown p8
    have kp9 := cell_regrown p9
    have kp10 := cell_regrown p10
    refine flowW_plain rfl ?_
    go_big_quiet_step (fail)
    refine wpQuiet_nil ?_
    refine flowW_plain rfl ?_
    go_big_quiet_step (fail)
    refine wpQuiet_nil ?_
    refine flowW_call rfl rfl ?_ ?_
    · intro W hW hF K hK
      clear kp0 kp1 kp2 kp3 kp4 kp5 kp6 kp7 kp8 kp9 kp10
      go_wp2_with fail
      refine (vecRight_b (l := [1, 2]) true (by decide +kernel) (HD.out.later hW)).mono ?_
      rintro e wq ⟨rfl, hbq⟩
      go_wp2_with fail
      exact hK _ _ rfl trivial hbq
    rintro v rfl K hK
    go_simp
    refine hK _ ?_
    clear hK K
    refine flowW_plain rfl ?_
    go_big_quiet_step (fail)
    refine wpQuiet_nil ?_
    refine flowW_plain rfl ?_
    go_big_quiet_step (fail)
    refine wpQuiet_nil ?_
    refine flowW_plain rfl ?_
    go_big_quiet_step (fail)
    refine wpQuiet_nil ?_
    refine flowW_plain rfl ?_
    go_big_quiet_step (fail)
    refine wpQuiet_nil ?_
    refine flowW_plain rfl ?_
    go_big_quiet_step (fail)
    refine wpQuiet_nil ?_
    refine flowW_plain rfl ?_
    go_big_quiet_step (fail)
    refine wpQuiet_nil ?_
    refine flowW_call rfl rfl ?_ ?_
    · intro W hW hF K hK
      clear kp0 kp1 kp2 kp3 kp4 kp5 kp6 kp7 kp8 kp9 kp10
      go_wp2_with fail
      refine (ofV_b (l := [1, 2]) 2 (by decide +kernel) (HD.out.later hW)).mono ?_
      rintro e wq ⟨rfl, hbq⟩
      go_wp2_with fail
      exact hK _ _ rfl trivial hbq
    rintro v rfl K hK
    go_simp
    refine hK _ ?_
    clear hK K
    refine flowW_plain rfl ?_
    go_big_quiet_step (fail)
    refine wpQuiet_nil ?_
    refine flowW_plain rfl ?_
    go_big_quiet_step (fail)
    refine wpQuiet_nil ?_
    refine flowW_plain rfl ?_
    go_big_quiet_step (fail)
    refine wpQuiet_nil ?_
    refine flowW_plain rfl ?_
    go_big_quiet_step (fail)
    refine wpQuiet_nil ?_
    refine flowW_plain rfl ?_
    go_big_quiet_step (fail)
    refine wpQuiet_nil ?_
    refine flowW_plain rfl ?_
    go_big_quiet_step (fail)
    refine wpQuiet_nil ?_
    refine flowW_end fun w2 hw2 hF hD => ?_
    clear kp0 kp1 kp2 kp3 kp4 kp5 kp6 kp7 kp8 kp9 kp10
    simp only [List.drop_succ_cons, List.drop_zero]
    have HB2 := Lib.hid (below_then HB1.out hw2)
    have HT2 := Lib.hid (bx_later hw2 HT.out)
    have HS2 := Lib.hid (bx_later hw2 HS.out)
    clear hF hD hw2 p0 p1 p2 p3 p4 p5 p6 p7 p8 p9 p10
    have p0 := cell_of_box HT2.out 0 rfl
    have p1 := cell_of_box HT2.out 1 rfl
    have p2 := cell_of_box HT2.out 2 rfl
    have p3 := cell_of_box HT2.out 3 rfl
    have p4 := cell_of_box HT2.out 4 rfl
    have p5 := cell_of_box HT2.out 5 rfl
    have p6 := cell_of_box HT2.out 6 rfl
    have p7 := cell_of_box HT2.out 7 rfl
    have p8 := cell_of_box HT2.out 8 rfl
    have p9 := cell_of_box HT2.out 9 rfl
    have p10 := cell_of_box HT2.out 10 rfl
    go_wp2_with fail
    go_ret
    exact ⟨rfl, HB2.out⟩
set_option maxRecDepth 100000 in
set_option maxHeartbeats 8000000 in
theorem right_note {at_ ad : Option Addr} {ct cd : Nat} {w : World} (hd : Rd w (.slice ad 2 cd) 2 (([1, 2] : List Int).map ic)) :
    Calls Try.prog 26 #[.agg #[.slice at_ 1 ct], .agg #[.int .i64 2, .int .i64 3, .int .i64 5, .slice ad 2 cd, .slice none 0 0, .slice none 0 0, .bool false, .slice none 0 0, .int .i64 2, .int .i64 1, .int .i64 0]] w fun e w' => e = .returned (.int .i64 1) ∧ Below w.heap.size w w' := by
  obtain ⟨w1, hw1⟩ : ∃ w1, (w.alloc (.cells #[.slice at_ 1 ct] 51)).alloc (.cells #[.int .i64 2, .int .i64 3, .int .i64 5, .slice ad 2 cd, .slice none 0 0, .slice none 0 0, .bool false, .slice none 0 0, .int .i64 2, .int .i64 1, .int .i64 0] 27) = w1 := ⟨_, rfl⟩
  have hb1 : Below w.heap.size w w1 := by rw [← hw1]; exact below_alloc_then (below_alloc _ _)
  have b0 : Bx w1 w.heap.size #[.slice at_ 1 ct] 51 := by rw [← hw1]; exact bx_later (below_alloc _ _) (bx_new (by simp))
  have b1 : Bx w1 (w.heap.size + 1) #[.int .i64 2, .int .i64 3, .int .i64 5, .slice ad 2 cd, .slice none 0 0, .slice none 0 0, .bool false, .slice none 0 0, .int .i64 2, .int .i64 1, .int .i64 0] 27 := by rw [← hw1]; exact bx_new (by simp)
  have p0 := cell_of_box b1 0 rfl
  have p1 := cell_of_box b1 1 rfl
  have p2 := cell_of_box b1 2 rfl
  have p3 := cell_of_box b1 3 rfl
  have p4 := cell_of_box b1 4 rfl
  have p5 := cell_of_box b1 5 rfl
  have p6 := cell_of_box b1 6 rfl
  have p7 := cell_of_box b1 7 rfl
  have p8 := cell_of_box b1 8 rfl
  have p9 := cell_of_box b1 9 rfl
  have p10 := cell_of_box b1 10 rfl
  have HW := Lib.hid hw1
  have HB1 := Lib.hid hb1
  have HS := Lib.hid b0
  have HT := Lib.hid b1
  have HD := Lib.hid (hd.later hb1)
  clear hw1 hb1 b0 b1 hd
  go_enter Try.func26, Try.ntmps26
  go_wp2_with fail
  rw [HW.out]
  refine (txIn_b true (by decide)).mono ?_
  rintro e w2 ⟨rfl, rfl⟩
  go_wp2_with fail
  refine (txIn_b true (by decide)).mono ?_
  rintro e w2 ⟨rfl, rfl⟩
  go_wp2_with fail
  refine (txIn_b true (by decide)).mono ?_
  rintro e w2 ⟨rfl, rfl⟩
  go_wp2_with fail
  refine wp_region_flow (by kernel_rfl) 16 [(2, ⟨fun v => v = .bool true, fun _ _ _ _ => True⟩), (9, ⟨fun v => v = .int .i64 2, fun _ _ _ _ => True⟩)] (by kernel_rfl) ?_ ?_ ?_
  · intro x hx
    simp only [List.mem_cons, List.not_mem_nil, or_false] at hx
    rcases hx with rfl | rfl
    · exact ⟨_, rfl⟩
    · exact ⟨_, rfl⟩
  · intro x hx v lo hi w w' h hb
    simp only [List.mem_cons, List.not_mem_nil, or_false] at hx
    rcases hx with rfl | rfl
    · exact trivial
    · exact trivial
  · intro lo hi
    have kp0 := cell_regrown p0
    have kp1 := cell_regrown p1
    have kp2 := cell_regrown p2
    have kp3 := cell_regrown p3
    have kp4 := cell_regrown p4
    have kp5 := cell_regrown p5
    have kp6 := cell_regrown p6
    have kp7 := cell_regrown p7
    have kp8 := cell_regrown p8
    have kp9 := cell_regrown p9
    have kp10 := cell_regrown p10
    refine flowW_plain rfl ?_
    go_big_quiet_step (fail)
    refine wpQuiet_nil ?_
    refine flowW_plain rfl ?_
    go_big_quiet_step (fail)
    refine wpQuiet_nil ?_
    refine flowW_call rfl rfl ?_ ?_
    · intro W hW hF K hK
      clear kp0 kp1 kp2 kp3 kp4 kp5 kp6 kp7 kp8 kp9 kp10
      go_wp2_with fail
      refine (vecRight_b (l := [1, 2]) true (by decide +kernel) (HD.out.later hW)).mono ?_
      rintro e wq ⟨rfl, hbq⟩
      go_wp2_with fail
      exact hK _ _ rfl trivial hbq
    rintro v rfl K hK
    go_simp
    refine hK _ ?_
    clear hK K
    refine flowW_plain rfl ?_
    go_big_quiet_step (fail)
    refine wpQuiet_nil ?_
    refine flowW_plain rfl ?_
    go_big_quiet_step (fail)
    refine wpQuiet_nil ?_
    refine flowW_plain rfl ?_
    go_big_quiet_step (fail)
    refine wpQuiet_nil ?_
    refine flowW_plain rfl ?_
    go_big_quiet_step (fail)
    refine wpQuiet_nil ?_
    refine flowW_plain rfl ?_
    go_big_quiet_step (fail)
    refine wpQuiet_nil ?_
    refine flowW_plain rfl ?_
    go_big_quiet_step (fail)
    refine wpQuiet_nil ?_
    refine flowW_call rfl rfl ?_ ?_
    · intro W hW hF K hK
      clear kp0 kp1 kp2 kp3 kp4 kp5 kp6 kp7 kp8 kp9 kp10
      go_wp2_with fail
      refine (ofV_b (l := [1, 2]) 2 (by decide +kernel) (HD.out.later hW)).mono ?_
      rintro e wq ⟨rfl, hbq⟩
      go_wp2_with fail
      exact hK _ _ rfl trivial hbq
    rintro v rfl K hK
    go_simp
    refine hK _ ?_
    clear hK K
    refine flowW_plain rfl ?_
    go_big_quiet_step (fail)
    refine wpQuiet_nil ?_
    refine flowW_plain rfl ?_
    go_big_quiet_step (fail)
    refine wpQuiet_nil ?_
    refine flowW_plain rfl ?_
    go_big_quiet_step (fail)
    refine wpQuiet_nil ?_
    refine flowW_plain rfl ?_
    go_big_quiet_step (fail)
    refine wpQuiet_nil ?_
    refine flowW_plain rfl ?_
    go_big_quiet_step (fail)
    refine wpQuiet_nil ?_
    refine flowW_plain rfl ?_
    go_big_quiet_step (fail)
    refine wpQuiet_nil ?_
    refine flowW_end fun w2 hw2 hF hD => ?_
    clear kp0 kp1 kp2 kp3 kp4 kp5 kp6 kp7 kp8 kp9 kp10
    simp only [List.drop_succ_cons, List.drop_zero]
    have HB2 := Lib.hid (below_then HB1.out hw2)
    have HT2 := Lib.hid (bx_later hw2 HT.out)
    have HS2 := Lib.hid (bx_later hw2 HS.out)
    clear hF hD hw2 p0 p1 p2 p3 p4 p5 p6 p7 p8 p9 p10
    have p0 := cell_of_box HT2.out 0 rfl
    have p1 := cell_of_box HT2.out 1 rfl
    have p2 := cell_of_box HT2.out 2 rfl
    have p3 := cell_of_box HT2.out 3 rfl
    have p4 := cell_of_box HT2.out 4 rfl
    have p5 := cell_of_box HT2.out 5 rfl
    have p6 := cell_of_box HT2.out 6 rfl
    have p7 := cell_of_box HT2.out 7 rfl
    have p8 := cell_of_box HT2.out 8 rfl
    have p9 := cell_of_box HT2.out 9 rfl
    have p10 := cell_of_box HT2.out 10 rfl
    go_wp2_with fail
    refine (note_bad _).mono ?_
    rintro e w3 ⟨rfl, hb3⟩
    have HB3 := Lib.hid (below_then HB2.out hb3)
    clear hb3
    go_wp2_with fail
    go_ret
    exact ⟨rfl, HB3.out⟩
set_option maxRecDepth 100000 in
set_option maxHeartbeats 8000000 in
theorem right_ok {at_ ad : Option Addr} {ct cd : Nat} {ao ac ar : Option Addr} {co cc cr : Nat} {w : World} (hd : Rd w (.slice ad 2 cd) 2 (([1, 2] : List Int).map ic)) (ht : Rd w (.slice at_ 1 ct) 1 [.string ⟨#[97]⟩, .slice ac 1 cc, .slice none 0 0, .slice none 0 0, .slice none 0 0, .slice none 0 0]) (hc : Rd w (.slice ac 1 cc) 1 (colsCs [idC])) (hr : Rd w (.slice ar 1 cr) 1 (rowCs [v7])) (ho : Rd w (.slice ao 1 co) 1 ([op1 ar cr].flatMap OpM.cs)) :
    Calls Try.prog 26 #[.agg #[.slice at_ 1 ct], .agg #[.int .i64 2, .int .i64 3, .int .i64 5, .slice ad 2 cd, .slice ao 1 co, .slice none 0 0, .bool false, .slice none 0 0, .int .i64 0, .int .i64 0, .int .i64 0]] w fun e w' => e = .returned (.int .i64 0) ∧ Below w.heap.size w w' := by
  obtain ⟨w1, hw1⟩ : ∃ w1, (w.alloc (.cells #[.slice at_ 1 ct] 51)).alloc (.cells #[.int .i64 2, .int .i64 3, .int .i64 5, .slice ad 2 cd, .slice ao 1 co, .slice none 0 0, .bool false, .slice none 0 0, .int .i64 0, .int .i64 0, .int .i64 0] 27) = w1 := ⟨_, rfl⟩
  have hb1 : Below w.heap.size w w1 := by rw [← hw1]; exact below_alloc_then (below_alloc _ _)
  have b0 : Bx w1 w.heap.size #[.slice at_ 1 ct] 51 := by rw [← hw1]; exact bx_later (below_alloc _ _) (bx_new (by simp))
  have b1 : Bx w1 (w.heap.size + 1) #[.int .i64 2, .int .i64 3, .int .i64 5, .slice ad 2 cd, .slice ao 1 co, .slice none 0 0, .bool false, .slice none 0 0, .int .i64 0, .int .i64 0, .int .i64 0] 27 := by rw [← hw1]; exact bx_new (by simp)
  have p0 := cell_of_box b1 0 rfl
  have p1 := cell_of_box b1 1 rfl
  have p2 := cell_of_box b1 2 rfl
  have p3 := cell_of_box b1 3 rfl
  have p4 := cell_of_box b1 4 rfl
  have p5 := cell_of_box b1 5 rfl
  have p6 := cell_of_box b1 6 rfl
  have p7 := cell_of_box b1 7 rfl
  have p8 := cell_of_box b1 8 rfl
  have p9 := cell_of_box b1 9 rfl
  have p10 := cell_of_box b1 10 rfl
  have HW := Lib.hid hw1
  have HB1 := Lib.hid hb1
  have HS := Lib.hid b0
  have HT := Lib.hid b1
  have HD := Lib.hid (hd.later hb1)
  have HTB := Lib.hid ht
  have HC := Lib.hid hc
  have HR := Lib.hid hr
  have HO := Lib.hid ho
  clear ht hc hr ho
  have x0 : ∀ W, (Instr.index 102 (.agg #[.slice ao 1 co, .slice none 0 0]) (.int .i64 0)).run Try.prog W = .ok (.slice ao 1 co) W := fun _ => by kernel_rfl
  have x1 : ∀ W, (Instr.index 102 (.agg #[.slice ao 1 co, .slice none 0 0]) (.int .i64 1)).run Try.prog W = .ok (.slice none 0 0) W := fun _ => by kernel_rfl
  clear hw1 hb1 b0 b1 hd
  go_enter Try.func26, Try.ntmps26
  go_wp2_with fail
  rw [HW.out]
  refine (txIn_b true (by decide)).mono ?_
  rintro e w2 ⟨rfl, rfl⟩
  go_wp2_with fail
  refine (txIn_b true (by decide)).mono ?_
  rintro e w2 ⟨rfl, rfl⟩
  go_wp2_with fail
  refine (txIn_b true (by decide)).mono ?_
  rintro e w2 ⟨rfl, rfl⟩
  go_wp2_with fail
  refine wp_region_flow (by kernel_rfl) 16 [(2, ⟨fun v => v = .bool true, fun _ _ _ _ => True⟩), (9, ⟨fun v => v = .int .i64 2, fun _ _ _ _ => True⟩)] (by kernel_rfl) ?_ ?_ ?_
  · intro x hx
    simp only [List.mem_cons, List.not_mem_nil, or_false] at hx
    rcases hx with rfl | rfl
    · exact ⟨_, rfl⟩
    · exact ⟨_, rfl⟩
  · intro x hx v lo hi w w' h hb
    simp only [List.mem_cons, List.not_mem_nil, or_false] at hx
    rcases hx with rfl | rfl
    · exact trivial
    · exact trivial
  · intro lo hi
    have kp0 := cell_regrown p0
    have kp1 := cell_regrown p1
    have kp2 := cell_regrown p2
    have kp3 := cell_regrown p3
    have kp4 := cell_regrown p4
    have kp5 := cell_regrown p5
    have kp6 := cell_regrown p6
    have kp7 := cell_regrown p7
    have kp8 := cell_regrown p8
    have kp9 := cell_regrown p9
    have kp10 := cell_regrown p10
    refine flowW_plain rfl ?_
    go_big_quiet_step (fail)
    refine wpQuiet_nil ?_
    refine flowW_plain rfl ?_
    go_big_quiet_step (fail)
    refine wpQuiet_nil ?_
    refine flowW_call rfl rfl ?_ ?_
    · intro W hW hF K hK
      clear kp0 kp1 kp2 kp3 kp4 kp5 kp6 kp7 kp8 kp9 kp10
      go_wp2_with fail
      refine (vecRight_b (l := [1, 2]) true (by decide +kernel) (HD.out.later hW)).mono ?_
      rintro e wq ⟨rfl, hbq⟩
      go_wp2_with fail
      exact hK _ _ rfl trivial hbq
    rintro v rfl K hK
    go_simp
    refine hK _ ?_
    clear hK K
    refine flowW_plain rfl ?_
    go_big_quiet_step (fail)
    refine wpQuiet_nil ?_
    refine flowW_plain rfl ?_
    go_big_quiet_step (fail)
    refine wpQuiet_nil ?_
    refine flowW_plain rfl ?_
    go_big_quiet_step (fail)
    refine wpQuiet_nil ?_
    refine flowW_plain rfl ?_
    go_big_quiet_step (fail)
    refine wpQuiet_nil ?_
    refine flowW_plain rfl ?_
    go_big_quiet_step (fail)
    refine wpQuiet_nil ?_
    refine flowW_plain rfl ?_
    go_big_quiet_step (fail)
    refine wpQuiet_nil ?_
    refine flowW_call rfl rfl ?_ ?_
    · intro W hW hF K hK
      clear kp0 kp1 kp2 kp3 kp4 kp5 kp6 kp7 kp8 kp9 kp10
      go_wp2_with fail
      refine (ofV_b (l := [1, 2]) 2 (by decide +kernel) (HD.out.later hW)).mono ?_
      rintro e wq ⟨rfl, hbq⟩
      go_wp2_with fail
      exact hK _ _ rfl trivial hbq
    rintro v rfl K hK
    go_simp
    refine hK _ ?_
    clear hK K
    refine flowW_plain rfl ?_
    go_big_quiet_step (fail)
    refine wpQuiet_nil ?_
    refine flowW_plain rfl ?_
    go_big_quiet_step (fail)
    refine wpQuiet_nil ?_
    refine flowW_plain rfl ?_
    go_big_quiet_step (fail)
    refine wpQuiet_nil ?_
    refine flowW_plain rfl ?_
    go_big_quiet_step (fail)
    refine wpQuiet_nil ?_
    refine flowW_plain rfl ?_
    go_big_quiet_step (fail)
    refine wpQuiet_nil ?_
    refine flowW_plain rfl ?_
    go_big_quiet_step (fail)
    refine wpQuiet_nil ?_
    refine flowW_end fun w2 hw2 hF hD => ?_
    clear kp0 kp1 kp2 kp3 kp4 kp5 kp6 kp7 kp8 kp9 kp10
    simp only [List.drop_succ_cons, List.drop_zero]
    have HB2 := Lib.hid (below_then HB1.out hw2)
    have HT2 := Lib.hid (bx_later hw2 HT.out)
    have HS2 := Lib.hid (bx_later hw2 HS.out)
    clear hF hD hw2 p0 p1 p2 p3 p4 p5 p6 p7 p8 p9 p10
    have p0 := cell_of_box HT2.out 0 rfl
    have p1 := cell_of_box HT2.out 1 rfl
    have p2 := cell_of_box HT2.out 2 rfl
    have p3 := cell_of_box HT2.out 3 rfl
    have p4 := cell_of_box HT2.out 4 rfl
    have p5 := cell_of_box HT2.out 5 rfl
    have p6 := cell_of_box HT2.out 6 rfl
    have p7 := cell_of_box HT2.out 7 rfl
    have p8 := cell_of_box HT2.out 8 rfl
    have p9 := cell_of_box HT2.out 9 rfl
    have p10 := cell_of_box HT2.out 10 rfl
    go_wp2_with fail
    refine (note_none _).mono ?_
    rintro e w3 ⟨rfl, hb3⟩
    have HB3 := Lib.hid (below_then HB2.out hb3)
    have HT3 := Lib.hid (bx_later hb3 HT2.out)
    have HS3 := Lib.hid (bx_later hb3 HS2.out)
    clear hb3 p0 p1 p2 p3 p4 p5 p6 p7 p8 p9 p10
    have q4 := cell_of_box HT3.out 4 rfl
    have q5 := cell_of_box HT3.out 5 rfl
    have q7 := cell_of_box HT3.out 7 rfl
    go_wp2_with fail
    go_loopw [87] (fun vi wr => vi = .int .i64 0 ∧ w3 = wr) (fun _ _ => 0)
    case atStart => exact ⟨rfl, rfl⟩
    case round =>
      obtain ⟨rfl, rfl⟩ := hrel
      go_wp2_with fail
      go_loopw [108] (fun vi wr => (vi = .int .i64 0 ∨ vi = .int .i64 1 ∨ vi = .int .i64 2) ∧ Hid (Below w.heap.size w wr) ∧ Hid (Bx wr w.heap.size #[.slice at_ 1 ct] 51)) (fun vi _ => 2 - (intOf vi).toNat)
      case atStart => exact ⟨.inl rfl, HB3.out, HS3.out⟩
      case round =>
        obtain ⟨hvi, HB4, HS4⟩ := hrel
        rename World => wr
        rcases hvi with rfl | rfl | rfl
        · go_wp2_with fail
          go_loopw [113] (fun vi w4 => (vi = .int .i64 0 ∨ vi = .int .i64 1) ∧ Hid (Below w.heap.size w w4) ∧ Hid (Bx w4 w.heap.size #[.slice at_ 1 ct] 51)) (fun vi _ => 1 - (intOf vi).toNat)
          case atStart => exact ⟨.inl rfl, HB4.out, HS4.out⟩
          case round =>
            obtain ⟨hvj, HB5, HS5⟩ := hrel
            rename World => w4
            rcases hvj with rfl | rfl
            · obtain ⟨b, oo, hi, c0, c1, c2, c3, c4, c5, c6, c7, c8, c9, c10, _⟩ := rd_op (l := [op1 ar cr]) (HO.out.later HB5.out) rfl 0 (by simp) rfl
              have hi' : ∀ W, (Instr.indexAt 24 (.slice ao 1 co) (.int .i64 0)).run Try.prog W = .ok (.pointer (some ⟨b, oo, none⟩)) W := hi
              clear hi
              have e0 : w4.cell? ⟨b, oo, none⟩ = some (.int .i64 1) := c0
              have e1 : w4.cell? ⟨b, oo + 1, none⟩ = some (.int .i64 0) := c1
              have e2 : w4.cell? ⟨b, oo + 2, none⟩ = some (.int .i64 0) := c2
              have e3 : w4.cell? ⟨b, oo + 3, none⟩ = some (.int .i64 0) := c3
              have e4 : w4.cell? ⟨b, oo + 4, none⟩ = some (.slice ar 1 cr) := c4
              have e5 : w4.cell? ⟨b, oo + 5, none⟩ = some (.int .i64 0) := c5
              have e6 : w4.cell? ⟨b, oo + 6, none⟩ = some (.int .i64 0) := c6
              have e7 : w4.cell? ⟨b, oo + 7, none⟩ = some (.string ⟨#[]⟩) := c7
              have e8 : w4.cell? ⟨b, oo + 8, none⟩ = some (.int .i64 0) := c8
              have e9 : w4.cell? ⟨b, oo + 9, none⟩ = some (.int .i64 0) := c9
              have e10 : w4.cell? ⟨b, oo + 10, none⟩ = some (.int .i64 0) := c10
              clear c0 c1 c2 c3 c4 c5 c6 c7 c8 c9 c10
              have s0 := cell_of_box HS5.out 0 rfl
              have hb6 := below_alloc w4 (.cells #[.int .i64 1, .int .i64 0, .int .i64 0, .int .i64 0, .slice ar 1 cr, .int .i64 0, .int .i64 0, .string ⟨#[]⟩, .int .i64 0, .int .i64 0, .int .i64 0] 89)
              have C := Lib.hid (opRight_ok (w := w4.alloc (.cells #[.int .i64 1, .int .i64 0, .int .i64 0, .int .i64 0, .slice ar 1 cr, .int .i64 0, .int .i64 0, .string ⟨#[]⟩, .int .i64 0, .int .i64 0, .int .i64 0] 89)) (HTB.out.later (below_then HB5.out hb6)) (HC.out.later (below_then HB5.out hb6)) (HR.out.later (below_then HB5.out hb6)))
              have s1 := cell_of_box (bx_later hb6 HS5.out) 0 rfl
              clear hb6
              go_wp2_with fail
              refine C.out.mono ?_
              rintro e w6 ⟨rfl, hb6⟩
              have HB6 := Lib.hid (below_then HB5.out (below_alloc_then hb6))
              have HS6 := Lib.hid (bx_later (below_alloc_then hb6) HS5.out)
              clear hb6 s0 s1 e0 e1 e2 e3 e4 e5 e6 e7 e8 e9 e10 C
              go_wp2_with fail
              go_roundw
              case rel => exact ⟨.inr rfl, HB6.out, HS6.out⟩
              case measure => simp [intOf]
            · go_wp2_with fail
              go_roundw
              case rel => exact ⟨.inr (.inl rfl), HB5.out, HS5.out⟩
              case measure => simp [intOf]
        · go_wp2_with fail
          go_loopw [113] (fun vi w4 => vi = .int .i64 0 ∧ wr = w4) (fun _ _ => 0)
          case atStart => exact ⟨rfl, rfl⟩
          case round =>
            obtain ⟨rfl, rfl⟩ := hrel
            go_wp2_with fail
            go_roundw
            case rel => exact ⟨.inr (.inr rfl), HB4.out, HS4.out⟩
            case measure => simp [intOf]
        · go_wp2_with fail
          go_ret
          exact ⟨rfl, HB4.out⟩
end Go.Proofs.Ytliokkoalkhpaaa
