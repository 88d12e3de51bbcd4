/-
  Layer 17 (tx): Dot, Stamp, Knew. (printed by tools/gen_tk.py)
-/
import Derived.Test.YtnolbabpkhdpmaaTD
import Derived.Test.YtnolbabpkhdpmaaBB
import Derived.Test.YtnolbabpkhdpmaaFL
namespace Go.Proofs.Ytnolbabpkhdpmaa
open Go.RowKit Go.Sort Go.BigFrame
attribute [local irreducible] FlowW

set_option maxRecDepth 100000 in
theorem dot_any {dev seq time note whom upto : Int} {fm : Bool} {ad ao ae ah : Option Addr} {nd cd no co ne ce nh ch : Nat} (w : World) : Calls Try.prog 17 #[.agg #[.int .i64 dev, .int .i64 seq, .int .i64 time, .slice ad nd cd, .slice ao no co, .slice ae ne ce, .bool fm, .slice ah nh ch, .int .i64 note, .int .i64 whom, .int .i64 upto]] w fun e w' => e = .returned (.agg #[.int .i64 dev, .int .i64 seq]) ∧ Below w.heap.size w w' := by
  go_enter Try.func17, Try.ntmps17
  go_wp2
  exact bodyPost_ret (v := .agg #[.int .i64 dev, .int .i64 seq]) (by simp [results, Try.results17, go_sem]) rfl ⟨rfl, below_alloc_then (below_alloc _ _)⟩
set_option maxRecDepth 100000 in
theorem stamp_any {dev seq time note whom upto : Int} {fm : Bool} {ad ao ae ah : Option Addr} {nd cd no co ne ce nh ch : Nat} (w : World) : Calls Try.prog 30 #[.agg #[.int .i64 dev, .int .i64 seq, .int .i64 time, .slice ad nd cd, .slice ao no co, .slice ae ne ce, .bool fm, .slice ah nh ch, .int .i64 note, .int .i64 whom, .int .i64 upto]] w fun e w' => e = .returned (.agg #[.int .i64 time, .int .i64 dev, .int .i64 seq]) ∧ Below w.heap.size w w' := by
  go_enter Try.func30, Try.ntmps30
  go_wp2
  exact bodyPost_ret (v := .agg #[.int .i64 time, .int .i64 dev, .int .i64 seq]) (by simp [results, Try.results30, go_sem]) rfl ⟨rfl, below_alloc_then (below_alloc _ _)⟩
set_option maxRecDepth 100000 in
theorem refStamp_any {dev seq time note whom upto : Int} {fm : Bool} {ad ao ae ah : Option Addr} {nd cd no co ne ce nh ch : Nat} (w : World) : Calls Try.prog 67 #[.agg #[.int .i64 dev, .int .i64 seq, .int .i64 time, .slice ad nd cd, .slice ao no co, .slice ae ne ce, .bool fm, .slice ah nh ch, .int .i64 note, .int .i64 whom, .int .i64 upto]] w fun e w' => e = .returned (.agg #[.int .i64 time, .int .i64 dev, .int .i64 seq]) ∧ Below w.heap.size w w' := by
  go_enter Try.func67, Try.ntmps67
  go_wp2
  exact bodyPost_ret (v := .agg #[.int .i64 time, .int .i64 dev, .int .i64 seq]) (by simp [results, Try.results67, go_sem]) rfl ⟨rfl, below_alloc_then (below_alloc _ _)⟩

set_option maxRecDepth 100000 in
set_option maxHeartbeats 4000000 in
theorem knew_any {dev seq time note whom upto : Int} {fm : Bool} {ad ao ae ah : Option Addr} {cd no co ne ce nh ch : Nat} (deps : List Int) (d q : Int) (w : World) (hd : Rd w (.slice ad deps.length cd) deps.length (deps.map ic)) :
    Calls Try.prog 16 #[.agg #[.int .i64 dev, .int .i64 seq, .int .i64 time, .slice ad deps.length cd, .slice ao no co, .slice ae ne ce, .bool fm, .slice ah nh ch, .int .i64 note, .int .i64 whom, .int .i64 upto], .agg #[.int .i64 d, .int .i64 q]] w fun e w' => e = .returned (.bool (decide (d = dev ∧ q = seq) || hasV deps ⟨d, q⟩)) ∧ Below w.heap.size w w' := by
  obtain ⟨w1, hw1⟩ : ∃ w1, (w.alloc (.cells #[.int .i64 dev, .int .i64 seq, .int .i64 time, .slice ad deps.length cd, .slice ao no co, .slice ae ne ce, .bool fm, .slice ah nh ch, .int .i64 note, .int .i64 whom, .int .i64 upto] 31)).alloc (.cells #[.int .i64 d, .int .i64 q] 43) = w1 := ⟨_, rfl⟩
  have hb1 : Below w.heap.size w w1 := by rw [← hw1]; exact below_alloc_then (below_alloc _ _)
  have b0 : Bx w1 w.heap.size #[.int .i64 dev, .int .i64 seq, .int .i64 time, .slice ad deps.length cd, .slice ao no co, .slice ae ne ce, .bool fm, .slice ah nh ch, .int .i64 note, .int .i64 whom, .int .i64 upto] 31 := by rw [← hw1]; exact bx_later (below_alloc _ _) (bx_new (by simp))
  have b1 : Bx w1 (w.heap.size + 1) #[.int .i64 d, .int .i64 q] 43 := by rw [← hw1]; exact bx_new (by simp)
  have c0 := cell_of_box b0 0 rfl
  have c1 := cell_of_box b0 1 rfl
  have c2 := cell_of_box b0 2 rfl
  have c3 := cell_of_box b0 3 rfl
  have c4 := cell_of_box b0 4 rfl
  have c5 := cell_of_box b0 5 rfl
  have c6 := cell_of_box b0 6 rfl
  have c7 := cell_of_box b0 7 rfl
  have c8 := cell_of_box b0 8 rfl
  have c9 := cell_of_box b0 9 rfl
  have c10 := cell_of_box b0 10 rfl
  have e0 := cell_of_box b1 0 rfl
  have e1 := cell_of_box b1 1 rfl
  have HW := Lib.hid hw1
  have HB := Lib.hid hb1
  have HD := Lib.hid (hd.later hb1)
  clear hw1 hb1 b0 b1 hd
  obtain ⟨h, hh⟩ : ∃ h, hasV deps ⟨d, q⟩ = h := ⟨_, rfl⟩
  have HH := Lib.hid hh
  rw [hh]
  clear hh
  have key : (d = dev ∧ q = seq) ∨ ((d == dev) = false) ∨ (d = dev ∧ (q == seq) = false) := by
    by_cases h1 : d = dev
    · by_cases h2 : q = seq
      · exact .inl ⟨h1, h2⟩
      · exact .inr (.inr ⟨h1, by simpa using h2⟩)
    · exact .inr (.inl (by simpa using h1))
  rcases key with ⟨rfl, rfl⟩ | h1 | ⟨rfl, h1⟩
  · have HR : Hid ((decide (d = d ∧ q = q) || h) = true) := (by show _ = _; simp)
    go_enter Try.func16, Try.ntmps16
    go_wp2_with fail
    rw [HW.out]
    refine wp_region_flow (by kernel_rfl) 11 [(2, ⟨fun v => v = .agg #[.int .i64 d, .int .i64 q], fun _ _ _ _ => True⟩), (8, ⟨fun v => v = .bool h, fun _ _ _ _ => True⟩)] (by kernel_rfl) ?_ ?_ ?_
    · intro x hx
      simp only [List.mem_cons, List.not_mem_nil, or_false] at hx
      rcases hx with rfl | rfl
      · exact ⟨_, rfl⟩
      · exact ⟨_, rfl⟩
    · intro x hx v lo hi w w' h hb
      simp only [List.mem_cons, List.not_mem_nil, or_false] at hx
      rcases hx with rfl | rfl
      · exact trivial
      · exact trivial
    · intro lo hi
      have kc0 := cell_regrown c0
      have kc1 := cell_regrown c1
      have kc2 := cell_regrown c2
      have kc3 := cell_regrown c3
      have kc4 := cell_regrown c4
      have kc5 := cell_regrown c5
      have kc6 := cell_regrown c6
      have kc7 := cell_regrown c7
      have kc8 := cell_regrown c8
      have kc9 := cell_regrown c9
      have kc10 := cell_regrown c10
      have ke0 := cell_regrown e0
      have ke1 := cell_regrown e1
      refine flowW_plain rfl ?_
      go_big_quiet_step (fail)
      refine wpQuiet_nil ?_
      refine flowW_plain rfl ?_
      go_big_quiet_step (fail)
      refine wpQuiet_nil ?_
      refine flowW_call rfl rfl ?_ ?_
      · intro W hW hF K hK
        clear kc0 kc1 kc2 kc3 kc4 kc5 kc6 kc7 kc8 kc9 kc10 ke0 ke1
        go_wp2_with fail
        refine (dot_any _).mono ?_
        rintro e wq ⟨rfl, hbq⟩
        go_wp2_with fail
        exact hK _ _ rfl trivial hbq
      rintro v rfl K hK
      go_simp
      refine hK _ ?_
      clear hK K
      refine flowW_plain rfl ?_
      go_big_quiet_step (fail)
      refine wpQuiet_nil ?_
      refine flowW_plain rfl ?_
      go_big_quiet_step (fail)
      refine wpQuiet_nil ?_
      refine flowW_skip rfl ?_
      go_big_quiet_step (fail)
      refine wpQuiet_nil ?_
      refine flowW_skip rfl ?_
      go_big_quiet_step (fail)
      refine wpQuiet_nil ?_
      refine flowW_skip rfl ?_
      go_big_quiet_step (fail)
      refine wpQuiet_nil ?_
      refine flowW_skip rfl ?_
      go_big_quiet_step (fail)
      refine wpQuiet_nil ?_
      refine flowW_plain rfl ?_
      go_big_quiet_step (fail)
      refine wpQuiet_nil ?_
      refine flowW_plain rfl ?_
      go_big_quiet_step (fail)
      refine wpQuiet_nil ?_
      refine flowW_end fun w2 hw2 hF hD => ?_
      clear kc0 kc1 kc2 kc3 kc4 kc5 kc6 kc7 kc8 kc9 kc10 ke0 ke1
      simp only [List.drop_succ_cons, List.drop_zero]
      have HB2 := Lib.hid (below_then HB.out hw2)
      clear hw2 hF hD
      go_wp2_with fail
      go_ret
      exact ⟨ret_bool HR.out.symm, HB2.out⟩
  · have HR : Hid ((decide (d = dev ∧ q = seq) || h) = h) := (by show _ = _; have h2 : ¬ d = dev := (by simpa using h1); simp [h2])
    go_enter Try.func16, Try.ntmps16
    go_wp2_with fail
    rw [HW.out]
    refine wp_region_flow (by kernel_rfl) 11 [(2, ⟨fun v => v = .agg #[.int .i64 dev, .int .i64 seq], fun _ _ _ _ => True⟩), (8, ⟨fun v => v = .bool h, fun _ _ _ _ => True⟩)] (by kernel_rfl) ?_ ?_ ?_
    · intro x hx
      simp only [List.mem_cons, List.not_mem_nil, or_false] at hx
      rcases hx with rfl | rfl
      · exact ⟨_, rfl⟩
      · exact ⟨_, rfl⟩
    · intro x hx v lo hi w w' h hb
      simp only [List.mem_cons, List.not_mem_nil, or_false] at hx
      rcases hx with rfl | rfl
      · exact trivial
      · exact trivial
    · intro lo hi
      have kc0 := cell_regrown c0
      have kc1 := cell_regrown c1
      have kc2 := cell_regrown c2
      have kc3 := cell_regrown c3
      have kc4 := cell_regrown c4
      have kc5 := cell_regrown c5
      have kc6 := cell_regrown c6
      have kc7 := cell_regrown c7
      have kc8 := cell_regrown c8
      have kc9 := cell_regrown c9
      have kc10 := cell_regrown c10
      have ke0 := cell_regrown e0
      have ke1 := cell_regrown e1
      refine flowW_plain rfl ?_
      go_big_quiet_step (fail)
      refine wpQuiet_nil ?_
      refine flowW_plain rfl ?_
      go_big_quiet_step (fail)
      refine wpQuiet_nil ?_
      refine flowW_call rfl rfl ?_ ?_
      · intro W hW hF K hK
        clear kc0 kc1 kc2 kc3 kc4 kc5 kc6 kc7 kc8 kc9 kc10 ke0 ke1
        go_wp2_with fail
        refine (dot_any _).mono ?_
        rintro e wq ⟨rfl, hbq⟩
        go_wp2_with fail
        exact hK _ _ rfl trivial hbq
      rintro v rfl K hK
      go_simp
      refine hK _ ?_
      clear hK K
      refine flowW_plain rfl ?_
      go_big_quiet_step (fail)
      refine wpQuiet_nil ?_
      refine flowW_plain rfl ?_
      go_big_quiet_step (fail)
      refine wpQuiet_nil ?_
      refine flowW_plain rfl ?_
      go_big_quiet_step (fail)
      refine wpQuiet_nil ?_
      refine flowW_plain rfl ?_
      go_big_quiet_step (fail)
      refine wpQuiet_nil ?_
      refine flowW_plain rfl ?_
      go_big_quiet_step (fail)
      refine wpQuiet_nil ?_
      refine flowW_call rfl rfl ?_ ?_
      · intro W hW hF K hK
        clear kc0 kc1 kc2 kc3 kc4 kc5 kc6 kc7 kc8 kc9 kc10 ke0 ke1
        go_wp2_with fail
        refine (hasV_any _ deps ⟨d, q⟩ _ (HD.out.later hW)).mono ?_
        rintro e wq ⟨rfl, hbq⟩
        rw [HH.out]
        go_wp2_with fail
        exact hK _ _ rfl trivial hbq
      rintro v rfl K hK
      go_simp
      refine hK _ ?_
      clear hK K
      refine flowW_plain rfl ?_
      go_big_quiet_step (fail)
      refine wpQuiet_nil ?_
      refine flowW_plain rfl ?_
      go_big_quiet_step (fail)
      refine wpQuiet_nil ?_
      refine flowW_end fun w2 hw2 hF hD => ?_
      clear kc0 kc1 kc2 kc3 kc4 kc5 kc6 kc7 kc8 kc9 kc10 ke0 ke1
      simp only [List.drop_succ_cons, List.drop_zero]
      have HB2 := Lib.hid (below_then HB.out hw2)
      clear hw2 hF hD
      go_wp2_with fail
      go_ret
      exact ⟨ret_bool HR.out.symm, HB2.out⟩
  · have HR : Hid ((decide (d = d ∧ q = seq) || h) = h) := (by show _ = _; have h2 : ¬ q = seq := (by simpa using h1); simp [h2])
    go_enter Try.func16, Try.ntmps16
    go_wp2_with fail
    rw [HW.out]
    refine wp_region_flow (by kernel_rfl) 11 [(2, ⟨fun v => v = .agg #[.int .i64 d, .int .i64 seq], fun _ _ _ _ => True⟩), (8, ⟨fun v => v = .bool h, fun _ _ _ _ => True⟩)] (by kernel_rfl) ?_ ?_ ?_
    · intro x hx
      simp only [List.mem_cons, List.not_mem_nil, or_false] at hx
      rcases hx with rfl | rfl
      · exact ⟨_, rfl⟩
      · exact ⟨_, rfl⟩
    · intro x hx v lo hi w w' h hb
      simp only [List.mem_cons, List.not_mem_nil, or_false] at hx
      rcases hx with rfl | rfl
      · exact trivial
      · exact trivial
    · intro lo hi
      have kc0 := cell_regrown c0
      have kc1 := cell_regrown c1
      have kc2 := cell_regrown c2
      have kc3 := cell_regrown c3
      have kc4 := cell_regrown c4
      have kc5 := cell_regrown c5
      have kc6 := cell_regrown c6
      have kc7 := cell_regrown c7
      have kc8 := cell_regrown c8
      have kc9 := cell_regrown c9
      have kc10 := cell_regrown c10
      have ke0 := cell_regrown e0
      have ke1 := cell_regrown e1
      refine flowW_plain rfl ?_
      go_big_quiet_step (fail)
      refine wpQuiet_nil ?_
      refine flowW_plain rfl ?_
      go_big_quiet_step (fail)
      refine wpQuiet_nil ?_
      refine flowW_call rfl rfl ?_ ?_
      · intro W hW hF K hK
        clear kc0 kc1 kc2 kc3 kc4 kc5 kc6 kc7 kc8 kc9 kc10 ke0 ke1
        go_wp2_with fail
        refine (dot_any _).mono ?_
        rintro e wq ⟨rfl, hbq⟩
        go_wp2_with fail
        exact hK _ _ rfl trivial hbq
      rintro v rfl K hK
      go_simp
      refine hK _ ?_
      clear hK K
      refine flowW_plain rfl ?_
      go_big_quiet_step (fail)
      refine wpQuiet_nil ?_
      refine flowW_plain rfl ?_
      go_big_quiet_step (fail)
      refine wpQuiet_nil ?_
      refine flowW_plain rfl ?_
      go_big_quiet_step (fail)
      refine wpQuiet_nil ?_
      refine flowW_plain rfl ?_
      go_big_quiet_step (fail)
      refine wpQuiet_nil ?_
      refine flowW_plain rfl ?_
      go_big_quiet_step (fail)
      refine wpQuiet_nil ?_
      refine flowW_call rfl rfl ?_ ?_
      · intro W hW hF K hK
        clear kc0 kc1 kc2 kc3 kc4 kc5 kc6 kc7 kc8 kc9 kc10 ke0 ke1
        go_wp2_with fail
        refine (hasV_any _ deps ⟨d, q⟩ _ (HD.out.later hW)).mono ?_
        rintro e wq ⟨rfl, hbq⟩
        rw [HH.out]
        go_wp2_with fail
        exact hK _ _ rfl trivial hbq
      rintro v rfl K hK
      go_simp
      refine hK _ ?_
      clear hK K
      refine flowW_plain rfl ?_
      go_big_quiet_step (fail)
      refine wpQuiet_nil ?_
      refine flowW_plain rfl ?_
      go_big_quiet_step (fail)
      refine wpQuiet_nil ?_
      refine flowW_end fun w2 hw2 hF hD => ?_
      clear kc0 kc1 kc2 kc3 kc4 kc5 kc6 kc7 kc8 kc9 kc10 ke0 ke1
      simp only [List.drop_succ_cons, List.drop_zero]
      have HB2 := Lib.hid (below_then HB.out hw2)
      clear hw2 hF hD
      go_wp2_with fail
      go_ret
      exact ⟨ret_bool HR.out.symm, HB2.out⟩

end Go.Proofs.Ytnolbabpkhdpmaa
