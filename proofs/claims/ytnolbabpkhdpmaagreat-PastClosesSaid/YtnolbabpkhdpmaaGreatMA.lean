/-
  Layers 4, 5, 7: comparing numbers and dots; what a vector has.
-/
import Derived.Test.YtnolbabpkhdpmaaGreatMQ
import Derived.Deep.RegionHeld3
namespace Go.Proofs.YtnolbabpkhdpmaaGreat
open Go.RowKit Go.Sort Go.BigFrame

theorem isNaN_any (x : Int) (w : World) : Calls Tryz.prog 103 #[.int .i64 x] w fun e w' => e = .returned (.bool false) ∧ w = w' := by
  go_enter Tryz.func103, Tryz.ntmps103
  go_wp2
  go_ret
  exact ⟨by simp, rfl⟩

set_option maxHeartbeats 400000 in
theorem cmpInt_any (x y : Int) (w : World) : Calls Tryz.prog 107 #[.int .i64 x, .int .i64 y] w fun e w' => e = .returned (.int .i64 (cmpI x y)) ∧ w = w' := by
  rcases Int.lt_trichotomy x y with h | h | h
  · have hc : cmpI x y = -1 := by simp [cmpI, h]
    have HC := Lib.hid hc
    clear hc
    go_enter Tryz.func107, Tryz.ntmps107
    go_wp2_with (go_at_call 103; refine (isNaN_any _ _).mono ?_; rintro e w' ⟨rfl, rfl⟩)
    go_ret
    exact ⟨ret_int HC.out.symm, rfl⟩
  · subst h
    have hc : cmpI x x = 0 := by simp [cmpI]
    have HC := Lib.hid hc
    clear hc
    go_enter Tryz.func107, Tryz.ntmps107
    go_wp2_with (go_at_call 103; refine (isNaN_any _ _).mono ?_; rintro e w' ⟨rfl, rfl⟩)
    go_ret
    exact ⟨ret_int HC.out.symm, rfl⟩
  · have hc : cmpI x y = 1 := by have : ¬ x < y := by omega
                                 simp [cmpI, h, this]
    have HC := Lib.hid hc
    clear hc
    go_enter Tryz.func107, Tryz.ntmps107
    go_wp2_with (go_at_call 103; refine (isNaN_any _ _).mono ?_; rintro e w' ⟨rfl, rfl⟩)
    go_ret
    exact ⟨ret_int HC.out.symm, rfl⟩

theorem elInts : El Tryz.prog 22 3 1 8 (.int .i64 0) := El.mk' (by kernel_rfl) (by kernel_rfl) rfl (by decide)
theorem elVec : El Tryz.prog 23 3 1 8 (.int .i64 0) := El.mk' (by kernel_rfl) (by kernel_rfl) rfl (by decide)
abbrev ic (x : Int) : Value := .int .i64 x

/-- The first that is not nought. -/
def orL : List Int → Int
  | [] => 0
  | x :: l => if x = 0 then orL l else x
theorem orL_stop : ∀ {l : List Int} {k : Nat} (hk : k < l.length), (∀ x ∈ l.take k, x = 0) → l[k] ≠ 0 → orL l = l[k]
  | x :: l, 0, _, _, h => by simp only [List.getElem_cons_zero] at h ⊢; exact if_neg h
  | x :: l, k + 1, hk, h0, h => by
    have hx : x = 0 := h0 x (by simp)
    unfold orL
    rw [if_pos hx]
    exact orL_stop (by simpa using hk) (fun y hy => h0 y (by simp [hy])) (by simpa using h)
theorem orL_none : ∀ {l : List Int}, (∀ x ∈ l, x = 0) → orL l = 0
  | [], _ => rfl
  | x :: l, h => by
    unfold orL
    rw [if_pos (h x (by simp))]
    exact orL_none fun y hy => h y (by simp [hy])


theorem or_dots (a b : Dt) : orL [cmpI a.dev b.dev, cmpI a.seq b.seq] = cmpD a b := by
  unfold cmpD orL
  split
  · unfold orL
    split
    · rename_i h; rw [h]; rfl
    · rfl
  · rfl


theorem ofV_lo {v : List Int} {d : Int} (h : d < 1) : ofV v d = 0 := if_pos (.inl h)
theorem ofV_hi {v : List Int} {d : Int} (h : (v.length : Int) < d) : ofV v d = 0 := if_pos (.inr h)
theorem ofV_at {v : List Int} {j : Nat} (h : j < v.length) {d : Int} (hd : d = (j : Int) + 1) : ofV v d = v[j] := by
  subst hd
  unfold ofV
  rw [if_neg (by omega)]
  have : ((j : Int) + 1 - 1).toNat = j := by omega
  rw [this, List.getD_eq_getElem?_getD, List.getElem?_eq_getElem h]; rfl

set_option maxRecDepth 100000 in
set_option maxHeartbeats 400000 in
theorem ofV_any (v : Value) (l : List Int) (d : Int) (w : World) (h : Rd w v l.length (l.map ic)) :
    Calls Tryz.prog 33 #[v, .int .i64 d] w fun e w' => e = .returned (.int .i64 (ofV l d)) ∧ w = w' := by
  obtain ⟨ao, c, rfl, hnc, hcm, _, _⟩ := id h
  obtain ⟨n, hln⟩ : ∃ n, l.length = n := ⟨_, rfl⟩
  have HA := Lib.hid h
  have HLN := Lib.hid hln
  rw [hln] at hnc ⊢
  unfold maxLen at hcm
  clear h hln
  by_cases h1 : d < 1
  · have hf : ofV l d = 0 := ofV_lo h1
    have HF := Lib.hid hf
    have hd : decide (1 ≤ d) = false := decide_eq_false (by omega)
    clear hf
    go_enter Tryz.func33, Tryz.ntmps33
    go_wp2
    go_ret
    exact ⟨ret_int HF.out.symm, rfl⟩
  · by_cases h2 : (n : Int) < d
    · have hf : ofV l d = 0 := ofV_hi (by rw [HLN.out]; exact h2)
      have HF := Lib.hid hf
      have hd : decide (1 ≤ d) = true := decide_eq_true (by omega)
      have hd2 : decide (d ≤ (n : Int)) = false := decide_eq_false (by omega)
      clear hf
      go_enter Tryz.func33, Tryz.ntmps33
      go_wp2
      go_ret
      exact ⟨ret_int HF.out.symm, rfl⟩
    · obtain ⟨j, hj⟩ : ∃ j : Nat, d = (j : Int) + 1 := ⟨(d - 1).toNat, by omega⟩
      have hjn : j < n := by omega
      have hjl : j < l.length := by have := HLN.out; omega
      have hf := ofV_at hjl hj
      obtain ⟨A, x1, c0, _⟩ := rd_one elVec ic HA.out rfl j hjl
      rw [HLN.out] at x1
      obtain ⟨x, hx⟩ : ∃ x, l[j] = x := ⟨_, rfl⟩
      rw [hx] at c0 hf
      have HF := Lib.hid hf
      have hd : decide (1 ≤ d) = true := decide_eq_true (by omega)
      have hd2 : decide (d ≤ (n : Int)) = true := decide_eq_true (by omega)
      have hdm : d - 1 = (j : Int) := by omega
      have h3 : 1 ≤ d := by omega
      have h4 : d ≤ 9223372036854775807 := by omega
      clear hx hf hj
      go_enter Tryz.func33, Tryz.ntmps33
      go_wp2
      go_ret
      exact ⟨ret_int HF.out.symm, rfl⟩

set_option maxRecDepth 100000 in
set_option maxHeartbeats 400000 in
theorem refOfV_any (v : Value) (l : List Int) (d : Int) (w : World) (h : Rd w v l.length (l.map ic)) :
    Calls Tryz.prog 27 #[v, .int .i64 d] w fun e w' => e = .returned (.int .i64 (ofV l d)) ∧ w = w' := by
  obtain ⟨ao, c, rfl, hnc, hcm, _, _⟩ := id h
  obtain ⟨n, hln⟩ : ∃ n, l.length = n := ⟨_, rfl⟩
  have HA := Lib.hid h
  have HLN := Lib.hid hln
  rw [hln] at hnc ⊢
  unfold maxLen at hcm
  clear h hln
  by_cases h1 : d < 1
  · have hf : ofV l d = 0 := ofV_lo h1
    have HF := Lib.hid hf
    have hd : decide (1 ≤ d) = false := decide_eq_false (by omega)
    clear hf
    go_enter Tryz.func27, Tryz.ntmps27
    go_wp2
    go_ret
    exact ⟨ret_int HF.out.symm, rfl⟩
  · by_cases h2 : (n : Int) < d
    · have hf : ofV l d = 0 := ofV_hi (by rw [HLN.out]; exact h2)
      have HF := Lib.hid hf
      have hd : decide (1 ≤ d) = true := decide_eq_true (by omega)
      have hd2 : decide (d ≤ (n : Int)) = false := decide_eq_false (by omega)
      clear hf
      go_enter Tryz.func27, Tryz.ntmps27
      go_wp2
      go_ret
      exact ⟨ret_int HF.out.symm, rfl⟩
    · obtain ⟨j, hj⟩ : ∃ j : Nat, d = (j : Int) + 1 := ⟨(d - 1).toNat, by omega⟩
      have hjn : j < n := by omega
      have hjl : j < l.length := by have := HLN.out; omega
      have hf := ofV_at hjl hj
      obtain ⟨A, x1, c0, _⟩ := rd_one elVec ic HA.out rfl j hjl
      rw [HLN.out] at x1
      obtain ⟨x, hx⟩ : ∃ x, l[j] = x := ⟨_, rfl⟩
      rw [hx] at c0 hf
      have HF := Lib.hid hf
      have hd : decide (1 ≤ d) = true := decide_eq_true (by omega)
      have hd2 : decide (d ≤ (n : Int)) = true := decide_eq_true (by omega)
      have hdm : d - 1 = (j : Int) := by omega
      have h3 : 1 ≤ d := by omega
      have h4 : d ≤ 9223372036854775807 := by omega
      clear hx hf hj
      go_enter Tryz.func27, Tryz.ntmps27
      go_wp2
      go_ret
      exact ⟨ret_int HF.out.symm, rfl⟩

set_option maxRecDepth 100000 in
set_option maxHeartbeats 1000000 in
theorem hasV_any (v : Value) (l : List Int) (q : Dt) (w : World) (h : Rd w v l.length (l.map ic)) :
    Calls Tryz.prog 38 #[v, q.agg] w fun e w' => e = .returned (.bool (hasV l q)) ∧ Below w.heap.size w w' := by
  have hb0 := below_alloc w (.cells #[.int .i64 q.dev, .int .i64 q.seq] 51)
  obtain ⟨w1, hw1⟩ : ∃ w1, w.alloc (.cells #[.int .i64 q.dev, .int .i64 q.seq] 51) = w1 := ⟨_, rfl⟩
  have e0 : w1.cell? ⟨w.heap.size, 0, none⟩ = some (.int .i64 q.dev) := by rw [← hw1]; simp [go_sem]
  have e1 : w1.cell? ⟨w.heap.size, 1, none⟩ = some (.int .i64 q.seq) := by rw [← hw1]; simp [go_sem]
  rw [hw1] at hb0
  have HB := Lib.hid hb0
  have HW := Lib.hid hw1
  have HR := Lib.hid (h.later hb0)
  have hu : hasV l q = (decide (1 ≤ q.seq) && decide (q.seq ≤ ofV l q.dev)) := rfl
  obtain ⟨x, hx⟩ : ∃ x, ofV l q.dev = x := ⟨_, rfl⟩
  rw [hx] at hu
  have HX := Lib.hid hx
  have HU := Lib.hid hu
  obtain ⟨ao, c, rfl, _⟩ := id h
  clear hb0 hw1 h hx hu
  have cS : ∀ d os, Calls Tryz.prog 33 #[.slice ao l.length c, .int .i64 q.dev] (grow (redrawn w1 d) os) fun e w'' => e = .returned (.int .i64 x) ∧ ∃ p : Regrown, w'' = grow (redrawn w1 p.d) p.os := fun d os => Calls.regrown_of ((by rw [← HX.out]; exact (ofV_any _ l q.dev _ (HR.out.later (below_regrown w1 d os))).mono fun _ _ ⟨h, e⟩ => ⟨h, e ▸ Below.refl _ _⟩))
  cases hs : decide (1 ≤ q.seq)
  all_goals
    have HS := Lib.hid hs
    go_enter Tryz.func38, Tryz.ntmps38
    go_wp2_with fail
    rw [HW.out]
    have ke0 := cell_regrown e0
    have ke1 := cell_regrown e1
    refine wp_region_quiet_below (by kernel_rfl) (by kernel_rfl) ?_
    repeat (go_big_quiet_step (first | exact cS _ _))
    refine wpQuiet_nil ?_
    intro _ hw'
    obtain ⟨⟨dq, osq⟩, hw''⟩ := hw'
    subst hw''
    clear ke0 ke1 cS
    have hb2 := below_regrown w1 dq osq
    generalize grow (redrawn w1 dq) osq = w2 at *
    replace e0 := cell_later hb2 e0
    replace e1 := cell_later hb2 e1
    have HB2 := Lib.hid (below_then HB.out hb2)
    clear hb2
    go_wp2_with fail
    go_ret
    refine ⟨ret_bool ?_, HB2.out⟩
    rw [HU.out, HS.out]
    try rfl

set_option maxRecDepth 100000 in
set_option maxHeartbeats 1000000 in
theorem refHasV_any (v : Value) (l : List Int) (q : Dt) (w : World) (h : Rd w v l.length (l.map ic)) :
    Calls Tryz.prog 96 #[v, q.agg] w fun e w' => e = .returned (.bool (hasV l q)) ∧ Below w.heap.size w w' := by
  have hb0 := below_alloc w (.cells #[.int .i64 q.dev, .int .i64 q.seq] 51)
  obtain ⟨w1, hw1⟩ : ∃ w1, w.alloc (.cells #[.int .i64 q.dev, .int .i64 q.seq] 51) = w1 := ⟨_, rfl⟩
  have e0 : w1.cell? ⟨w.heap.size, 0, none⟩ = some (.int .i64 q.dev) := by rw [← hw1]; simp [go_sem]
  have e1 : w1.cell? ⟨w.heap.size, 1, none⟩ = some (.int .i64 q.seq) := by rw [← hw1]; simp [go_sem]
  rw [hw1] at hb0
  have HB := Lib.hid hb0
  have HW := Lib.hid hw1
  have HR := Lib.hid (h.later hb0)
  have hu : hasV l q = (decide (1 ≤ q.seq) && decide (q.seq ≤ ofV l q.dev)) := rfl
  obtain ⟨x, hx⟩ : ∃ x, ofV l q.dev = x := ⟨_, rfl⟩
  rw [hx] at hu
  have HX := Lib.hid hx
  have HU := Lib.hid hu
  obtain ⟨ao, c, rfl, _⟩ := id h
  clear hb0 hw1 h hx hu
  have cS : ∀ d os, Calls Tryz.prog 27 #[.slice ao l.length c, .int .i64 q.dev] (grow (redrawn w1 d) os) fun e w'' => e = .returned (.int .i64 x) ∧ ∃ p : Regrown, w'' = grow (redrawn w1 p.d) p.os := fun d os => Calls.regrown_of ((by rw [← HX.out]; exact (refOfV_any _ l q.dev _ (HR.out.later (below_regrown w1 d os))).mono fun _ _ ⟨h, e⟩ => ⟨h, e ▸ Below.refl _ _⟩))
  cases hs : decide (1 ≤ q.seq)
  all_goals
    have HS := Lib.hid hs
    go_enter Tryz.func96, Tryz.ntmps96
    go_wp2_with fail
    rw [HW.out]
    have ke0 := cell_regrown e0
    have ke1 := cell_regrown e1
    refine wp_region_quiet_below (by kernel_rfl) (by kernel_rfl) ?_
    repeat (go_big_quiet_step (first | exact cS _ _))
    refine wpQuiet_nil ?_
    intro _ hw'
    obtain ⟨⟨dq, osq⟩, hw''⟩ := hw'
    subst hw''
    clear ke0 ke1 cS
    have hb2 := below_regrown w1 dq osq
    generalize grow (redrawn w1 dq) osq = w2 at *
    replace e0 := cell_later hb2 e0
    replace e1 := cell_later hb2 e1
    have HB2 := Lib.hid (below_then HB.out hb2)
    clear hb2
    go_wp2_with fail
    go_ret
    refine ⟨ret_bool ?_, HB2.out⟩
    rw [HU.out, HS.out]
    try rfl

end Go.Proofs.YtnolbabpkhdpmaaGreat
