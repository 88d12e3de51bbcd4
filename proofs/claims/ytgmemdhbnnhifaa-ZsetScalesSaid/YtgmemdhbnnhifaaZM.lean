/-
  Layer 24 (zset): how often a row is there.
-/
import Derived.Test.YtgmemdhbnnhifaaZA
import Derived.Test.YtgmemdhbnnhifaaZP
namespace Go.Proofs.Ytgmemdhbnnhifaa
open Go.RowKit Go.Sort Go.BigFrame

/-- An item as a row, and how often. -/
abbrev It.p (x : It) : Pr := (x.row, x.many)

theorem cnt_next (l : List It) (r : List Val) {k : Nat} (hk : k < l.length) :
    cnt ((l.take (k + 1)).map It.p) r = if l[k].row = r then w64 (cnt ((l.take k).map It.p) r + l[k].many) else cnt ((l.take k).map It.p) r := by
  rw [List.take_succ_eq_append_getElem hk, List.map_append]
  unfold cnt
  rw [tot_app]
  simp only [List.map_cons, List.map_nil, tot]
  split
  · rw [w64_add_left]; congr 1; omega
  · congr 1; omega

set_option maxRecDepth 100000 in
set_option maxHeartbeats 1000000 in
theorem many_any (va vr : Value) (l : List It) (r : List Val) (w : World) (ha : IRd w va l) (hr : Rd w vr r.length (rowCs r)) (hn : l.length ≤ 1000000) :
    Calls Try.prog 13 #[va, vr] w fun e w' => e = .returned (.int .i64 (cnt (l.map It.p) r)) ∧ Below w.heap.size w w' := by
  obtain ⟨ao, c, rfl, hnc, hcm, _, _⟩ := id ha.1
  obtain ⟨ar, cr, rfl, hnr, hmr, _, _⟩ := id hr
  obtain ⟨n, hln⟩ : ∃ n, l.length = n := ⟨_, rfl⟩
  have HA := Lib.hid ha
  have HR := Lib.hid hr
  have HLN := Lib.hid hln
  rw [hln] at hn hnc ⊢
  unfold maxLen at hmr
  clear ha hr hln hcm
  go_enter Try.func13, Try.ntmps13
  go_wp2
  go_loopw [5, 10] (fun vn vi wr => ∃ k : Nat, k ≤ n ∧ vi = .int .i64 k ∧ vn = .int .i64 (cnt ((l.take k).map It.p) r) ∧ Hid (Below w.heap.size w wr)) (fun _ vi _ => n - (intOf vi).toNat)
  case atStart => exact ⟨0, Nat.zero_le _, rfl, rfl, Below.refl _ _⟩
  case round =>
    obtain ⟨k, hk, rfl, rfl, hbw⟩ := hrel
    rename World => wr
    by_cases hlt : k < n
    · have hkl : k < l.length := by have := HLN.out; omega
      obtain ⟨b1, o1, x1, c0, c1, c2, _⟩ := rd_it (HA.out.1.later hbw.out) rfl k hkl
      rw [HLN.out] at x1
      have hv := (HA.out.2 _ (List.getElem_mem hkl)).later hbw.out
      have hnx := cnt_next l r hkl
      obtain ⟨s, hs⟩ : ∃ s, cnt ((l.take k).map It.p) r = s := ⟨_, rfl⟩
      rw [hs] at hnx ⊢
      have HV := Lib.hid hv
      obtain ⟨x, hx⟩ : ∃ x, l[k] = x := ⟨_, rfl⟩
      rw [hx] at c0 c1 c2 hnx HV
      have hq : sameR x.row r = true ∨ sameR x.row r = false := by cases sameR x.row r <;> simp
      have HNX := Lib.hid hnx
      clear hs hv hx hnx
      have hbx := below_alloc wr (.cells #[.slice x.ra x.rn x.rc, .int .i64 x.many, .slice x.ba x.bn x.bc] 39)
      have e0 : (wr.alloc (.cells #[.slice x.ra x.rn x.rc, .int .i64 x.many, .slice x.ba x.bn x.bc] 39)).cell? ⟨wr.heap.size, 0, none⟩ = some (.slice x.ra x.rn x.rc) := by simp [go_sem]
      have e1 : (wr.alloc (.cells #[.slice x.ra x.rn x.rc, .int .i64 x.many, .slice x.ba x.bn x.bc] 39)).cell? ⟨wr.heap.size, 1, none⟩ = some (.int .i64 x.many) := by simp [go_sem]
      have HBX := Lib.hid hbx
      clear hbx
      rcases hq with hq | hq
      all_goals
        have HQ := Lib.hid hq
        clear hq
        go_wp2_with fail
        generalize wr.alloc (.cells #[.slice x.ra x.rn x.rc, .int .i64 x.many, .slice x.ba x.bn x.bc] 39) = w1 at *
        refine (sameR_any _ _ x.row r _ (HV.out.later HBX.out) (HR.out.later (below_then hbw.out HBX.out))).mono ?_
        rintro e w2 ⟨rfl, hb2⟩
        rw [HQ.out]
        replace e1 := cell_later hb2 e1
        have HB2 := Lib.hid (below_then hbw.out (below_then HBX.out hb2))
        clear hb2 e0
        go_wp2_with fail
        go_roundw
        case rel =>
          refine ⟨k + 1, by omega, by go_num, ?_, HB2.out⟩
          rw [HNX.out]
          first
            | exact congrArg (Value.int .i64) (if_neg (of_decide_eq_false HQ.out)).symm
            | exact congrArg (Value.int .i64) (by rw [if_pos (of_decide_eq_true HQ.out)]; simp only [w64_def, wrap64, IntKind.wrap_i64])
        case measure => simp [intOf]; omega
    · have hkn : k = n := by omega
      subst hkn
      have he : (l.take k).map It.p = l.map It.p := by rw [List.take_of_length_le (by have := HLN.out; omega)]
      rw [he]
      clear he
      go_wp2
      go_ret
      exact ⟨rfl, hbw.out⟩
set_option maxRecDepth 100000 in
set_option maxHeartbeats 1000000 in
theorem refMany_any (va vr : Value) (l : List It) (r : List Val) (w : World) (ha : IRd w va l) (hr : Rd w vr r.length (rowCs r)) (hn : l.length ≤ 1000000) :
    Calls Try.prog 14 #[va, vr] w fun e w' => e = .returned (.int .i64 (cnt (l.map It.p) r)) ∧ Below w.heap.size w w' := by
  obtain ⟨ao, c, rfl, hnc, hcm, _, _⟩ := id ha.1
  obtain ⟨ar, cr, rfl, hnr, hmr, _, _⟩ := id hr
  obtain ⟨n, hln⟩ : ∃ n, l.length = n := ⟨_, rfl⟩
  have HA := Lib.hid ha
  have HR := Lib.hid hr
  have HLN := Lib.hid hln
  rw [hln] at hn hnc ⊢
  unfold maxLen at hmr
  clear ha hr hln hcm
  go_enter Try.func14, Try.ntmps14
  go_wp2
  go_loopw [5, 6] (fun vn vi wr => ∃ k : Nat, k ≤ n ∧ vi = .int .i64 k ∧ vn = .int .i64 (cnt ((l.take k).map It.p) r) ∧ Hid (Below w.heap.size w wr)) (fun _ vi _ => n - (intOf vi).toNat)
  case atStart => exact ⟨0, Nat.zero_le _, rfl, rfl, Below.refl _ _⟩
  case round =>
    obtain ⟨k, hk, rfl, rfl, hbw⟩ := hrel
    rename World => wr
    by_cases hlt : k < n
    · have hkl : k < l.length := by have := HLN.out; omega
      obtain ⟨b1, o1, x1, c0, c1, c2, _⟩ := rd_it (HA.out.1.later hbw.out) rfl k hkl
      rw [HLN.out] at x1
      have hv := (HA.out.2 _ (List.getElem_mem hkl)).later hbw.out
      have hnx := cnt_next l r hkl
      obtain ⟨s, hs⟩ : ∃ s, cnt ((l.take k).map It.p) r = s := ⟨_, rfl⟩
      rw [hs] at hnx ⊢
      have HV := Lib.hid hv
      obtain ⟨x, hx⟩ : ∃ x, l[k] = x := ⟨_, rfl⟩
      rw [hx] at c0 c1 c2 hnx HV
      have hq : sameR x.row r = true ∨ sameR x.row r = false := by cases sameR x.row r <;> simp
      have HNX := Lib.hid hnx
      clear hs hv hx hnx
      rcases hq with hq | hq
      all_goals
        have HQ := Lib.hid hq
        clear hq
        go_wp2_with fail
        refine (refSameR_any _ _ x.row r _ HV.out (HR.out.later hbw.out)).mono ?_
        rintro e w2 ⟨rfl, hb2⟩
        rw [HQ.out]
        replace c0 := cell_later hb2 c0
        replace c1 := cell_later hb2 c1
        replace c2 := cell_later hb2 c2
        have HB2 := Lib.hid (below_then hbw.out hb2)
        clear hb2
        go_wp2_with fail
        go_roundw
        case rel =>
          refine ⟨k + 1, by omega, by go_num, ?_, HB2.out⟩
          rw [HNX.out]
          first
            | exact congrArg (Value.int .i64) (if_neg (of_decide_eq_false HQ.out)).symm
            | exact congrArg (Value.int .i64) (by rw [if_pos (of_decide_eq_true HQ.out)]; simp only [w64_def, wrap64, IntKind.wrap_i64])
        case measure => simp [intOf]; omega
    · have hkn : k = n := by omega
      subst hkn
      have he : (l.take k).map It.p = l.map It.p := by rw [List.take_of_length_le (by have := HLN.out; omega)]
      rw [he]
      clear he
      go_wp2
      go_ret
      exact ⟨rfl, hbw.out⟩

set_option maxRecDepth 100000 in
set_option maxHeartbeats 1000000 in
theorem few_any (va : Value) (l : List It) (m : Nat) (w : World) (ha : IRd w va l) (hm : m ≤ 1000000) :
    Calls Try.prog 29 #[va, .int .i64 m] w fun e w' => e = .returned (.bool (decide (l.length ≤ m) && l.all fun x => decide (x.row.length ≤ 20))) ∧ w = w' := by
  obtain ⟨ao, c, rfl, hnc, hcm, _, _⟩ := id ha.1
  obtain ⟨n, hln⟩ : ∃ n, l.length = n := ⟨_, rfl⟩
  have HA := Lib.hid ha
  have HLN := Lib.hid hln
  rw [hln] at hnc ⊢
  unfold maxLen at hcm
  clear ha hln
  by_cases hbig : m < n
  · have hd : decide (n ≤ m) = false := decide_eq_false (by omega)
    rw [hd]
    clear hd
    go_enter Try.func29, Try.ntmps29
    go_wp2
    go_ret
    exact ⟨rfl, rfl⟩
  · have hd : decide (n ≤ m) = true := decide_eq_true (by omega)
    rw [hd, Bool.true_and]
    clear hd
    go_enter Try.func29, Try.ntmps29
    go_wp2
    go_loop [5] (fun vi => ∃ k : Nat, k ≤ n ∧ vi = .int .i64 k ∧ Hid (((l.take k).all fun x => decide (x.row.length ≤ 20)) = true)) (fun vi => n - (intOf vi).toNat)
    case atStart => exact ⟨0, Nat.zero_le _, rfl, rfl⟩
    case round =>
      obtain ⟨k, hk, rfl, ht⟩ := hrel
      by_cases hlt : k < n
      · have hkl : k < l.length := by have := HLN.out; omega
        obtain ⟨b1, o1, x1, c0, c1, c2, _⟩ := rd_it HA.out.1 rfl k hkl
        rw [HLN.out] at x1
        have hv := HA.out.2 _ (List.getElem_mem hkl)
        obtain ⟨x, hx⟩ : ∃ x, l[k] = x := ⟨_, rfl⟩
        have hrn : x.rn = x.row.length := by
          rw [hx] at hv
          obtain ⟨_, _, he, _⟩ := hv
          injection he
        rw [hx] at c0 c1 c2
        have hxm : x ∈ l := by rw [← hx]; exact List.getElem_mem hkl
        have hal : ((l.take (k + 1)).all fun x => decide (x.row.length ≤ 20)) = (((l.take k).all fun x => decide (x.row.length ≤ 20)) && decide (x.row.length ≤ 20)) := by
          rw [List.take_succ_eq_append_getElem hkl, List.all_append, hx]; simp
        rw [hrn] at c0
        have HAL := Lib.hid hal
        have HXM := Lib.hid hxm
        obtain ⟨q, hq⟩ : ∃ q, x.row.length = q := ⟨_, rfl⟩
        have HQ := Lib.hid hq
        rw [hq] at c0
        clear hal hxm hx hv hrn hq
        by_cases h20 : 20 < q
        · have hf : (l.all fun x => decide (x.row.length ≤ 20)) = false := by
            rw [Bool.eq_false_iff]
            intro h
            have := List.all_eq_true.1 h x HXM.out
            simp only [decide_eq_true_eq] at this
            have := HQ.out; omega
          have HF := Lib.hid hf
          clear hf
          go_wp2
          go_ret
          exact ⟨ret_bool HF.out.symm, rfl⟩
        · have hn : Hid (((l.take (k + 1)).all fun x => decide (x.row.length ≤ 20)) = true) := by
            show _ = _
            rw [HAL.out, ht.out, Bool.true_and]
            exact decide_eq_true (by have := HQ.out; omega)
          go_wp2
          go_round
          case rel => exact ⟨k + 1, by omega, by go_num, hn⟩
          case measure => simp [intOf]; omega
      · have hf : (l.all fun x => decide (x.row.length ≤ 20)) = true := by
          have := ht.out
          rwa [List.take_of_length_le (by have := HLN.out; omega)] at this
        have HF := Lib.hid hf
        clear hf
        go_wp2
        go_ret
        exact ⟨ret_bool HF.out.symm, rfl⟩
end Go.Proofs.Ytgmemdhbnnhifaa
