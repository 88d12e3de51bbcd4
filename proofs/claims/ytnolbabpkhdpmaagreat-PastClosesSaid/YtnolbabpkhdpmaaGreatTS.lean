/-
  Layer 4 (clock): the document's order of stamps; two lists of numbers.
-/
import Derived.Test.YtnolbabpkhdpmaaGreatTO
namespace Go.Proofs.YtnolbabpkhdpmaaGreat
open Go.RowKit Go.Sort Go.BigFrame

set_option maxRecDepth 100000 in
set_option maxHeartbeats 1000000 in
theorem sameI_any (va vb : Value) (l m : List Int) (w : World) (ha : Rd w va l.length (l.map ic)) (hb : Rd w vb m.length (m.map ic)) (hl : l.length ≤ 1000000) :
    Calls Tryz.prog 39 #[va, vb] w fun e w' => e = .returned (.bool (decide (l = m))) ∧ Below w.heap.size w w' := by
  obtain ⟨aa, ca, rfl, hna, hma, _, _⟩ := id ha
  obtain ⟨ab, cb, rfl, hnb, hmb, _, _⟩ := id hb
  have HA := Lib.hid ha
  have HB := Lib.hid hb
  unfold maxLen at hma hmb
  clear ha hb
  by_cases hlm : l.length = m.length
  · obtain ⟨n, hn⟩ : ∃ n, l.length = n := ⟨_, rfl⟩
    rw [show (m.length : Nat) = n from by omega, hn]
    rw [hn] at hl
    have HN := Lib.hid hn
    have HLM := Lib.hid hlm
    clear hn hlm hna hma hnb hmb
    go_enter Tryz.func39, Tryz.ntmps39
    go_wp2
    go_loopw [5] (fun i wr => ∃ k : Nat, k ≤ n ∧ i = .int .i64 k ∧ Hid (l.take k = m.take k) ∧ Hid (Below w.heap.size w wr)) (fun i _ => n - (intOf i).toNat)
    case atStart => exact ⟨0, Nat.zero_le _, rfl, rfl, Below.refl _ _⟩
    case round =>
      obtain ⟨k, hk, rfl, ht, hbw⟩ := hrel
      rename World => wr
      by_cases hlt : k < n
      · have hk1 : k < l.length := by have := HN.out; omega
        have hk2 : k < m.length := by have := HN.out; have := HLM.out; omega
        obtain ⟨A, i1, c1, _⟩ := rd_one elInts ic (HA.out.later hbw.out) rfl k hk1
        obtain ⟨B, i2, c2, _⟩ := rd_one elInts ic (HB.out.later hbw.out) rfl k hk2
        rw [HN.out] at i1
        rw [← HLM.out, HN.out] at i2
        obtain ⟨x, hx⟩ : ∃ x, l[k] = x := ⟨_, rfl⟩
        obtain ⟨y, hy⟩ : ∃ y, m[k] = y := ⟨_, rfl⟩
        rw [hx] at c1
        rw [hy] at c2
        by_cases hxy : x = y
        · have hz : (x == y) = true := by simp [hxy]
          have hn := Lib.hid (take_next hk1 hk2 ht.out (by rw [hx, hy, hxy]))
          clear hx hy hxy ht hk1 hk2
          go_wp2_with fail
          have kc1 := cell_regrown c1
          have kc2 := cell_regrown c2
          refine wp_region_quiet_below (by kernel_rfl) (by kernel_rfl) ?_
          repeat (go_big_quiet_step (first | fail))
          refine wpQuiet_nil ?_
          intro _ hw'
          obtain ⟨⟨dq, osq⟩, hw''⟩ := hw'
          subst hw''
          clear kc1 kc2
          have hb1 := below_regrown wr dq osq
          generalize grow (redrawn wr dq) osq = w1 at *
          replace c1 := cell_later hb1 c1
          replace c2 := cell_later hb1 c2
          have hb2 := Lib.hid (below_then hbw.out hb1)
          clear hb1 c1 c2
          go_wp2_with fail
          go_roundw
          case rel => exact ⟨k + 1, by omega, by go_num, hn, hb2⟩
          case measure => simp [intOf]; omega
        · have hz : (x == y) = false := by simp [hxy]
          have hs : ¬ l = m := by
            intro h; subst h; rw [hx] at hy; exact hxy hy
          have HS := Lib.hid hs
          clear hx hy hxy ht hs
          go_wp2_with fail
          have kc1 := cell_regrown c1
          have kc2 := cell_regrown c2
          refine wp_region_quiet_below (by kernel_rfl) (by kernel_rfl) ?_
          repeat (go_big_quiet_step (first | fail))
          refine wpQuiet_nil ?_
          intro _ hw'
          obtain ⟨⟨dq, osq⟩, hw''⟩ := hw'
          subst hw''
          clear kc1 kc2
          have hb1 := below_regrown wr dq osq
          generalize grow (redrawn wr dq) osq = w1 at *
          replace c1 := cell_later hb1 c1
          replace c2 := cell_later hb1 c2
          have hb2 := Lib.hid (below_then hbw.out hb1)
          clear hb1 c1 c2
          go_wp2_with fail
          go_ret
          exact ⟨ret_bool (decide_eq_false HS.out).symm, hb2.out⟩
      · have he : l = m := by
          have := ht.out
          rwa [List.take_of_length_le (by have := HN.out; omega), List.take_of_length_le (by have := HN.out; have := HLM.out; omega)] at this
        have HE := Lib.hid he
        clear he ht
        go_wp2
        go_ret
        exact ⟨ret_bool (decide_eq_true HE.out).symm, hbw.out⟩
  · have hs : ¬ l = m := fun h => hlm (by rw [h])
    have hd : ((l.length : Int) == (m.length : Int)) = false := by simp; omega
    have HS := Lib.hid hs
    clear hs
    go_enter Tryz.func39, Tryz.ntmps39
    go_wp2_with fail
    go_ret
    exact ⟨ret_bool (decide_eq_false HS.out).symm, Below.refl _ _⟩
end Go.Proofs.YtnolbabpkhdpmaaGreat
