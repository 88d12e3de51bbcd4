/-
  Layer 1 (code): the walk of the reference's 'Get'.
-/
import Derived.Test.YtliokkoalkhpaaaC1W
namespace Go.Proofs.Ytliokkoalkhpaaa
open Go.RowKit

theorem ref_u {m x V V' : Nat} (hm : m = V % 18446744073709551616) (hv : (128 * (V % 18446744073709551616) % 18446744073709551616 + x % 128) % 18446744073709551616 = V') :
    IntKind.u64.wrap (IntKind.u64.wrap (128 * (m : Int)) + (x : Int) % 128) = (V' : Int) := by
  rw [IntKind.wrap_u64, IntKind.wrap_u64, ← hv, hm]
  omega

set_option maxRecDepth 100000 in
set_option maxHeartbeats 400000 in
theorem refGet_any (v : Value) (b : List UInt8) (w : World) (h : Rd w v b.length (b.map bc)) :
    Calls Try.prog 70 #[v] w fun e w' => e = .returned (getV b) ∧ Below w.heap.size w w' := by
  obtain ⟨ao, c, rfl, hna, hma, _, _⟩ := id h
  unfold maxLen at hma
  have HA := Lib.hid h
  clear h
  go_enter Try.func70, Try.ntmps70
  go_wp2_with fail
  go_loop [6] (fun i => ∃ k : Nat, k ≤ b.length ∧ k ≤ 10 ∧ i = .int .i64 k ∧ Hid (∀ j, (hj : j < b.length) → j < k → 128 ≤ (b[j]).toNat)) (fun i => b.length - (intOf i).toNat)
  case atStart => exact ⟨0, Nat.zero_le _, by omega, rfl, fun j _ hj => by omega⟩
  case round =>
    obtain ⟨k, hk, hk10, rfl, hlead⟩ := hrel
    by_cases hend : k = b.length ∨ k = 10
    · have hg : getV b = .tuple #[.int .i64 0, .int .i64 0, .int .i64 3] := by
        unfold getV; rw [get_ref_none hend hlead.out]
      have Hg := Lib.hid hg
      clear hg
      by_cases hkl : k = b.length
      · have e1 : ((k : Int) == (b.length : Int)) = true := by simp; omega
        have e2 : decide ((k : Int) < (b.length : Int)) = false := by simp; omega
        have h1 : b.length ≤ k := by omega
        clear hkl hend
        go_wp2_with fail
        go_ret3
        exact ⟨ret3 Hg.out rfl rfl rfl, Below.refl _ _⟩
      · have hlt : k < b.length := by omega
        have h1 : 10 ≤ k := by omega
        have e1 : ((k : Int) == (b.length : Int)) = false := by simp; omega
        have e2 : ((k : Int) == 10) = true := by simp; omega
        clear hkl hend
        go_wp2_with fail
        all_goals go_ret3
        all_goals exact ⟨ret3 Hg.out rfl rfl rfl, Below.refl _ _⟩
    · have hlt : k < b.length := by omega
      have hlt10 : k < 10 := by omega
      have hx := b[k].toNat_lt
      have e1 : ((k : Int) == (b.length : Int)) = false := by simp; omega
      have e2 : ((k : Int) == 10) = false := by simp; omega
      obtain ⟨A1, hi1, hc1, _⟩ := rd_byte HA.out rfl k hlt
      clear hend
      by_cases hx7 : 128 ≤ b[k].toNat
      · go_wp2_with fail
        go_round
        case rel => exact ⟨k + 1, by omega, by omega, by go_num, fun j hj hjk => by
          by_cases hjk2 : j = k
          · subst hjk2; exact hx7
          · exact hlead.out j hj (by omega)⟩
        case measure => simp [intOf]; omega
      · have hl := get_ref hlt hlead.out (by omega)
        have HL := Lib.hid hl
        clear hl
        go_wp2_with fail
        go_loopw [5, 7] (fun u i wr => ∃ (z : Int) (j m : Nat), i = .int .i64 z ∧ z = (j : Int) - 1 ∧ j ≤ k + 1 ∧ u = .int .u64 m ∧ m < 18446744073709551616 ∧ Hid (m = val ((b.take (k + 1)).drop j) % 18446744073709551616) ∧ wr = w) (fun _ i _ => (intOf i + 1).toNat)
        case atStart => exact ⟨_, k + 1, 0, rfl, by omega, by omega, rfl, by decide, by unfold Hid; rw [List.drop_eq_nil_of_le (by simp; omega)]; rfl, rfl⟩
        case round =>
          obtain ⟨z, j, m, rfl, hz, hj, rfl, hm, HM, rfl⟩ := hrel
          cases j with
          | zero =>
            obtain rfl : z = -1 := by omega
            clear hz
            have H0 := HM.out
            rw [List.drop_zero] at H0
            have H0' := Lib.hid H0
            clear H0
            have hzb := zag_bd m hm
            obtain ⟨as1, cs1, hsl, hrs⟩ := run_part_hi elB HA.out (by simp) (k + 1) hlt
            rw [Nat.mul_one, ← List.map_take] at hrs
            have Hrs := Lib.hid hrs
            clear hrs
            have hsl2 : ∀ W, (Instr.sliceAt 38 (.slice ao b.length c) none (some (.int .i64 ((k : Int) + 1))) none).run Try.prog W = .ok (.slice as1 (k + 1) cs1) W := hsl
            clear hsl
            have hlen : (b.take (k + 1)).length = k + 1 := by simp; omega
            have Hlen := Lib.hid hlen
            clear hlen
            by_cases hpar : m % 2 = 1
            · have e3 : ((m : Int) % 2 == 1) = true := by simp; omega
              have hz : zag m = -((m : Int) / 2) - 1 := by unfold zag; rw [if_neg (by omega)]; omega
              have hzl : -9223372036854775808 ≤ -((m : Int) / 2) - 1 ∧ -((m : Int) / 2) - 1 ≤ 9223372036854775807 := by rw [← hz]; exact hzb
              have Hz := Lib.hid hz
              have hwr : IntKind.i64.wrap ((k : Int) + 1) = (k : Int) + 1 := IntWalk.i64_in _ (by omega)
              clear hpar hz
              cases hs : (put (-((m : Int) / 2) - 1) == b.take (k + 1)) with
              | true =>
                have hg : getV b = .tuple #[.int .i64 (-((m : Int) / 2) - 1), .int .i64 ((k : Int) + 1), .int .i64 0] := by
                  unfold getV; rw [HL.out, ← H0'.out, Hz.out, if_pos (by simpa using hs)]; rfl
                have Hg := Lib.hid hg
                clear hg
                go_wp2_with fail
                go_region_with (first
                  | (go_at_call 37; refine (refPut_any _ _ (by omega) (by omega)).mono ?_; rintro e w1 ⟨v1, rfl, hown1, hb1⟩)
                  | (go_at_call 18; refine (same_at (Rd.of_own (by assumption)) rfl (Hrs.out.later (below_of_drew (by assumption))) Hlen.out.symm).mono ?_; rintro e w2 ⟨rfl, hb2⟩))
                clear hwr
                go_wp2_with fail
                go_ret3
                exact ⟨ret3 Hg.out rfl rfl rfl, below_then (below_of_drew hb1) hb2⟩
              | false =>
                have hg : getV b = .tuple #[.int .i64 0, .int .i64 0, .int .i64 3] := by
                  unfold getV; rw [HL.out, ← H0'.out, Hz.out, if_neg (by simpa using hs)]
                have Hg := Lib.hid hg
                clear hg
                go_wp2_with fail
                go_region_with (first
                  | (go_at_call 37; refine (refPut_any _ _ (by omega) (by omega)).mono ?_; rintro e w1 ⟨v1, rfl, hown1, hb1⟩)
                  | (go_at_call 18; refine (same_at (Rd.of_own (by assumption)) rfl (Hrs.out.later (below_of_drew (by assumption))) Hlen.out.symm).mono ?_; rintro e w2 ⟨rfl, hb2⟩))
                clear hwr
                go_wp2_with fail
                go_ret3
                exact ⟨ret3 Hg.out rfl rfl rfl, below_then (below_of_drew hb1) hb2⟩
            · have e3 : ((m : Int) % 2 == 1) = false := by simp; omega
              have hz : zag m = (m : Int) / 2 := by unfold zag; rw [if_pos (by omega)]; omega
              have hzl : -9223372036854775808 ≤ (m : Int) / 2 ∧ (m : Int) / 2 ≤ 9223372036854775807 := by rw [← hz]; exact hzb
              have Hz := Lib.hid hz
              have hwr : IntKind.i64.wrap ((k : Int) + 1) = (k : Int) + 1 := IntWalk.i64_in _ (by omega)
              clear hpar hz
              cases hs : (put ((m : Int) / 2) == b.take (k + 1)) with
              | true =>
                have hg : getV b = .tuple #[.int .i64 ((m : Int) / 2), .int .i64 ((k : Int) + 1), .int .i64 0] := by
                  unfold getV; rw [HL.out, ← H0'.out, Hz.out, if_pos (by simpa using hs)]; rfl
                have Hg := Lib.hid hg
                clear hg
                go_wp2_with fail
                go_region_with (first
                  | (go_at_call 37; refine (refPut_any _ _ (by omega) (by omega)).mono ?_; rintro e w1 ⟨v1, rfl, hown1, hb1⟩)
                  | (go_at_call 18; refine (same_at (Rd.of_own (by assumption)) rfl (Hrs.out.later (below_of_drew (by assumption))) Hlen.out.symm).mono ?_; rintro e w2 ⟨rfl, hb2⟩))
                clear hwr
                go_wp2_with fail
                go_ret3
                exact ⟨ret3 Hg.out rfl rfl rfl, below_then (below_of_drew hb1) hb2⟩
              | false =>
                have hg : getV b = .tuple #[.int .i64 0, .int .i64 0, .int .i64 3] := by
                  unfold getV; rw [HL.out, ← H0'.out, Hz.out, if_neg (by simpa using hs)]
                have Hg := Lib.hid hg
                clear hg
                go_wp2_with fail
                go_region_with (first
                  | (go_at_call 37; refine (refPut_any _ _ (by omega) (by omega)).mono ?_; rintro e w1 ⟨v1, rfl, hown1, hb1⟩)
                  | (go_at_call 18; refine (same_at (Rd.of_own (by assumption)) rfl (Hrs.out.later (below_of_drew (by assumption))) Hlen.out.symm).mono ?_; rintro e w2 ⟨rfl, hb2⟩))
                clear hwr
                go_wp2_with fail
                go_ret3
                exact ⟨ret3 Hg.out rfl rfl rfl, below_then (below_of_drew hb1) hb2⟩
          | succ t =>
            obtain rfl : z = (t : Int) := by omega
            clear hz
            have htl : t < b.length := by omega
            have hxt := b[t].toNat_lt
            obtain ⟨A2, hi2, hc2, _⟩ := rd_byte HA.out rfl t htl
            have hv := Lib.hid (@val_step b k t hlt (by omega))
            go_wp2_with fail
            go_roundw
            case rel => exact ⟨_, t, _, rfl, by omega, by omega, congrArg (Value.int .u64) (ref_u HM.out hv.out), Nat.mod_lt _ (by decide), rfl, trivial⟩
            case measure => simp [intOf]
end Go.Proofs.Ytliokkoalkhpaaa
