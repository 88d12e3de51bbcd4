/-
  Layer 1 (code): the walk of the reference's GetNums.
-/
import Derived.Test.YtliokkoalkhpaaaC1N
namespace Go.Proofs.Ytliokkoalkhpaaa
open Go.RowKit

/-- What holds at the head of the loop. -/
def RelM (w : World) (b : List UInt8) (m : Nat) (at_ out i : Value) (wr : World) : Prop :=
  ∃ (j k : Nat) (outs : List Int), j ≤ m ∧ i = .int .i64 j ∧ at_ = .int .i64 k ∧ k ≤ b.length ∧ j ≤ k ∧ outs.length = j ∧ Rounds b (m - j) k outs ∧ wr.ownsRow w.heap.size 3 1 out outs.length (outs.map (Value.int .i64)) ∧ Below w.heap.size w wr

set_option maxRecDepth 100000 in
set_option maxHeartbeats 400000 in
theorem refGetNums_any (v : Value) (b : List UInt8) (w : World) (h : Rd w v b.length (b.map bc)) (hbl : b.length ≤ 1000000000) :
    Calls Try.prog 48 #[v] w (NumsR w b) := by
  obtain ⟨ao, c, rfl, hna, hma, _, _⟩ := id h
  have HA := Lib.hid h
  clear hma
  cases hg : get b with
  | none =>
    have HG := Lib.hid hg
    have HN := Lib.hid (getNums_no hg)
    clear hg
    go_enter Try.func48, Try.ntmps48
    go_wp2_with fail
    refine (refGet_no HA.out rfl HG.out).mono ?_
    rintro e w1 ⟨rfl, hb1⟩
    go_wp2_with fail
    go_ret3
    exact ⟨hb1, .inl ⟨HN.out, ret3 rfl rfl rfl rfl⟩⟩
  | some p =>
    obtain ⟨many, k0⟩ := p
    have hl0 := get_le hg
    have hr0 := get_some hg
    have hr1 := hr0.1
    have hr2 := hr0.2.1
    have HG := Lib.hid hg
    clear hr0
    by_cases hbad : many < 0
    · have HN := Lib.hid (getNums_neg hg hbad)
      clear hg
      go_enter Try.func48, Try.ntmps48
      go_wp2_with fail
      refine (refGet_yes HA.out rfl HG.out).mono ?_
      rintro e w1 ⟨rfl, hb1⟩
      go_wp2_with fail
      go_ret3
      exact ⟨hb1, .inl ⟨HN.out, ret3 rfl rfl rfl rfl⟩⟩
    · obtain ⟨m, rfl⟩ := Int.eq_ofNat_of_zero_le (show 0 ≤ many by omega)
      have HR := Lib.hid (rounds_start hg)
      clear hg hbad
      go_enter Try.func48, Try.ntmps48
      go_wp2_with fail
      refine (refGet_yes HA.out rfl HG.out).mono ?_
      rintro e w1 ⟨rfl, hb1⟩
      go_wp2_with fail
      go_loopw [6, 8, 9] (fun a out i wr => RelM w b m a out i wr) (fun _ _ i _ => m - (intOf i).toNat)
      case atStart => exact ⟨0, k0, [], Nat.zero_le _, rfl, rfl, by omega, Nat.zero_le _, rfl, by simpa using HR.out, World.ownsRow_nil _ _ _ _, hb1⟩
      case round =>
        obtain ⟨j, k, outs, hj, rfl, rfl, hk, hjk, hol, hR, hown, hb⟩ := hrel
        have HR1 := Lib.hid hR
        have HO := Lib.hid hol
        have hol1 : outs.length ≤ j := by omega
        clear hR hol
        by_cases hlt : j < m
        · obtain ⟨left, hleft⟩ : ∃ left, m - j = left + 1 := ⟨m - j - 1, by omega⟩
          have HR2 : Hid (Rounds b (left + 1) k outs) := by rw [← hleft]; exact HR1.out
          have HL : Hid (m - (j + 1) = left) := by unfold Hid; omega
          clear hleft HR1
          obtain ⟨as1, cs1, hsl, hrs⟩ := run_part_lo elB HA.out (by simp) k hk
          rw [Nat.mul_one, ← List.map_drop] at hrs
          have Hrs := Lib.hid (hrs.later hb)
          have e1 : (b.drop k).length = b.length - k := by simp
          have HE := Lib.hid e1
          clear hrs e1
          cases hg2 : get (b.drop k) with
          | none =>
            have HN := Lib.hid (rounds_fail HR2.out hg2)
            have HG2 := Lib.hid hg2
            clear hg2
            go_wp2_with fail
            refine (refGet_no Hrs.out HE.out.symm HG2.out).mono ?_
            rintro e w2 ⟨rfl, hb2⟩
            go_wp2_with fail
            go_ret3
            exact ⟨below_then hb hb2, .inl ⟨HN.out, ret3 rfl rfl rfl rfl⟩⟩
          | some q =>
            obtain ⟨x, i⟩ := q
            have HN := Lib.hid (rounds_next HR2.out hg2)
            have HG2 := Lib.hid hg2
            have hg3 := get_le hg2
            simp only [List.length_drop] at hg3
            clear hg2
            go_wp2_with fail
            refine (refGet_yes Hrs.out HE.out.symm HG2.out).mono ?_
            rintro e w2 ⟨rfl, hb2⟩
            have hown1 := own_later hown hb2
            have hb1 := below_then hb hb2
            go_wp2_with (at_builtin; refine wpList_push elI rfl _ _ rfl rfl rfl hown1 rfl rfl (by unfold maxLen; omega) (by omega) hb1.size ?_; intro v4 w4 hown4 hgrow4 hblk4)
            go_roundw
            case rel =>
              exact ⟨j + 1, k + i, outs ++ [x], by omega, by go_num, by go_num, by omega, by omega, by simp [HO.out], by rw [HL.out]; exact HN.out, by simpa using hown4, below_own hb1 hown1 (Nat.le_refl _) hgrow4⟩
            case measure => simp [intOf]; omega
        · have HN : Hid (getNums b = some (outs, k)) := by
            have h1 := HR1.out
            rw [show m - j = 0 by omega] at h1
            exact rounds_end h1
          go_wp2_with fail
          go_ret3
          exact ⟨hb, .inr ⟨_, outs, k, HN.out, ret3 rfl rfl rfl rfl, hown⟩⟩
end Go.Proofs.Ytliokkoalkhpaaa
