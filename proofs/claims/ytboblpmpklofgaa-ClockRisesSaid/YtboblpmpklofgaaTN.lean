/-
  Layer 4 (clock): Right, Next.
-/
import Derived.Test.YtboblpmpklofgaaTC
namespace Go.Proofs.Ytboblpmpklofgaa
open Go.RowKit Go.Sort Go.BigFrame

def rightT (t p : Int) : Int := if p < 0 ∨ t ≤ p ∨ 1125899906842624 < t ∨ 1048576 < t - p then 14 else 0

/-- The time, and why there is none. -/
def nextT (k n : Int) : Int × Int :=
  if k < 0 ∨ 1125899906842624 ≤ k then (0, 14) else if rightT (if k + 1 < n then n else k + 1) k = 0 then (if k + 1 < n then n else k + 1, 0) else (0, 14)

theorem rightT_or (t p : Int) : rightT t p = 0 ∨ rightT t p = 14 := by unfold rightT; split <;> simp

set_option maxHeartbeats 400000 in
theorem rightT_any (t p : Int) (w : World) : Calls Try.prog 14 #[.int .i64 t, .int .i64 p] w fun e w' => e = .returned (.int .i64 (rightT t p)) ∧ w = w' := by
  go_enter Try.func14, Try.ntmps14
  go_wp2
  all_goals (go_ret; refine ⟨ret_int ?_, rfl⟩; unfold rightT; first | rw [if_pos (by omega)] | rw [if_neg (by omega)])

set_option maxHeartbeats 400000 in
theorem refRightT_any (t p : Int) (w : World) : Calls Try.prog 15 #[.int .i64 t, .int .i64 p] w fun e w' => e = .returned (.int .i64 (rightT t p)) ∧ w = w' := by
  go_enter Try.func15, Try.ntmps15
  go_wp2
  all_goals (go_ret; refine ⟨ret_int ?_, rfl⟩; unfold rightT; first | rw [if_pos (by omega)] | rw [if_neg (by omega)])

set_option maxHeartbeats 400000 in
theorem nextT_any (k n : Int) (w : World) : Calls Try.prog 10 #[.int .i64 k, .int .i64 n] w fun e w' => e = .returned (.tuple #[.int .i64 (nextT k n).1, .int .i64 (nextT k n).2]) ∧ w = w' := by
  by_cases h1 : k < 0 ∨ 1125899906842624 ≤ k
  · have hn : nextT k n = (0, 14) := by unfold nextT; rw [if_pos h1]
    rw [hn]
    clear hn
    rcases h1 with h1 | h1
    all_goals
      go_enter Try.func10, Try.ntmps10
      go_wp2
      go_ret2
      exact ⟨rfl, rfl⟩
  · have h2 : 0 ≤ k := by omega
    have h3 : k < 1125899906842624 := by omega
    have hn : nextT k n = if rightT (if k + 1 < n then n else k + 1) k = 0 then (if k + 1 < n then n else k + 1, 0) else (0, 14) := by unfold nextT; rw [if_neg h1]
    have HN := Lib.hid hn
    clear h1 hn
    by_cases h4 : k + 1 < n
    · rw [HN.out, if_pos h4]
      have hm : max n (k + 1) = n := by omega
      rcases rightT_or n k with hr | hr
      all_goals
        have hr' := Lib.hid hr
        rw [hr]
        clear hr HN
        go_enter Try.func10, Try.ntmps10
        go_wp2_with (go_at_call 14; refine (rightT_any _ _ _).mono ?_; rintro e w' ⟨rfl, rfl⟩; rw [hr'.out])
        go_ret2
        exact ⟨rfl, rfl⟩
    · rcases Int.lt_or_eq_of_le (show n ≤ k + 1 by omega) with h5 | h5
      · rw [HN.out, if_neg h4]
        rcases rightT_or (k + 1) k with hr | hr
        all_goals
          have hr' := Lib.hid hr
          rw [hr]
          clear hr HN
          go_enter Try.func10, Try.ntmps10
          go_wp2_with (go_at_call 14; refine (rightT_any _ _ _).mono ?_; rintro e w' ⟨rfl, rfl⟩; rw [hr'.out])
          go_ret2
          exact ⟨rfl, rfl⟩
      · subst h5
        rw [HN.out, if_neg h4]
        rcases rightT_or (k + 1) k with hr | hr
        all_goals
          have hr' := Lib.hid hr
          rw [hr]
          clear hr HN
          go_enter Try.func10, Try.ntmps10
          go_wp2_with (go_at_call 14; refine (rightT_any _ _ _).mono ?_; rintro e w' ⟨rfl, rfl⟩; rw [hr'.out])
          go_ret2
          exact ⟨rfl, rfl⟩

set_option maxHeartbeats 400000 in
theorem refNextT_any (k n : Int) (w : World) : Calls Try.prog 11 #[.int .i64 k, .int .i64 n] w fun e w' => e = .returned (.tuple #[.int .i64 (nextT k n).1, .int .i64 (nextT k n).2]) ∧ w = w' := by
  by_cases h1 : k < 0 ∨ 1125899906842624 ≤ k
  · have hn : nextT k n = (0, 14) := by unfold nextT; rw [if_pos h1]
    rw [hn]
    clear hn
    rcases h1 with h1 | h1
    all_goals
      go_enter Try.func11, Try.ntmps11
      go_wp2
      go_ret2
      exact ⟨rfl, rfl⟩
  · have h2 : 0 ≤ k := by omega
    have h3 : k < 1125899906842624 := by omega
    have hn : nextT k n = if rightT (if k + 1 < n then n else k + 1) k = 0 then (if k + 1 < n then n else k + 1, 0) else (0, 14) := by unfold nextT; rw [if_neg h1]
    have HN := Lib.hid hn
    clear h1 hn
    by_cases h4 : k + 1 < n
    · rw [HN.out, if_pos h4]
      have hm : max n (k + 1) = n := by omega
      rcases rightT_or n k with hr | hr
      all_goals
        have hr' := Lib.hid hr
        rw [hr]
        clear hr HN
        go_enter Try.func11, Try.ntmps11
        go_wp2_with (go_at_call 15; refine (refRightT_any _ _ _).mono ?_; rintro e w' ⟨rfl, rfl⟩; rw [hr'.out])
        go_ret2
        exact ⟨rfl, rfl⟩
    · rcases Int.lt_or_eq_of_le (show n ≤ k + 1 by omega) with h5 | h5
      · rw [HN.out, if_neg h4]
        rcases rightT_or (k + 1) k with hr | hr
        all_goals
          have hr' := Lib.hid hr
          rw [hr]
          clear hr HN
          go_enter Try.func11, Try.ntmps11
          go_wp2_with (go_at_call 15; refine (refRightT_any _ _ _).mono ?_; rintro e w' ⟨rfl, rfl⟩; rw [hr'.out])
          go_ret2
          exact ⟨rfl, rfl⟩
      · subst h5
        rw [HN.out, if_neg h4]
        rcases rightT_or (k + 1) k with hr | hr
        all_goals
          have hr' := Lib.hid hr
          rw [hr]
          clear hr HN
          go_enter Try.func11, Try.ntmps11
          go_wp2_with (go_at_call 15; refine (refRightT_any _ _ _).mono ?_; rintro e w' ⟨rfl, rfl⟩; rw [hr'.out])
          go_ret2
          exact ⟨rfl, rfl⟩

end Go.Proofs.Ytboblpmpklofgaa
