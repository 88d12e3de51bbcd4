/-
  Layer 4 (clock): Right, Next.
-/
import Derived.Test.YtnolbabpkhdpmaaGreatTC
namespace Go.Proofs.YtnolbabpkhdpmaaGreat
open Go.RowKit Go.Sort Go.BigFrame

def rightT (t p : Int) : Int := if p < 0 ∨ t ≤ p ∨ 1125899906842624 < t ∨ 1048576 < t - p then 14 else 0

/-- The time, and why there is none. -/
def nextT (k n : Int) : Int × Int :=
  if k < 0 ∨ 1125899906842624 ≤ k then (0, 14) else if rightT (if k + 1 < n then n else k + 1) k = 0 then (if k + 1 < n then n else k + 1, 0) else (0, 14)

theorem rightT_or (t p : Int) : rightT t p = 0 ∨ rightT t p = 14 := by unfold rightT; split <;> simp

set_option maxHeartbeats 400000 in
theorem rightT_any (t p : Int) (w : World) : Calls Tryz.prog 73 #[.int .i64 t, .int .i64 p] w fun e w' => e = .returned (.int .i64 (rightT t p)) ∧ w = w' := by
  go_enter Tryz.func73, Tryz.ntmps73
  go_wp2
  all_goals (go_ret; refine ⟨ret_int ?_, rfl⟩; unfold rightT; first | rw [if_pos (by omega)] | rw [if_neg (by omega)])

set_option maxHeartbeats 400000 in
theorem refRightT_any (t p : Int) (w : World) : Calls Tryz.prog 54 #[.int .i64 t, .int .i64 p] w fun e w' => e = .returned (.int .i64 (rightT t p)) ∧ w = w' := by
  go_enter Tryz.func54, Tryz.ntmps54
  go_wp2
  all_goals (go_ret; refine ⟨ret_int ?_, rfl⟩; unfold rightT; first | rw [if_pos (by omega)] | rw [if_neg (by omega)])



end Go.Proofs.YtnolbabpkhdpmaaGreat
