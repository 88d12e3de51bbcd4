/-
  Layer 17 (tx): Dot, Stamp, Knew. (printed by tools/gen_tk.py)
-/
import Derived.Test.YtnolbabpkhdpmaaGreatTD
import Derived.Test.YtnolbabpkhdpmaaGreatBB
import Derived.Test.YtnolbabpkhdpmaaGreatFL
namespace Go.Proofs.YtnolbabpkhdpmaaGreat
open Go.RowKit Go.Sort Go.BigFrame
attribute [local irreducible] FlowW

set_option maxRecDepth 100000 in
theorem dot_any {dev seq time note whom upto : Int} {fm : Bool} {ad ao ae ah : Option Addr} {nd cd no co ne ce nh ch : Nat} (w : World) : Calls Tryz.prog 21 #[.agg #[.int .i64 dev, .int .i64 seq, .int .i64 time, .slice ad nd cd, .slice ao no co, .slice ae ne ce, .bool fm, .slice ah nh ch, .int .i64 note, .int .i64 whom, .int .i64 upto]] w fun e w' => e = .returned (.agg #[.int .i64 dev, .int .i64 seq]) ∧ Below w.heap.size w w' := by
  go_enter Tryz.func21, Tryz.ntmps21
  go_wp2
  exact bodyPost_ret (v := .agg #[.int .i64 dev, .int .i64 seq]) (by simp [results, Tryz.results21, go_sem]) rfl ⟨rfl, below_alloc_then (below_alloc _ _)⟩
set_option maxRecDepth 100000 in
theorem refDot_any {dev seq time note whom upto : Int} {fm : Bool} {ad ao ae ah : Option Addr} {nd cd no co ne ce nh ch : Nat} (w : World) : Calls Tryz.prog 97 #[.agg #[.int .i64 dev, .int .i64 seq, .int .i64 time, .slice ad nd cd, .slice ao no co, .slice ae ne ce, .bool fm, .slice ah nh ch, .int .i64 note, .int .i64 whom, .int .i64 upto]] w fun e w' => e = .returned (.agg #[.int .i64 dev, .int .i64 seq]) ∧ Below w.heap.size w w' := by
  go_enter Tryz.func97, Tryz.ntmps97
  go_wp2
  exact bodyPost_ret (v := .agg #[.int .i64 dev, .int .i64 seq]) (by simp [results, Tryz.results97, go_sem]) rfl ⟨rfl, below_alloc_then (below_alloc _ _)⟩
set_option maxRecDepth 100000 in
theorem stamp_any {dev seq time note whom upto : Int} {fm : Bool} {ad ao ae ah : Option Addr} {nd cd no co ne ce nh ch : Nat} (w : World) : Calls Tryz.prog 45 #[.agg #[.int .i64 dev, .int .i64 seq, .int .i64 time, .slice ad nd cd, .slice ao no co, .slice ae ne ce, .bool fm, .slice ah nh ch, .int .i64 note, .int .i64 whom, .int .i64 upto]] w fun e w' => e = .returned (.agg #[.int .i64 time, .int .i64 dev, .int .i64 seq]) ∧ Below w.heap.size w w' := by
  go_enter Tryz.func45, Tryz.ntmps45
  go_wp2
  exact bodyPost_ret (v := .agg #[.int .i64 time, .int .i64 dev, .int .i64 seq]) (by simp [results, Tryz.results45, go_sem]) rfl ⟨rfl, below_alloc_then (below_alloc _ _)⟩
set_option maxRecDepth 100000 in
theorem refStamp_any {dev seq time note whom upto : Int} {fm : Bool} {ad ao ae ah : Option Addr} {nd cd no co ne ce nh ch : Nat} (w : World) : Calls Tryz.prog 65 #[.agg #[.int .i64 dev, .int .i64 seq, .int .i64 time, .slice ad nd cd, .slice ao no co, .slice ae ne ce, .bool fm, .slice ah nh ch, .int .i64 note, .int .i64 whom, .int .i64 upto]] w fun e w' => e = .returned (.agg #[.int .i64 time, .int .i64 dev, .int .i64 seq]) ∧ Below w.heap.size w w' := by
  go_enter Tryz.func65, Tryz.ntmps65
  go_wp2
  exact bodyPost_ret (v := .agg #[.int .i64 time, .int .i64 dev, .int .i64 seq]) (by simp [results, Tryz.results65, go_sem]) rfl ⟨rfl, below_alloc_then (below_alloc _ _)⟩


end Go.Proofs.YtnolbabpkhdpmaaGreat
