/-
  No cell of these rows narrows 'for every input' (looked for: loops, veiled, ifaces, maps, wideKeys, modest, calm, conditions, laid).
  DERIVED. THE GIVEN ROWS OF THIS SEAT. 6 by the template 'for every input the law returns true; each argument reads behind the call as it read before'; 0 by the template 'total and deterministic' (their statements: YtboblpmpklofgaaTotals.lean).
  GIVEN WITH THE SEED: the statements are not yours to turn. If you find one false, say at which input.
  Laid BY PROGRAM, IN A SANDBOX (cutbox-rows.mjs): the forced cells as the released guide's own fill.sh prints them over the translation 0a822ce0167b5dca… (all of the seat's roots in one cut). By AI agents, Wed Nov 11 2026. No macro, syntax, notation, axiom, sorry.
-/
import Derived.Test.YtboblpmpklofgaaChecked
import GoSem.Claim
import GoSem.ClaimJoined
import GoSem.ClaimMapViews
import Derived.JoinedTies
import Derived.KernelRfl
namespace Go.Proofs.Ytboblpmpklofgaa
/- THE CELL 'sum', in the pinned program and in every row, IS THE sha256 OF THE DUMP (.gsa) THAT YtboblpmpklofgaaProg.lean LOADS. Nothing in Lean hashes anything: it is a label: what it is worth is what the hold of that sum in a sandbox is worth. -/
noncomputable def Try.pinned : Pinned := { name := "ytboblpmpklofgaa", sum := "0a822ce0167b5dcafd4ad82a74fa829fc624824be59a0c3d36eb2cbb5b232aab", checked := Try.checked }
namespace Rows
def none {H : Type} : Left H := { results := [], args := [] }

/-- 'homesteadlaw04.ClockTells': WHATEVER THE INPUT: true; the input reads as it did. -/
def clockTellsSpec : ChangeSpec := { name := "clockTells", fn := fun _ => fun
  | [d1, d2, d3, d4] => { results := [.lit (.bool true)], args := [d1, d2, d3, d4] }
  | _ => none }
def clockTellsRow : OpenClaim := { program := "ytboblpmpklofgaa", sum := "0a822ce0167b5dcafd4ad82a74fa829fc624824be59a0c3d36eb2cbb5b232aab", func := "homestead/homesteadlaw04.ClockTells", spec := "clockTells", unfollowed := true, recurses := true, apart := false }
def ClockTellsSaid : Prop := clockTellsRow.holds Try.pinned (OpenSpec.ofChange clockTellsSpec)

/-- ITS FALSE NEIGHBOUR: 'it returns false'. Refute it at one input. -/
def clockTellsWrong : ChangeSpec := { name := "clockTells", fn := fun _ => fun
  | [d1, d2, d3, d4] => { results := [.lit (.bool false)], args := [d1, d2, d3, d4] }
  | _ => none }
def ClockTellsWrongFalsely : Prop := clockTellsRow.holds Try.pinned (OpenSpec.ofChange clockTellsWrong)

/-- 'homesteadlaw04.ClockOrders': WHATEVER THE INPUT: true; the input reads as it did. -/
def clockOrdersSpec : ChangeSpec := { name := "clockOrders", fn := fun _ => fun
  | [d] => { results := [.lit (.bool true)], args := [d] }
  | _ => none }
def clockOrdersRow : OpenClaim := { program := "ytboblpmpklofgaa", sum := "0a822ce0167b5dcafd4ad82a74fa829fc624824be59a0c3d36eb2cbb5b232aab", func := "homestead/homesteadlaw04.ClockOrders", spec := "clockOrders", unfollowed := true, recurses := true, apart := false }
def ClockOrdersSaid : Prop := clockOrdersRow.holds Try.pinned (OpenSpec.ofChange clockOrdersSpec)

/-- ITS FALSE NEIGHBOUR: 'it returns false'. Refute it at one input. -/
def clockOrdersWrong : ChangeSpec := { name := "clockOrders", fn := fun _ => fun
  | [d] => { results := [.lit (.bool false)], args := [d] }
  | _ => none }
def ClockOrdersWrongFalsely : Prop := clockOrdersRow.holds Try.pinned (OpenSpec.ofChange clockOrdersWrong)

/-- 'homesteadlaw04.ClockTotal': WHATEVER THE INPUT: true; the input reads as it did. -/
def clockTotalSpec : ChangeSpec := { name := "clockTotal", fn := fun _ => fun
  | [d1, d2, d3] => { results := [.lit (.bool true)], args := [d1, d2, d3] }
  | _ => none }
def clockTotalRow : OpenClaim := { program := "ytboblpmpklofgaa", sum := "0a822ce0167b5dcafd4ad82a74fa829fc624824be59a0c3d36eb2cbb5b232aab", func := "homestead/homesteadlaw04.ClockTotal", spec := "clockTotal", unfollowed := true, recurses := true, apart := false }
def ClockTotalSaid : Prop := clockTotalRow.holds Try.pinned (OpenSpec.ofChange clockTotalSpec)

/-- ITS FALSE NEIGHBOUR: 'it returns false'. Refute it at one input. -/
def clockTotalWrong : ChangeSpec := { name := "clockTotal", fn := fun _ => fun
  | [d1, d2, d3] => { results := [.lit (.bool false)], args := [d1, d2, d3] }
  | _ => none }
def ClockTotalWrongFalsely : Prop := clockTotalRow.holds Try.pinned (OpenSpec.ofChange clockTotalWrong)

/-- 'homesteadlaw04.ClockRises': WHATEVER THE INPUT: true; the input reads as it did. -/
def clockRisesSpec : ChangeSpec := { name := "clockRises", fn := fun _ => fun
  | [d1, d2] => { results := [.lit (.bool true)], args := [d1, d2] }
  | _ => none }
def clockRisesRow : OpenClaim := { program := "ytboblpmpklofgaa", sum := "0a822ce0167b5dcafd4ad82a74fa829fc624824be59a0c3d36eb2cbb5b232aab", func := "homestead/homesteadlaw04.ClockRises", spec := "clockRises", unfollowed := true, recurses := true, apart := false }
def ClockRisesSaid : Prop := clockRisesRow.holds Try.pinned (OpenSpec.ofChange clockRisesSpec)

/-- ITS FALSE NEIGHBOUR: 'it returns false'. Refute it at one input. -/
def clockRisesWrong : ChangeSpec := { name := "clockRises", fn := fun _ => fun
  | [d1, d2] => { results := [.lit (.bool false)], args := [d1, d2] }
  | _ => none }
def ClockRisesWrongFalsely : Prop := clockRisesRow.holds Try.pinned (OpenSpec.ofChange clockRisesWrong)

/-- 'homesteadlaw04.ClockWithin': WHATEVER THE INPUT: true; the input reads as it did. -/
def clockWithinSpec : ChangeSpec := { name := "clockWithin", fn := fun _ => fun
  | [d1, d2, d3, d4] => { results := [.lit (.bool true)], args := [d1, d2, d3, d4] }
  | _ => none }
def clockWithinRow : OpenClaim := { program := "ytboblpmpklofgaa", sum := "0a822ce0167b5dcafd4ad82a74fa829fc624824be59a0c3d36eb2cbb5b232aab", func := "homestead/homesteadlaw04.ClockWithin", spec := "clockWithin", unfollowed := true, recurses := true, apart := false }
def ClockWithinSaid : Prop := clockWithinRow.holds Try.pinned (OpenSpec.ofChange clockWithinSpec)

/-- ITS FALSE NEIGHBOUR: 'it returns false'. Refute it at one input. -/
def clockWithinWrong : ChangeSpec := { name := "clockWithin", fn := fun _ => fun
  | [d1, d2, d3, d4] => { results := [.lit (.bool false)], args := [d1, d2, d3, d4] }
  | _ => none }
def ClockWithinWrongFalsely : Prop := clockWithinRow.holds Try.pinned (OpenSpec.ofChange clockWithinWrong)

/-- 'homesteadlaw04.ClockTurned': WHATEVER THE INPUT: true; the input reads as it did. -/
def clockTurnedSpec : ChangeSpec := { name := "clockTurned", fn := fun _ => fun
  | [d] => { results := [.lit (.bool true)], args := [d] }
  | _ => none }
def clockTurnedRow : OpenClaim := { program := "ytboblpmpklofgaa", sum := "0a822ce0167b5dcafd4ad82a74fa829fc624824be59a0c3d36eb2cbb5b232aab", func := "homestead/homesteadlaw04.ClockTurned", spec := "clockTurned", unfollowed := true, recurses := true, apart := false }
def ClockTurnedSaid : Prop := clockTurnedRow.holds Try.pinned (OpenSpec.ofChange clockTurnedSpec)

/-- ITS FALSE NEIGHBOUR: 'it returns false'. Refute it at one input. -/
def clockTurnedWrong : ChangeSpec := { name := "clockTurned", fn := fun _ => fun
  | [d] => { results := [.lit (.bool false)], args := [d] }
  | _ => none }
def ClockTurnedWrongFalsely : Prop := clockTurnedRow.holds Try.pinned (OpenSpec.ofChange clockTurnedWrong)

/- THE SECOND FORM. 'bulk': how many values and letters a reading holds, each counted each time it is reached (what is shared counts as often as it is met; a slice's spare places count too). A statement '..UptoSaid' is the law's where the arguments, and the package variables that the reading takes, are together of bulk at most 1048576: NARROWER than '..Said'. Prove '..Said' where nothing that the law and all that it calls make is longer than what came in: it says more and counts as full. Else prove '..UptoSaid'. A law counts once. -/
mutual
def uptoBulk {H : Type} : DataW H → Nat
  | .lit (.string bytes) => bytes.length + 1
  | .lit _ => 1
  | .nil => 1
  | .ptr d => uptoBulk d + 1
  | .slice elems spare => uptoBulkAll elems + uptoBulkAll spare + 1
  | .agg parts => uptoBulkAll parts + 1
  | .iface _ d => uptoBulk d + 1
  | .map entries => uptoBulkEntries entries + 1
  | .held _ => 1
def uptoBulkAll {H : Type} : List (DataW H) → Nat
  | [] => 0
  | d :: r => uptoBulk d + uptoBulkAll r
def uptoBulkEntries {H : Type} : List (Lit × DataW H) → Nat
  | [] => 0
  | x :: r => uptoBulkEntry x + uptoBulkEntries r
def uptoBulkEntry {H : Type} : Lit × DataW H → Nat
  | (.string bytes, d) => bytes.length + uptoBulk d + 1
  | (_, d) => uptoBulk d + 1
 end
def uptoSmall : (H : Type) → List (DataW H) → Bool := fun _ ds => decide (uptoBulkAll ds ≤ 1048576)
def OpenSpec.upto (s : _root_.Go.ChangeSpec) : _root_.Go.OpenSpec := { _root_.Go.OpenSpec.ofChange s with cond := some uptoSmall }

/-- 'homesteadlaw04.ClockTells', WHERE WHAT IT READS IS OF BULK AT MOST 1048576: true; the input reads as it did. -/
def clockTellsUptoRow : OpenClaim := { program := "ytboblpmpklofgaa", sum := "0a822ce0167b5dcafd4ad82a74fa829fc624824be59a0c3d36eb2cbb5b232aab", func := "homestead/homesteadlaw04.ClockTells", spec := "clockTells", unfollowed := true, recurses := true, apart := false, narrowed := true }
def ClockTellsUptoSaid : Prop := clockTellsUptoRow.holds Try.pinned (OpenSpec.upto clockTellsSpec)

/-- 'homesteadlaw04.ClockOrders', WHERE WHAT IT READS IS OF BULK AT MOST 1048576: true; the input reads as it did. -/
def clockOrdersUptoRow : OpenClaim := { program := "ytboblpmpklofgaa", sum := "0a822ce0167b5dcafd4ad82a74fa829fc624824be59a0c3d36eb2cbb5b232aab", func := "homestead/homesteadlaw04.ClockOrders", spec := "clockOrders", unfollowed := true, recurses := true, apart := false, narrowed := true }
def ClockOrdersUptoSaid : Prop := clockOrdersUptoRow.holds Try.pinned (OpenSpec.upto clockOrdersSpec)

/-- 'homesteadlaw04.ClockTotal', WHERE WHAT IT READS IS OF BULK AT MOST 1048576: true; the input reads as it did. -/
def clockTotalUptoRow : OpenClaim := { program := "ytboblpmpklofgaa", sum := "0a822ce0167b5dcafd4ad82a74fa829fc624824be59a0c3d36eb2cbb5b232aab", func := "homestead/homesteadlaw04.ClockTotal", spec := "clockTotal", unfollowed := true, recurses := true, apart := false, narrowed := true }
def ClockTotalUptoSaid : Prop := clockTotalUptoRow.holds Try.pinned (OpenSpec.upto clockTotalSpec)

/-- 'homesteadlaw04.ClockRises', WHERE WHAT IT READS IS OF BULK AT MOST 1048576: true; the input reads as it did. -/
def clockRisesUptoRow : OpenClaim := { program := "ytboblpmpklofgaa", sum := "0a822ce0167b5dcafd4ad82a74fa829fc624824be59a0c3d36eb2cbb5b232aab", func := "homestead/homesteadlaw04.ClockRises", spec := "clockRises", unfollowed := true, recurses := true, apart := false, narrowed := true }
def ClockRisesUptoSaid : Prop := clockRisesUptoRow.holds Try.pinned (OpenSpec.upto clockRisesSpec)

/-- 'homesteadlaw04.ClockWithin', WHERE WHAT IT READS IS OF BULK AT MOST 1048576: true; the input reads as it did. -/
def clockWithinUptoRow : OpenClaim := { program := "ytboblpmpklofgaa", sum := "0a822ce0167b5dcafd4ad82a74fa829fc624824be59a0c3d36eb2cbb5b232aab", func := "homestead/homesteadlaw04.ClockWithin", spec := "clockWithin", unfollowed := true, recurses := true, apart := false, narrowed := true }
def ClockWithinUptoSaid : Prop := clockWithinUptoRow.holds Try.pinned (OpenSpec.upto clockWithinSpec)

/-- 'homesteadlaw04.ClockTurned', WHERE WHAT IT READS IS OF BULK AT MOST 1048576: true; the input reads as it did. -/
def clockTurnedUptoRow : OpenClaim := { program := "ytboblpmpklofgaa", sum := "0a822ce0167b5dcafd4ad82a74fa829fc624824be59a0c3d36eb2cbb5b232aab", func := "homestead/homesteadlaw04.ClockTurned", spec := "clockTurned", unfollowed := true, recurses := true, apart := false, narrowed := true }
def ClockTurnedUptoSaid : Prop := clockTurnedUptoRow.holds Try.pinned (OpenSpec.upto clockTurnedSpec)

end Rows
end Go.Proofs.Ytboblpmpklofgaa
