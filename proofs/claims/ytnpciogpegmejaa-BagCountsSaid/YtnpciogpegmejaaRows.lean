/-
  No cell of these rows narrows 'for every input' (looked for: loops, veiled, ifaces, maps, wideKeys, modest, calm, conditions, laid).
  DERIVED. THE GIVEN ROWS OF THIS SEAT. 6 by the template 'for every input the law returns true; each argument reads behind the call as it read before'; 0 by the template 'total and deterministic' (their statements: YtnpciogpegmejaaTotals.lean).
  GIVEN WITH THE SEED: the statements are not yours to turn. If you find one false, say at which input.
  Laid BY PROGRAM, IN A SANDBOX (cutbox-rows.mjs): the forced cells as the released guide's own fill.sh prints them over the translation 3cc676b7185f0e6c… (all of the seat's roots in one cut). By AI agents, Wed Nov 11 2026. No macro, syntax, notation, axiom, sorry.
-/
import Derived.Test.YtnpciogpegmejaaChecked
import GoSem.Claim
import GoSem.ClaimJoined
import GoSem.ClaimMapViews
import Derived.JoinedTies
import Derived.KernelRfl
namespace Go.Proofs.Ytnpciogpegmejaa
/- THE CELL 'sum', in the pinned program and in every row, IS THE sha256 OF THE DUMP (.gsa) THAT YtnpciogpegmejaaProg.lean LOADS. Nothing in Lean hashes anything: it is a label: what it is worth is what the hold of that sum in a sandbox is worth. -/
noncomputable def Try.pinned : Pinned := { name := "ytnpciogpegmejaa", sum := "3cc676b7185f0e6c8bfb7272eb9886a2cab32a0c79374fe216963436194e1e06", checked := Try.checked }
namespace Rows
def none {H : Type} : Left H := { results := [], args := [] }

/-- 'homesteadlaw09.BagJoins': WHATEVER THE INPUT: true; the input reads as it did. -/
def bagJoinsSpec : ChangeSpec := { name := "bagJoins", fn := fun _ => fun
  | [d1, d2, d3] => { results := [.lit (.bool true)], args := [d1, d2, d3] }
  | _ => none }
def bagJoinsRow : OpenClaim := { program := "ytnpciogpegmejaa", sum := "3cc676b7185f0e6c8bfb7272eb9886a2cab32a0c79374fe216963436194e1e06", func := "homestead/homesteadlaw09.BagJoins", spec := "bagJoins", inPlace := ["slices.overlaps[homestead/api.Part]"], unfollowed := true, recurses := true, apart := false }
def BagJoinsSaid : Prop := bagJoinsRow.holds Try.pinned (OpenSpec.ofChange bagJoinsSpec)

/-- ITS FALSE NEIGHBOUR: 'it returns false'. Refute it at one input. -/
def bagJoinsWrong : ChangeSpec := { name := "bagJoins", fn := fun _ => fun
  | [d1, d2, d3] => { results := [.lit (.bool false)], args := [d1, d2, d3] }
  | _ => none }
def BagJoinsWrongFalsely : Prop := bagJoinsRow.holds Try.pinned (OpenSpec.ofChange bagJoinsWrong)

/-- 'homesteadlaw09.BagAdds': WHATEVER THE INPUT: true; the input reads as it did. -/
def bagAddsSpec : ChangeSpec := { name := "bagAdds", fn := fun _ => fun
  | [d1, d2, d3] => { results := [.lit (.bool true)], args := [d1, d2, d3] }
  | _ => none }
def bagAddsRow : OpenClaim := { program := "ytnpciogpegmejaa", sum := "3cc676b7185f0e6c8bfb7272eb9886a2cab32a0c79374fe216963436194e1e06", func := "homestead/homesteadlaw09.BagAdds", spec := "bagAdds", inPlace := ["slices.overlaps[homestead/api.Part]"], unfollowed := true, recurses := true, apart := false }
def BagAddsSaid : Prop := bagAddsRow.holds Try.pinned (OpenSpec.ofChange bagAddsSpec)

/-- ITS FALSE NEIGHBOUR: 'it returns false'. Refute it at one input. -/
def bagAddsWrong : ChangeSpec := { name := "bagAdds", fn := fun _ => fun
  | [d1, d2, d3] => { results := [.lit (.bool false)], args := [d1, d2, d3] }
  | _ => none }
def BagAddsWrongFalsely : Prop := bagAddsRow.holds Try.pinned (OpenSpec.ofChange bagAddsWrong)

/-- 'homesteadlaw09.BagTakes': WHATEVER THE INPUT: true; the input reads as it did. -/
def bagTakesSpec : ChangeSpec := { name := "bagTakes", fn := fun _ => fun
  | [d1, d2, d3, d4] => { results := [.lit (.bool true)], args := [d1, d2, d3, d4] }
  | _ => none }
def bagTakesRow : OpenClaim := { program := "ytnpciogpegmejaa", sum := "3cc676b7185f0e6c8bfb7272eb9886a2cab32a0c79374fe216963436194e1e06", func := "homestead/homesteadlaw09.BagTakes", spec := "bagTakes", inPlace := ["slices.overlaps[homestead/api.Part]"], unfollowed := true, recurses := true, apart := false }
def BagTakesSaid : Prop := bagTakesRow.holds Try.pinned (OpenSpec.ofChange bagTakesSpec)

/-- ITS FALSE NEIGHBOUR: 'it returns false'. Refute it at one input. -/
def bagTakesWrong : ChangeSpec := { name := "bagTakes", fn := fun _ => fun
  | [d1, d2, d3, d4] => { results := [.lit (.bool false)], args := [d1, d2, d3, d4] }
  | _ => none }
def BagTakesWrongFalsely : Prop := bagTakesRow.holds Try.pinned (OpenSpec.ofChange bagTakesWrong)

/-- 'homesteadlaw09.BagWins': WHATEVER THE INPUT: true; the input reads as it did. -/
def bagWinsSpec : ChangeSpec := { name := "bagWins", fn := fun _ => fun
  | [d1, d2, d3, d4] => { results := [.lit (.bool true)], args := [d1, d2, d3, d4] }
  | _ => none }
def bagWinsRow : OpenClaim := { program := "ytnpciogpegmejaa", sum := "3cc676b7185f0e6c8bfb7272eb9886a2cab32a0c79374fe216963436194e1e06", func := "homestead/homesteadlaw09.BagWins", spec := "bagWins", inPlace := ["slices.overlaps[homestead/api.Part]"], unfollowed := true, recurses := true, apart := false }
def BagWinsSaid : Prop := bagWinsRow.holds Try.pinned (OpenSpec.ofChange bagWinsSpec)

/-- ITS FALSE NEIGHBOUR: 'it returns false'. Refute it at one input. -/
def bagWinsWrong : ChangeSpec := { name := "bagWins", fn := fun _ => fun
  | [d1, d2, d3, d4] => { results := [.lit (.bool false)], args := [d1, d2, d3, d4] }
  | _ => none }
def BagWinsWrongFalsely : Prop := bagWinsRow.holds Try.pinned (OpenSpec.ofChange bagWinsWrong)

/-- 'homesteadlaw09.BagCounts': WHATEVER THE INPUT: true; the input reads as it did. -/
def bagCountsSpec : ChangeSpec := { name := "bagCounts", fn := fun _ => fun
  | [d1, d2, d3] => { results := [.lit (.bool true)], args := [d1, d2, d3] }
  | _ => none }
def bagCountsRow : OpenClaim := { program := "ytnpciogpegmejaa", sum := "3cc676b7185f0e6c8bfb7272eb9886a2cab32a0c79374fe216963436194e1e06", func := "homestead/homesteadlaw09.BagCounts", spec := "bagCounts", inPlace := ["slices.overlaps[homestead/api.Part]"], unfollowed := true, recurses := true, apart := false }
def BagCountsSaid : Prop := bagCountsRow.holds Try.pinned (OpenSpec.ofChange bagCountsSpec)

/-- ITS FALSE NEIGHBOUR: 'it returns false'. Refute it at one input. -/
def bagCountsWrong : ChangeSpec := { name := "bagCounts", fn := fun _ => fun
  | [d1, d2, d3] => { results := [.lit (.bool false)], args := [d1, d2, d3] }
  | _ => none }
def BagCountsWrongFalsely : Prop := bagCountsRow.holds Try.pinned (OpenSpec.ofChange bagCountsWrong)

/-- 'homesteadlaw09.BagMeets': WHATEVER THE INPUT: true; the input reads as it did. -/
def bagMeetsSpec : ChangeSpec := { name := "bagMeets", fn := fun _ => fun
  | [d1, d2, d3] => { results := [.lit (.bool true)], args := [d1, d2, d3] }
  | _ => none }
def bagMeetsRow : OpenClaim := { program := "ytnpciogpegmejaa", sum := "3cc676b7185f0e6c8bfb7272eb9886a2cab32a0c79374fe216963436194e1e06", func := "homestead/homesteadlaw09.BagMeets", spec := "bagMeets", inPlace := ["slices.overlaps[homestead/api.Part]"], unfollowed := true, recurses := true, apart := false }
def BagMeetsSaid : Prop := bagMeetsRow.holds Try.pinned (OpenSpec.ofChange bagMeetsSpec)

/-- ITS FALSE NEIGHBOUR: 'it returns false'. Refute it at one input. -/
def bagMeetsWrong : ChangeSpec := { name := "bagMeets", fn := fun _ => fun
  | [d1, d2, d3] => { results := [.lit (.bool false)], args := [d1, d2, d3] }
  | _ => none }
def BagMeetsWrongFalsely : Prop := bagMeetsRow.holds Try.pinned (OpenSpec.ofChange bagMeetsWrong)

/- THE SECOND FORM. 'bulk': how many values and letters a reading holds, each counted each time it is reached (what is shared counts as often as it is met; a slice's spare places count too). A statement '..UptoSaid' is the law's where the arguments, and the package variables that the reading takes, are together of bulk at most 1048576: NARROWER than '..Said'. Prove '..Said' where nothing that the law and all that it calls make is longer than what came in: it says more and counts as full. Else prove '..UptoSaid'. A law counts once. -/
mutual
def uptoBulk {H : Type} : DataW H → Nat
  | .lit (.string bytes) => bytes.length + 1
  | .lit _ => 1
  | .nil => 1
  | .ptr d => uptoBulk d + 1
  | .slice elems spare => uptoBulkAll elems + uptoBulkAll spare + 1
  | .agg parts => uptoBulkAll parts + 1
  | .iface _ d => uptoBulk d + 1
  | .map entries => uptoBulkEntries entries + 1
  | .held _ => 1
def uptoBulkAll {H : Type} : List (DataW H) → Nat
  | [] => 0
  | d :: r => uptoBulk d + uptoBulkAll r
def uptoBulkEntries {H : Type} : List (Lit × DataW H) → Nat
  | [] => 0
  | x :: r => uptoBulkEntry x + uptoBulkEntries r
def uptoBulkEntry {H : Type} : Lit × DataW H → Nat
  | (.string bytes, d) => bytes.length + uptoBulk d + 1
  | (_, d) => uptoBulk d + 1
 end
def uptoSmall : (H : Type) → List (DataW H) → Bool := fun _ ds => decide (uptoBulkAll ds ≤ 1048576)
def OpenSpec.upto (s : _root_.Go.ChangeSpec) : _root_.Go.OpenSpec := { _root_.Go.OpenSpec.ofChange s with cond := some uptoSmall }

/-- 'homesteadlaw09.BagJoins', WHERE WHAT IT READS IS OF BULK AT MOST 1048576: true; the input reads as it did. -/
def bagJoinsUptoRow : OpenClaim := { program := "ytnpciogpegmejaa", sum := "3cc676b7185f0e6c8bfb7272eb9886a2cab32a0c79374fe216963436194e1e06", func := "homestead/homesteadlaw09.BagJoins", spec := "bagJoins", inPlace := ["slices.overlaps[homestead/api.Part]"], unfollowed := true, recurses := true, apart := false, narrowed := true }
def BagJoinsUptoSaid : Prop := bagJoinsUptoRow.holds Try.pinned (OpenSpec.upto bagJoinsSpec)

/-- 'homesteadlaw09.BagAdds', WHERE WHAT IT READS IS OF BULK AT MOST 1048576: true; the input reads as it did. -/
def bagAddsUptoRow : OpenClaim := { program := "ytnpciogpegmejaa", sum := "3cc676b7185f0e6c8bfb7272eb9886a2cab32a0c79374fe216963436194e1e06", func := "homestead/homesteadlaw09.BagAdds", spec := "bagAdds", inPlace := ["slices.overlaps[homestead/api.Part]"], unfollowed := true, recurses := true, apart := false, narrowed := true }
def BagAddsUptoSaid : Prop := bagAddsUptoRow.holds Try.pinned (OpenSpec.upto bagAddsSpec)

/-- 'homesteadlaw09.BagTakes', WHERE WHAT IT READS IS OF BULK AT MOST 1048576: true; the input reads as it did. -/
def bagTakesUptoRow : OpenClaim := { program := "ytnpciogpegmejaa", sum := "3cc676b7185f0e6c8bfb7272eb9886a2cab32a0c79374fe216963436194e1e06", func := "homestead/homesteadlaw09.BagTakes", spec := "bagTakes", inPlace := ["slices.overlaps[homestead/api.Part]"], unfollowed := true, recurses := true, apart := false, narrowed := true }
def BagTakesUptoSaid : Prop := bagTakesUptoRow.holds Try.pinned (OpenSpec.upto bagTakesSpec)

/-- 'homesteadlaw09.BagWins', WHERE WHAT IT READS IS OF BULK AT MOST 1048576: true; the input reads as it did. -/
def bagWinsUptoRow : OpenClaim := { program := "ytnpciogpegmejaa", sum := "3cc676b7185f0e6c8bfb7272eb9886a2cab32a0c79374fe216963436194e1e06", func := "homestead/homesteadlaw09.BagWins", spec := "bagWins", inPlace := ["slices.overlaps[homestead/api.Part]"], unfollowed := true, recurses := true, apart := false, narrowed := true }
def BagWinsUptoSaid : Prop := bagWinsUptoRow.holds Try.pinned (OpenSpec.upto bagWinsSpec)

/-- 'homesteadlaw09.BagCounts', WHERE WHAT IT READS IS OF BULK AT MOST 1048576: true; the input reads as it did. -/
def bagCountsUptoRow : OpenClaim := { program := "ytnpciogpegmejaa", sum := "3cc676b7185f0e6c8bfb7272eb9886a2cab32a0c79374fe216963436194e1e06", func := "homestead/homesteadlaw09.BagCounts", spec := "bagCounts", inPlace := ["slices.overlaps[homestead/api.Part]"], unfollowed := true, recurses := true, apart := false, narrowed := true }
def BagCountsUptoSaid : Prop := bagCountsUptoRow.holds Try.pinned (OpenSpec.upto bagCountsSpec)

/-- 'homesteadlaw09.BagMeets', WHERE WHAT IT READS IS OF BULK AT MOST 1048576: true; the input reads as it did. -/
def bagMeetsUptoRow : OpenClaim := { program := "ytnpciogpegmejaa", sum := "3cc676b7185f0e6c8bfb7272eb9886a2cab32a0c79374fe216963436194e1e06", func := "homestead/homesteadlaw09.BagMeets", spec := "bagMeets", inPlace := ["slices.overlaps[homestead/api.Part]"], unfollowed := true, recurses := true, apart := false, narrowed := true }
def BagMeetsUptoSaid : Prop := bagMeetsUptoRow.holds Try.pinned (OpenSpec.upto bagMeetsSpec)

end Rows
end Go.Proofs.Ytnpciogpegmejaa
