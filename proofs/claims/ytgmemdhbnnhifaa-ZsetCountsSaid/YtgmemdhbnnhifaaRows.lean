/-
  No cell of these rows narrows 'for every input' (looked for: loops, veiled, ifaces, maps, wideKeys, modest, calm, conditions, laid).
  DERIVED. THE GIVEN ROWS OF THIS SEAT. 6 by the template 'for every input the law returns true; each argument reads behind the call as it read before'; 0 by the template 'total and deterministic' (their statements: YtgmemdhbnnhifaaTotals.lean).
  GIVEN WITH THE SEED: the statements are not yours to turn. If you find one false, say at which input.
  Laid BY PROGRAM, IN A SANDBOX (cutbox-rows.mjs): the forced cells as the released guide's own fill.sh prints them over the translation e91d846b274817cd… (all of the seat's roots in one cut). By AI agents, Wed Nov 11 2026. No macro, syntax, notation, axiom, sorry.
-/
import Derived.Test.YtgmemdhbnnhifaaChecked
import GoSem.Claim
import GoSem.ClaimJoined
import GoSem.ClaimMapViews
import Derived.JoinedTies
import Derived.KernelRfl
namespace Go.Proofs.Ytgmemdhbnnhifaa
/- THE CELL 'sum', in the pinned program and in every row, IS THE sha256 OF THE DUMP (.gsa) THAT YtgmemdhbnnhifaaProg.lean LOADS. Nothing in Lean hashes anything: it is a label: what it is worth is what the hold of that sum in a sandbox is worth. -/
noncomputable def Try.pinned : Pinned := { name := "ytgmemdhbnnhifaa", sum := "e91d846b274817cdbff1766e864bf66c70d124b26ae3d0d4012d8e070dfeaa43", checked := Try.checked }
namespace Rows
def none {H : Type} : Left H := { results := [], args := [] }

/-- 'homesteadlaw24.ZsetTells': WHATEVER THE INPUT: true; the input reads as it did. -/
def zsetTellsSpec : ChangeSpec := { name := "zsetTells", fn := fun _ => fun
  | [d1, d2] => { results := [.lit (.bool true)], args := [d1, d2] }
  | _ => none }
def zsetTellsRow : OpenClaim := { program := "ytgmemdhbnnhifaa", sum := "e91d846b274817cdbff1766e864bf66c70d124b26ae3d0d4012d8e070dfeaa43", func := "homestead/homesteadlaw24.ZsetTells", spec := "zsetTells", unfollowed := true, recurses := true, apart := false }
def ZsetTellsSaid : Prop := zsetTellsRow.holds Try.pinned (OpenSpec.ofChange zsetTellsSpec)

/-- ITS FALSE NEIGHBOUR: 'it returns false'. Refute it at one input. -/
def zsetTellsWrong : ChangeSpec := { name := "zsetTells", fn := fun _ => fun
  | [d1, d2] => { results := [.lit (.bool false)], args := [d1, d2] }
  | _ => none }
def ZsetTellsWrongFalsely : Prop := zsetTellsRow.holds Try.pinned (OpenSpec.ofChange zsetTellsWrong)

/-- 'homesteadlaw24.ZsetReckons': WHATEVER THE INPUT: true; the input reads as it did. -/
def zsetReckonsSpec : ChangeSpec := { name := "zsetReckons", fn := fun _ => fun
  | [d1, d2, d3] => { results := [.lit (.bool true)], args := [d1, d2, d3] }
  | _ => none }
def zsetReckonsRow : OpenClaim := { program := "ytgmemdhbnnhifaa", sum := "e91d846b274817cdbff1766e864bf66c70d124b26ae3d0d4012d8e070dfeaa43", func := "homestead/homesteadlaw24.ZsetReckons", spec := "zsetReckons", unfollowed := true, recurses := true, apart := false }
def ZsetReckonsSaid : Prop := zsetReckonsRow.holds Try.pinned (OpenSpec.ofChange zsetReckonsSpec)

/-- ITS FALSE NEIGHBOUR: 'it returns false'. Refute it at one input. -/
def zsetReckonsWrong : ChangeSpec := { name := "zsetReckons", fn := fun _ => fun
  | [d1, d2, d3] => { results := [.lit (.bool false)], args := [d1, d2, d3] }
  | _ => none }
def ZsetReckonsWrongFalsely : Prop := zsetReckonsRow.holds Try.pinned (OpenSpec.ofChange zsetReckonsWrong)

/-- 'homesteadlaw24.ZsetGroup': WHATEVER THE INPUT: true; the input reads as it did. -/
def zsetGroupSpec : ChangeSpec := { name := "zsetGroup", fn := fun _ => fun
  | [d1, d2, d3] => { results := [.lit (.bool true)], args := [d1, d2, d3] }
  | _ => none }
def zsetGroupRow : OpenClaim := { program := "ytgmemdhbnnhifaa", sum := "e91d846b274817cdbff1766e864bf66c70d124b26ae3d0d4012d8e070dfeaa43", func := "homestead/homesteadlaw24.ZsetGroup", spec := "zsetGroup", unfollowed := true, recurses := true, apart := false }
def ZsetGroupSaid : Prop := zsetGroupRow.holds Try.pinned (OpenSpec.ofChange zsetGroupSpec)

/-- ITS FALSE NEIGHBOUR: 'it returns false'. Refute it at one input. -/
def zsetGroupWrong : ChangeSpec := { name := "zsetGroup", fn := fun _ => fun
  | [d1, d2, d3] => { results := [.lit (.bool false)], args := [d1, d2, d3] }
  | _ => none }
def ZsetGroupWrongFalsely : Prop := zsetGroupRow.holds Try.pinned (OpenSpec.ofChange zsetGroupWrong)

/-- 'homesteadlaw24.ZsetCounts': WHATEVER THE INPUT: true; the input reads as it did. -/
def zsetCountsSpec : ChangeSpec := { name := "zsetCounts", fn := fun _ => fun
  | [d1, d2, d3, d4] => { results := [.lit (.bool true)], args := [d1, d2, d3, d4] }
  | _ => none }
def zsetCountsRow : OpenClaim := { program := "ytgmemdhbnnhifaa", sum := "e91d846b274817cdbff1766e864bf66c70d124b26ae3d0d4012d8e070dfeaa43", func := "homestead/homesteadlaw24.ZsetCounts", spec := "zsetCounts", unfollowed := true, recurses := true, apart := false }
def ZsetCountsSaid : Prop := zsetCountsRow.holds Try.pinned (OpenSpec.ofChange zsetCountsSpec)

/-- ITS FALSE NEIGHBOUR: 'it returns false'. Refute it at one input. -/
def zsetCountsWrong : ChangeSpec := { name := "zsetCounts", fn := fun _ => fun
  | [d1, d2, d3, d4] => { results := [.lit (.bool false)], args := [d1, d2, d3, d4] }
  | _ => none }
def ZsetCountsWrongFalsely : Prop := zsetCountsRow.holds Try.pinned (OpenSpec.ofChange zsetCountsWrong)

/-- 'homesteadlaw24.ZsetScales': WHATEVER THE INPUT: true; the input reads as it did. -/
def zsetScalesSpec : ChangeSpec := { name := "zsetScales", fn := fun _ => fun
  | [d1, d2, d3, d4] => { results := [.lit (.bool true)], args := [d1, d2, d3, d4] }
  | _ => none }
def zsetScalesRow : OpenClaim := { program := "ytgmemdhbnnhifaa", sum := "e91d846b274817cdbff1766e864bf66c70d124b26ae3d0d4012d8e070dfeaa43", func := "homestead/homesteadlaw24.ZsetScales", spec := "zsetScales", unfollowed := true, recurses := true, apart := false }
def ZsetScalesSaid : Prop := zsetScalesRow.holds Try.pinned (OpenSpec.ofChange zsetScalesSpec)

/-- ITS FALSE NEIGHBOUR: 'it returns false'. Refute it at one input. -/
def zsetScalesWrong : ChangeSpec := { name := "zsetScales", fn := fun _ => fun
  | [d1, d2, d3, d4] => { results := [.lit (.bool false)], args := [d1, d2, d3, d4] }
  | _ => none }
def ZsetScalesWrongFalsely : Prop := zsetScalesRow.holds Try.pinned (OpenSpec.ofChange zsetScalesWrong)

/-- 'homesteadlaw24.ZsetOne': WHATEVER THE INPUT: true; the input reads as it did. -/
def zsetOneSpec : ChangeSpec := { name := "zsetOne", fn := fun _ => fun
  | [d1, d2, d3, d4] => { results := [.lit (.bool true)], args := [d1, d2, d3, d4] }
  | _ => none }
def zsetOneRow : OpenClaim := { program := "ytgmemdhbnnhifaa", sum := "e91d846b274817cdbff1766e864bf66c70d124b26ae3d0d4012d8e070dfeaa43", func := "homestead/homesteadlaw24.ZsetOne", spec := "zsetOne", unfollowed := true, recurses := true, apart := false }
def ZsetOneSaid : Prop := zsetOneRow.holds Try.pinned (OpenSpec.ofChange zsetOneSpec)

/-- ITS FALSE NEIGHBOUR: 'it returns false'. Refute it at one input. -/
def zsetOneWrong : ChangeSpec := { name := "zsetOne", fn := fun _ => fun
  | [d1, d2, d3, d4] => { results := [.lit (.bool false)], args := [d1, d2, d3, d4] }
  | _ => none }
def ZsetOneWrongFalsely : Prop := zsetOneRow.holds Try.pinned (OpenSpec.ofChange zsetOneWrong)

/- THE SECOND FORM. 'bulk': how many values and letters a reading holds, each counted each time it is reached (what is shared counts as often as it is met; a slice's spare places count too). A statement '..UptoSaid' is the law's where the arguments, and the package variables that the reading takes, are together of bulk at most 1048576: NARROWER than '..Said'. Prove '..Said' where nothing that the law and all that it calls make is longer than what came in: it says more and counts as full. Else prove '..UptoSaid'. A law counts once. -/
mutual
def uptoBulk {H : Type} : DataW H → Nat
  | .lit (.string bytes) => bytes.length + 1
  | .lit _ => 1
  | .nil => 1
  | .ptr d => uptoBulk d + 1
  | .slice elems spare => uptoBulkAll elems + uptoBulkAll spare + 1
  | .agg parts => uptoBulkAll parts + 1
  | .iface _ d => uptoBulk d + 1
  | .map entries => uptoBulkEntries entries + 1
  | .held _ => 1
def uptoBulkAll {H : Type} : List (DataW H) → Nat
  | [] => 0
  | d :: r => uptoBulk d + uptoBulkAll r
def uptoBulkEntries {H : Type} : List (Lit × DataW H) → Nat
  | [] => 0
  | x :: r => uptoBulkEntry x + uptoBulkEntries r
def uptoBulkEntry {H : Type} : Lit × DataW H → Nat
  | (.string bytes, d) => bytes.length + uptoBulk d + 1
  | (_, d) => uptoBulk d + 1
 end
def uptoSmall : (H : Type) → List (DataW H) → Bool := fun _ ds => decide (uptoBulkAll ds ≤ 1048576)
def OpenSpec.upto (s : _root_.Go.ChangeSpec) : _root_.Go.OpenSpec := { _root_.Go.OpenSpec.ofChange s with cond := some uptoSmall }

/-- 'homesteadlaw24.ZsetTells', WHERE WHAT IT READS IS OF BULK AT MOST 1048576: true; the input reads as it did. -/
def zsetTellsUptoRow : OpenClaim := { program := "ytgmemdhbnnhifaa", sum := "e91d846b274817cdbff1766e864bf66c70d124b26ae3d0d4012d8e070dfeaa43", func := "homestead/homesteadlaw24.ZsetTells", spec := "zsetTells", unfollowed := true, recurses := true, apart := false, narrowed := true }
def ZsetTellsUptoSaid : Prop := zsetTellsUptoRow.holds Try.pinned (OpenSpec.upto zsetTellsSpec)

/-- 'homesteadlaw24.ZsetReckons', WHERE WHAT IT READS IS OF BULK AT MOST 1048576: true; the input reads as it did. -/
def zsetReckonsUptoRow : OpenClaim := { program := "ytgmemdhbnnhifaa", sum := "e91d846b274817cdbff1766e864bf66c70d124b26ae3d0d4012d8e070dfeaa43", func := "homestead/homesteadlaw24.ZsetReckons", spec := "zsetReckons", unfollowed := true, recurses := true, apart := false, narrowed := true }
def ZsetReckonsUptoSaid : Prop := zsetReckonsUptoRow.holds Try.pinned (OpenSpec.upto zsetReckonsSpec)

/-- 'homesteadlaw24.ZsetGroup', WHERE WHAT IT READS IS OF BULK AT MOST 1048576: true; the input reads as it did. -/
def zsetGroupUptoRow : OpenClaim := { program := "ytgmemdhbnnhifaa", sum := "e91d846b274817cdbff1766e864bf66c70d124b26ae3d0d4012d8e070dfeaa43", func := "homestead/homesteadlaw24.ZsetGroup", spec := "zsetGroup", unfollowed := true, recurses := true, apart := false, narrowed := true }
def ZsetGroupUptoSaid : Prop := zsetGroupUptoRow.holds Try.pinned (OpenSpec.upto zsetGroupSpec)

/-- 'homesteadlaw24.ZsetCounts', WHERE WHAT IT READS IS OF BULK AT MOST 1048576: true; the input reads as it did. -/
def zsetCountsUptoRow : OpenClaim := { program := "ytgmemdhbnnhifaa", sum := "e91d846b274817cdbff1766e864bf66c70d124b26ae3d0d4012d8e070dfeaa43", func := "homestead/homesteadlaw24.ZsetCounts", spec := "zsetCounts", unfollowed := true, recurses := true, apart := false, narrowed := true }
def ZsetCountsUptoSaid : Prop := zsetCountsUptoRow.holds Try.pinned (OpenSpec.upto zsetCountsSpec)

/-- 'homesteadlaw24.ZsetScales', WHERE WHAT IT READS IS OF BULK AT MOST 1048576: true; the input reads as it did. -/
def zsetScalesUptoRow : OpenClaim := { program := "ytgmemdhbnnhifaa", sum := "e91d846b274817cdbff1766e864bf66c70d124b26ae3d0d4012d8e070dfeaa43", func := "homestead/homesteadlaw24.ZsetScales", spec := "zsetScales", unfollowed := true, recurses := true, apart := false, narrowed := true }
def ZsetScalesUptoSaid : Prop := zsetScalesUptoRow.holds Try.pinned (OpenSpec.upto zsetScalesSpec)

/-- 'homesteadlaw24.ZsetOne', WHERE WHAT IT READS IS OF BULK AT MOST 1048576: true; the input reads as it did. -/
def zsetOneUptoRow : OpenClaim := { program := "ytgmemdhbnnhifaa", sum := "e91d846b274817cdbff1766e864bf66c70d124b26ae3d0d4012d8e070dfeaa43", func := "homestead/homesteadlaw24.ZsetOne", spec := "zsetOne", unfollowed := true, recurses := true, apart := false, narrowed := true }
def ZsetOneUptoSaid : Prop := zsetOneUptoRow.holds Try.pinned (OpenSpec.upto zsetOneSpec)

end Rows
end Go.Proofs.Ytgmemdhbnnhifaa
