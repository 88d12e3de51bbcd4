/-
  No cell of these rows narrows 'for every input' (looked for: loops, veiled, ifaces, maps, wideKeys, modest, calm, conditions, laid).
  DERIVED. THE GIVEN ROWS OF THIS SEAT. 7 by the template 'for every input the law returns true; each argument reads behind the call as it read before'; 0 by the template 'total and deterministic' (their statements: YtagbaejgjhmokaaTotals.lean).
  GIVEN WITH THE SEED: the statements are not yours to turn. If you find one false, say at which input.
  Laid BY PROGRAM, IN A SANDBOX (cutbox-rows.mjs): the forced cells as the released guide's own fill.sh prints them over the translation 8dac50ee0798ef4f… (all of the seat's roots in one cut). By AI agents, Wed Nov 11 2026. No macro, syntax, notation, axiom, sorry.
-/
import Derived.Test.YtagbaejgjhmokaaChecked
import GoSem.Claim
import GoSem.ClaimJoined
import GoSem.ClaimMapViews
import Derived.JoinedTies
import Derived.KernelRfl
namespace Go.Proofs.Ytagbaejgjhmokaa
/- THE CELL 'sum', in the pinned program and in every row, IS THE sha256 OF THE DUMP (.gsa) THAT YtagbaejgjhmokaaProg.lean LOADS. Nothing in Lean hashes anything: it is a label: what it is worth is what the hold of that sum in a sandbox is worth. -/
noncomputable def Try.pinned : Pinned := { name := "ytagbaejgjhmokaa", sum := "8dac50ee0798ef4faa706b9260773f4bbd5a2ae8aef47aa743e79c0bec34eeab", checked := Try.checked }
namespace Rows
def none {H : Type} : Left H := { results := [], args := [] }

/-- 'homesteadlaw07.MultiRight': WHATEVER THE INPUT: true; the input reads as it did. -/
def multiRightSpec : ChangeSpec := { name := "multiRight", fn := fun _ => fun
  | [d] => { results := [.lit (.bool true)], args := [d] }
  | _ => none }
def multiRightRow : OpenClaim := { program := "ytagbaejgjhmokaa", sum := "8dac50ee0798ef4faa706b9260773f4bbd5a2ae8aef47aa743e79c0bec34eeab", func := "homestead/homesteadlaw07.MultiRight", spec := "multiRight", inPlace := ["slices.overlaps[homestead/api.Part]", "slices.overlaps[homestead/api.Value]"], unfollowed := true, recurses := true, apart := false }
def MultiRightSaid : Prop := multiRightRow.holds Try.pinned (OpenSpec.ofChange multiRightSpec)

/-- ITS FALSE NEIGHBOUR: 'it returns false'. Refute it at one input. -/
def multiRightWrong : ChangeSpec := { name := "multiRight", fn := fun _ => fun
  | [d] => { results := [.lit (.bool false)], args := [d] }
  | _ => none }
def MultiRightWrongFalsely : Prop := multiRightRow.holds Try.pinned (OpenSpec.ofChange multiRightWrong)

/-- 'homesteadlaw07.MultiWrites': WHATEVER THE INPUT: true; the input reads as it did. -/
def multiWritesSpec : ChangeSpec := { name := "multiWrites", fn := fun _ => fun
  | [d1, d2, d3] => { results := [.lit (.bool true)], args := [d1, d2, d3] }
  | _ => none }
def multiWritesRow : OpenClaim := { program := "ytagbaejgjhmokaa", sum := "8dac50ee0798ef4faa706b9260773f4bbd5a2ae8aef47aa743e79c0bec34eeab", func := "homestead/homesteadlaw07.MultiWrites", spec := "multiWrites", inPlace := ["slices.overlaps[homestead/api.Part]", "slices.overlaps[homestead/api.Value]"], unfollowed := true, recurses := true, apart := false }
def MultiWritesSaid : Prop := multiWritesRow.holds Try.pinned (OpenSpec.ofChange multiWritesSpec)

/-- ITS FALSE NEIGHBOUR: 'it returns false'. Refute it at one input. -/
def multiWritesWrong : ChangeSpec := { name := "multiWrites", fn := fun _ => fun
  | [d1, d2, d3] => { results := [.lit (.bool false)], args := [d1, d2, d3] }
  | _ => none }
def MultiWritesWrongFalsely : Prop := multiWritesRow.holds Try.pinned (OpenSpec.ofChange multiWritesWrong)

/-- 'homesteadlaw07.MultiJoins': WHATEVER THE INPUT: true; the input reads as it did. -/
def multiJoinsSpec : ChangeSpec := { name := "multiJoins", fn := fun _ => fun
  | [d1, d2, d3] => { results := [.lit (.bool true)], args := [d1, d2, d3] }
  | _ => none }
def multiJoinsRow : OpenClaim := { program := "ytagbaejgjhmokaa", sum := "8dac50ee0798ef4faa706b9260773f4bbd5a2ae8aef47aa743e79c0bec34eeab", func := "homestead/homesteadlaw07.MultiJoins", spec := "multiJoins", inPlace := ["slices.overlaps[homestead/api.Part]", "slices.overlaps[homestead/api.Value]"], unfollowed := true, recurses := true, apart := false }
def MultiJoinsSaid : Prop := multiJoinsRow.holds Try.pinned (OpenSpec.ofChange multiJoinsSpec)

/-- ITS FALSE NEIGHBOUR: 'it returns false'. Refute it at one input. -/
def multiJoinsWrong : ChangeSpec := { name := "multiJoins", fn := fun _ => fun
  | [d1, d2, d3] => { results := [.lit (.bool false)], args := [d1, d2, d3] }
  | _ => none }
def MultiJoinsWrongFalsely : Prop := multiJoinsRow.holds Try.pinned (OpenSpec.ofChange multiJoinsWrong)

/-- 'homesteadlaw07.MultiOver': WHATEVER THE INPUT: true; the input reads as it did. -/
def multiOverSpec : ChangeSpec := { name := "multiOver", fn := fun _ => fun
  | [d1, d2, d3] => { results := [.lit (.bool true)], args := [d1, d2, d3] }
  | _ => none }
def multiOverRow : OpenClaim := { program := "ytagbaejgjhmokaa", sum := "8dac50ee0798ef4faa706b9260773f4bbd5a2ae8aef47aa743e79c0bec34eeab", func := "homestead/homesteadlaw07.MultiOver", spec := "multiOver", inPlace := ["slices.overlaps[homestead/api.Part]", "slices.overlaps[homestead/api.Value]"], unfollowed := true, recurses := true, apart := false }
def MultiOverSaid : Prop := multiOverRow.holds Try.pinned (OpenSpec.ofChange multiOverSpec)

/-- ITS FALSE NEIGHBOUR: 'it returns false'. Refute it at one input. -/
def multiOverWrong : ChangeSpec := { name := "multiOver", fn := fun _ => fun
  | [d1, d2, d3] => { results := [.lit (.bool false)], args := [d1, d2, d3] }
  | _ => none }
def MultiOverWrongFalsely : Prop := multiOverRow.holds Try.pinned (OpenSpec.ofChange multiOverWrong)

/-- 'homesteadlaw07.MultiBeside': WHATEVER THE INPUT: true; the input reads as it did. -/
def multiBesideSpec : ChangeSpec := { name := "multiBeside", fn := fun _ => fun
  | [d1, d2, d3] => { results := [.lit (.bool true)], args := [d1, d2, d3] }
  | _ => none }
def multiBesideRow : OpenClaim := { program := "ytagbaejgjhmokaa", sum := "8dac50ee0798ef4faa706b9260773f4bbd5a2ae8aef47aa743e79c0bec34eeab", func := "homestead/homesteadlaw07.MultiBeside", spec := "multiBeside", inPlace := ["slices.overlaps[homestead/api.Part]", "slices.overlaps[homestead/api.Value]"], unfollowed := true, recurses := true, apart := false }
def MultiBesideSaid : Prop := multiBesideRow.holds Try.pinned (OpenSpec.ofChange multiBesideSpec)

/-- ITS FALSE NEIGHBOUR: 'it returns false'. Refute it at one input. -/
def multiBesideWrong : ChangeSpec := { name := "multiBeside", fn := fun _ => fun
  | [d1, d2, d3] => { results := [.lit (.bool false)], args := [d1, d2, d3] }
  | _ => none }
def MultiBesideWrongFalsely : Prop := multiBesideRow.holds Try.pinned (OpenSpec.ofChange multiBesideWrong)

/-- 'homesteadlaw07.MultiGreatest': WHATEVER THE INPUT: true; the input reads as it did. -/
def multiGreatestSpec : ChangeSpec := { name := "multiGreatest", fn := fun _ => fun
  | [d] => { results := [.lit (.bool true)], args := [d] }
  | _ => none }
def multiGreatestRow : OpenClaim := { program := "ytagbaejgjhmokaa", sum := "8dac50ee0798ef4faa706b9260773f4bbd5a2ae8aef47aa743e79c0bec34eeab", func := "homestead/homesteadlaw07.MultiGreatest", spec := "multiGreatest", inPlace := ["slices.overlaps[homestead/api.Part]", "slices.overlaps[homestead/api.Value]"], unfollowed := true, recurses := true, apart := false }
def MultiGreatestSaid : Prop := multiGreatestRow.holds Try.pinned (OpenSpec.ofChange multiGreatestSpec)

/-- ITS FALSE NEIGHBOUR: 'it returns false'. Refute it at one input. -/
def multiGreatestWrong : ChangeSpec := { name := "multiGreatest", fn := fun _ => fun
  | [d] => { results := [.lit (.bool false)], args := [d] }
  | _ => none }
def MultiGreatestWrongFalsely : Prop := multiGreatestRow.holds Try.pinned (OpenSpec.ofChange multiGreatestWrong)

/-- 'homesteadlaw07.MultiMeets': WHATEVER THE INPUT: true; the input reads as it did. -/
def multiMeetsSpec : ChangeSpec := { name := "multiMeets", fn := fun _ => fun
  | [d1, d2, d3] => { results := [.lit (.bool true)], args := [d1, d2, d3] }
  | _ => none }
def multiMeetsRow : OpenClaim := { program := "ytagbaejgjhmokaa", sum := "8dac50ee0798ef4faa706b9260773f4bbd5a2ae8aef47aa743e79c0bec34eeab", func := "homestead/homesteadlaw07.MultiMeets", spec := "multiMeets", inPlace := ["slices.overlaps[homestead/api.Part]", "slices.overlaps[homestead/api.Value]"], unfollowed := true, recurses := true, apart := false }
def MultiMeetsSaid : Prop := multiMeetsRow.holds Try.pinned (OpenSpec.ofChange multiMeetsSpec)

/-- ITS FALSE NEIGHBOUR: 'it returns false'. Refute it at one input. -/
def multiMeetsWrong : ChangeSpec := { name := "multiMeets", fn := fun _ => fun
  | [d1, d2, d3] => { results := [.lit (.bool false)], args := [d1, d2, d3] }
  | _ => none }
def MultiMeetsWrongFalsely : Prop := multiMeetsRow.holds Try.pinned (OpenSpec.ofChange multiMeetsWrong)

/- THE SECOND FORM. 'bulk': how many values and letters a reading holds, each counted each time it is reached (what is shared counts as often as it is met; a slice's spare places count too). A statement '..UptoSaid' is the law's where the arguments, and the package variables that the reading takes, are together of bulk at most 1048576: NARROWER than '..Said'. Prove '..Said' where nothing that the law and all that it calls make is longer than what came in: it says more and counts as full. Else prove '..UptoSaid'. A law counts once. -/
mutual
def uptoBulk {H : Type} : DataW H → Nat
  | .lit (.string bytes) => bytes.length + 1
  | .lit _ => 1
  | .nil => 1
  | .ptr d => uptoBulk d + 1
  | .slice elems spare => uptoBulkAll elems + uptoBulkAll spare + 1
  | .agg parts => uptoBulkAll parts + 1
  | .iface _ d => uptoBulk d + 1
  | .map entries => uptoBulkEntries entries + 1
  | .held _ => 1
def uptoBulkAll {H : Type} : List (DataW H) → Nat
  | [] => 0
  | d :: r => uptoBulk d + uptoBulkAll r
def uptoBulkEntries {H : Type} : List (Lit × DataW H) → Nat
  | [] => 0
  | x :: r => uptoBulkEntry x + uptoBulkEntries r
def uptoBulkEntry {H : Type} : Lit × DataW H → Nat
  | (.string bytes, d) => bytes.length + uptoBulk d + 1
  | (_, d) => uptoBulk d + 1
 end
def uptoSmall : (H : Type) → List (DataW H) → Bool := fun _ ds => decide (uptoBulkAll ds ≤ 1048576)
def OpenSpec.upto (s : _root_.Go.ChangeSpec) : _root_.Go.OpenSpec := { _root_.Go.OpenSpec.ofChange s with cond := some uptoSmall }

/-- 'homesteadlaw07.MultiRight', WHERE WHAT IT READS IS OF BULK AT MOST 1048576: true; the input reads as it did. -/
def multiRightUptoRow : OpenClaim := { program := "ytagbaejgjhmokaa", sum := "8dac50ee0798ef4faa706b9260773f4bbd5a2ae8aef47aa743e79c0bec34eeab", func := "homestead/homesteadlaw07.MultiRight", spec := "multiRight", inPlace := ["slices.overlaps[homestead/api.Part]", "slices.overlaps[homestead/api.Value]"], unfollowed := true, recurses := true, apart := false, narrowed := true }
def MultiRightUptoSaid : Prop := multiRightUptoRow.holds Try.pinned (OpenSpec.upto multiRightSpec)

/-- 'homesteadlaw07.MultiWrites', WHERE WHAT IT READS IS OF BULK AT MOST 1048576: true; the input reads as it did. -/
def multiWritesUptoRow : OpenClaim := { program := "ytagbaejgjhmokaa", sum := "8dac50ee0798ef4faa706b9260773f4bbd5a2ae8aef47aa743e79c0bec34eeab", func := "homestead/homesteadlaw07.MultiWrites", spec := "multiWrites", inPlace := ["slices.overlaps[homestead/api.Part]", "slices.overlaps[homestead/api.Value]"], unfollowed := true, recurses := true, apart := false, narrowed := true }
def MultiWritesUptoSaid : Prop := multiWritesUptoRow.holds Try.pinned (OpenSpec.upto multiWritesSpec)

/-- 'homesteadlaw07.MultiJoins', WHERE WHAT IT READS IS OF BULK AT MOST 1048576: true; the input reads as it did. -/
def multiJoinsUptoRow : OpenClaim := { program := "ytagbaejgjhmokaa", sum := "8dac50ee0798ef4faa706b9260773f4bbd5a2ae8aef47aa743e79c0bec34eeab", func := "homestead/homesteadlaw07.MultiJoins", spec := "multiJoins", inPlace := ["slices.overlaps[homestead/api.Part]", "slices.overlaps[homestead/api.Value]"], unfollowed := true, recurses := true, apart := false, narrowed := true }
def MultiJoinsUptoSaid : Prop := multiJoinsUptoRow.holds Try.pinned (OpenSpec.upto multiJoinsSpec)

/-- 'homesteadlaw07.MultiOver', WHERE WHAT IT READS IS OF BULK AT MOST 1048576: true; the input reads as it did. -/
def multiOverUptoRow : OpenClaim := { program := "ytagbaejgjhmokaa", sum := "8dac50ee0798ef4faa706b9260773f4bbd5a2ae8aef47aa743e79c0bec34eeab", func := "homestead/homesteadlaw07.MultiOver", spec := "multiOver", inPlace := ["slices.overlaps[homestead/api.Part]", "slices.overlaps[homestead/api.Value]"], unfollowed := true, recurses := true, apart := false, narrowed := true }
def MultiOverUptoSaid : Prop := multiOverUptoRow.holds Try.pinned (OpenSpec.upto multiOverSpec)

/-- 'homesteadlaw07.MultiBeside', WHERE WHAT IT READS IS OF BULK AT MOST 1048576: true; the input reads as it did. -/
def multiBesideUptoRow : OpenClaim := { program := "ytagbaejgjhmokaa", sum := "8dac50ee0798ef4faa706b9260773f4bbd5a2ae8aef47aa743e79c0bec34eeab", func := "homestead/homesteadlaw07.MultiBeside", spec := "multiBeside", inPlace := ["slices.overlaps[homestead/api.Part]", "slices.overlaps[homestead/api.Value]"], unfollowed := true, recurses := true, apart := false, narrowed := true }
def MultiBesideUptoSaid : Prop := multiBesideUptoRow.holds Try.pinned (OpenSpec.upto multiBesideSpec)

/-- 'homesteadlaw07.MultiGreatest', WHERE WHAT IT READS IS OF BULK AT MOST 1048576: true; the input reads as it did. -/
def multiGreatestUptoRow : OpenClaim := { program := "ytagbaejgjhmokaa", sum := "8dac50ee0798ef4faa706b9260773f4bbd5a2ae8aef47aa743e79c0bec34eeab", func := "homestead/homesteadlaw07.MultiGreatest", spec := "multiGreatest", inPlace := ["slices.overlaps[homestead/api.Part]", "slices.overlaps[homestead/api.Value]"], unfollowed := true, recurses := true, apart := false, narrowed := true }
def MultiGreatestUptoSaid : Prop := multiGreatestUptoRow.holds Try.pinned (OpenSpec.upto multiGreatestSpec)

/-- 'homesteadlaw07.MultiMeets', WHERE WHAT IT READS IS OF BULK AT MOST 1048576: true; the input reads as it did. -/
def multiMeetsUptoRow : OpenClaim := { program := "ytagbaejgjhmokaa", sum := "8dac50ee0798ef4faa706b9260773f4bbd5a2ae8aef47aa743e79c0bec34eeab", func := "homestead/homesteadlaw07.MultiMeets", spec := "multiMeets", inPlace := ["slices.overlaps[homestead/api.Part]", "slices.overlaps[homestead/api.Value]"], unfollowed := true, recurses := true, apart := false, narrowed := true }
def MultiMeetsUptoSaid : Prop := multiMeetsUptoRow.holds Try.pinned (OpenSpec.upto multiMeetsSpec)

end Rows
end Go.Proofs.Ytagbaejgjhmokaa
