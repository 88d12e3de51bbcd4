/-
  NARROWER THAN 'FOR EVERY INPUT', by the rows' own cells (each row's printed sentence says how): TxKnows: loops.
  DERIVED. THE GIVEN ROWS OF THIS SEAT. 7 by the template 'for every input the law returns true; each argument reads behind the call as it read before'; 0 by the template 'total and deterministic' (their statements: YtliokkoalkhpaaaTotals.lean).
  GIVEN WITH THE SEED: the statements are not yours to turn. If you find one false, say at which input.
  Laid BY PROGRAM, IN A SANDBOX (cutbox-rows.mjs): the forced cells as the released guide's own fill.sh prints them over the translation efac0798495a72b5… (all of the seat's roots in one cut). By AI agents, Wed Nov 11 2026. No macro, syntax, notation, axiom, sorry.
-/
import Derived.Test.YtliokkoalkhpaaaChecked
import GoSem.Claim
import GoSem.ClaimJoined
import GoSem.ClaimMapViews
import Derived.JoinedTies
import Derived.KernelRfl
namespace Go.Proofs.Ytliokkoalkhpaaa
/- THE CELL 'sum', in the pinned program and in every row, IS THE sha256 OF THE DUMP (.gsa) THAT YtliokkoalkhpaaaProg.lean LOADS. Nothing in Lean hashes anything: it is a label: what it is worth is what the hold of that sum in a sandbox is worth. -/
noncomputable def Try.pinned : Pinned := { name := "ytliokkoalkhpaaa", sum := "efac0798495a72b516ce9b044f47001b2556cf21c0fa6be0dd1946c04a979f0b", checked := Try.checked }
namespace Rows
def none {H : Type} : Left H := { results := [], args := [] }

/-- 'homesteadlaw17.TxTells': WHATEVER THE INPUT: true; the input reads as it did. -/
def txTellsSpec : ChangeSpec := { name := "txTells", fn := fun _ => fun
  | [d1, d2] => { results := [.lit (.bool true)], args := [d1, d2] }
  | _ => none }
def txTellsRow : OpenClaim := { program := "ytliokkoalkhpaaa", sum := "efac0798495a72b516ce9b044f47001b2556cf21c0fa6be0dd1946c04a979f0b", func := "homestead/homesteadlaw17.TxTells", spec := "txTells", unfollowed := true, recurses := true, apart := false }
def TxTellsSaid : Prop := txTellsRow.holds Try.pinned (OpenSpec.ofChange txTellsSpec)

/-- ITS FALSE NEIGHBOUR: 'it returns false'. Refute it at one input. -/
def txTellsWrong : ChangeSpec := { name := "txTells", fn := fun _ => fun
  | [d1, d2] => { results := [.lit (.bool false)], args := [d1, d2] }
  | _ => none }
def TxTellsWrongFalsely : Prop := txTellsRow.holds Try.pinned (OpenSpec.ofChange txTellsWrong)

/-- 'homesteadlaw17.TxBytes': WHATEVER THE INPUT: true; the input reads as it did. -/
def txBytesSpec : ChangeSpec := { name := "txBytes", fn := fun _ => fun
  | [d] => { results := [.lit (.bool true)], args := [d] }
  | _ => none }
def txBytesRow : OpenClaim := { program := "ytliokkoalkhpaaa", sum := "efac0798495a72b516ce9b044f47001b2556cf21c0fa6be0dd1946c04a979f0b", func := "homestead/homesteadlaw17.TxBytes", spec := "txBytes", unfollowed := true, recurses := true, apart := false }
def TxBytesSaid : Prop := txBytesRow.holds Try.pinned (OpenSpec.ofChange txBytesSpec)

/-- ITS FALSE NEIGHBOUR: 'it returns false'. Refute it at one input. -/
def txBytesWrong : ChangeSpec := { name := "txBytes", fn := fun _ => fun
  | [d] => { results := [.lit (.bool false)], args := [d] }
  | _ => none }
def TxBytesWrongFalsely : Prop := txBytesRow.holds Try.pinned (OpenSpec.ofChange txBytesWrong)

/-- 'homesteadlaw17.TxParse': WHATEVER THE INPUT: true; the input reads as it did. -/
def txParseSpec : ChangeSpec := { name := "txParse", fn := fun _ => fun
  | [d] => { results := [.lit (.bool true)], args := [d] }
  | _ => none }
def txParseRow : OpenClaim := { program := "ytliokkoalkhpaaa", sum := "efac0798495a72b516ce9b044f47001b2556cf21c0fa6be0dd1946c04a979f0b", func := "homestead/homesteadlaw17.TxParse", spec := "txParse", unfollowed := true, recurses := true, apart := false }
def TxParseSaid : Prop := txParseRow.holds Try.pinned (OpenSpec.ofChange txParseSpec)

/-- ITS FALSE NEIGHBOUR: 'it returns false'. Refute it at one input. -/
def txParseWrong : ChangeSpec := { name := "txParse", fn := fun _ => fun
  | [d] => { results := [.lit (.bool false)], args := [d] }
  | _ => none }
def TxParseWrongFalsely : Prop := txParseRow.holds Try.pinned (OpenSpec.ofChange txParseWrong)

/-- 'homesteadlaw17.TxBack': WHATEVER THE INPUT: true; the input reads as it did. -/
def txBackSpec : ChangeSpec := { name := "txBack", fn := fun _ => fun
  | [d1, d2, d3] => { results := [.lit (.bool true)], args := [d1, d2, d3] }
  | _ => none }
def txBackRow : OpenClaim := { program := "ytliokkoalkhpaaa", sum := "efac0798495a72b516ce9b044f47001b2556cf21c0fa6be0dd1946c04a979f0b", func := "homestead/homesteadlaw17.TxBack", spec := "txBack", unfollowed := true, recurses := true, apart := false }
def TxBackSaid : Prop := txBackRow.holds Try.pinned (OpenSpec.ofChange txBackSpec)

/-- ITS FALSE NEIGHBOUR: 'it returns false'. Refute it at one input. -/
def txBackWrong : ChangeSpec := { name := "txBack", fn := fun _ => fun
  | [d1, d2, d3] => { results := [.lit (.bool false)], args := [d1, d2, d3] }
  | _ => none }
def TxBackWrongFalsely : Prop := txBackRow.holds Try.pinned (OpenSpec.ofChange txBackWrong)

/-- 'homesteadlaw17.TxOnce': WHATEVER THE INPUT: true; the input reads as it did. -/
def txOnceSpec : ChangeSpec := { name := "txOnce", fn := fun _ => fun
  | [d] => { results := [.lit (.bool true)], args := [d] }
  | _ => none }
def txOnceRow : OpenClaim := { program := "ytliokkoalkhpaaa", sum := "efac0798495a72b516ce9b044f47001b2556cf21c0fa6be0dd1946c04a979f0b", func := "homestead/homesteadlaw17.TxOnce", spec := "txOnce", unfollowed := true, recurses := true, apart := false }
def TxOnceSaid : Prop := txOnceRow.holds Try.pinned (OpenSpec.ofChange txOnceSpec)

/-- ITS FALSE NEIGHBOUR: 'it returns false'. Refute it at one input. -/
def txOnceWrong : ChangeSpec := { name := "txOnce", fn := fun _ => fun
  | [d] => { results := [.lit (.bool false)], args := [d] }
  | _ => none }
def TxOnceWrongFalsely : Prop := txOnceRow.holds Try.pinned (OpenSpec.ofChange txOnceWrong)

/-- 'homesteadlaw17.TxApart': WHATEVER THE INPUT: true; the input reads as it did. -/
def txApartSpec : ChangeSpec := { name := "txApart", fn := fun _ => fun
  | [d1, d2] => { results := [.lit (.bool true)], args := [d1, d2] }
  | _ => none }
def txApartRow : OpenClaim := { program := "ytliokkoalkhpaaa", sum := "efac0798495a72b516ce9b044f47001b2556cf21c0fa6be0dd1946c04a979f0b", func := "homestead/homesteadlaw17.TxApart", spec := "txApart", unfollowed := true, recurses := true, apart := false }
def TxApartSaid : Prop := txApartRow.holds Try.pinned (OpenSpec.ofChange txApartSpec)

/-- ITS FALSE NEIGHBOUR: 'it returns false'. Refute it at one input. -/
def txApartWrong : ChangeSpec := { name := "txApart", fn := fun _ => fun
  | [d1, d2] => { results := [.lit (.bool false)], args := [d1, d2] }
  | _ => none }
def TxApartWrongFalsely : Prop := txApartRow.holds Try.pinned (OpenSpec.ofChange txApartWrong)

/-- 'homesteadlaw17.TxKnows': WHATEVER THE INPUT: true; the input reads as it did. -/
def txKnowsSpec : ChangeSpec := { name := "txKnows", fn := fun _ => fun
  | [d1, d2, d3] => { results := [.lit (.bool true)], args := [d1, d2, d3] }
  | _ => none }
def txKnowsRow : OpenClaim := { program := "ytliokkoalkhpaaa", sum := "efac0798495a72b516ce9b044f47001b2556cf21c0fa6be0dd1946c04a979f0b", func := "homestead/homesteadlaw17.TxKnows", spec := "txKnows", unfollowed := true, recurses := true, loops := true, apart := false }
def TxKnowsSaid : Prop := txKnowsRow.holds Try.pinned (OpenSpec.ofChange txKnowsSpec)

/-- ITS FALSE NEIGHBOUR: 'it returns false'. Refute it at one input. -/
def txKnowsWrong : ChangeSpec := { name := "txKnows", fn := fun _ => fun
  | [d1, d2, d3] => { results := [.lit (.bool false)], args := [d1, d2, d3] }
  | _ => none }
def TxKnowsWrongFalsely : Prop := txKnowsRow.holds Try.pinned (OpenSpec.ofChange txKnowsWrong)

/- THE SECOND FORM. 'bulk': how many values and letters a reading holds, each counted each time it is reached (what is shared counts as often as it is met; a slice's spare places count too). A statement '..UptoSaid' is the law's where the arguments, and the package variables that the reading takes, are together of bulk at most 1048576: NARROWER than '..Said'. Prove '..Said' where nothing that the law and all that it calls make is longer than what came in: it says more and counts as full. Else prove '..UptoSaid'. A law counts once. -/
mutual
def uptoBulk {H : Type} : DataW H → Nat
  | .lit (.string bytes) => bytes.length + 1
  | .lit _ => 1
  | .nil => 1
  | .ptr d => uptoBulk d + 1
  | .slice elems spare => uptoBulkAll elems + uptoBulkAll spare + 1
  | .agg parts => uptoBulkAll parts + 1
  | .iface _ d => uptoBulk d + 1
  | .map entries => uptoBulkEntries entries + 1
  | .held _ => 1
def uptoBulkAll {H : Type} : List (DataW H) → Nat
  | [] => 0
  | d :: r => uptoBulk d + uptoBulkAll r
def uptoBulkEntries {H : Type} : List (Lit × DataW H) → Nat
  | [] => 0
  | x :: r => uptoBulkEntry x + uptoBulkEntries r
def uptoBulkEntry {H : Type} : Lit × DataW H → Nat
  | (.string bytes, d) => bytes.length + uptoBulk d + 1
  | (_, d) => uptoBulk d + 1
 end
def uptoSmall : (H : Type) → List (DataW H) → Bool := fun _ ds => decide (uptoBulkAll ds ≤ 1048576)
def OpenSpec.upto (s : _root_.Go.ChangeSpec) : _root_.Go.OpenSpec := { _root_.Go.OpenSpec.ofChange s with cond := some uptoSmall }

/-- 'homesteadlaw17.TxTells', WHERE WHAT IT READS IS OF BULK AT MOST 1048576: true; the input reads as it did. -/
def txTellsUptoRow : OpenClaim := { program := "ytliokkoalkhpaaa", sum := "efac0798495a72b516ce9b044f47001b2556cf21c0fa6be0dd1946c04a979f0b", func := "homestead/homesteadlaw17.TxTells", spec := "txTells", unfollowed := true, recurses := true, apart := false, narrowed := true }
def TxTellsUptoSaid : Prop := txTellsUptoRow.holds Try.pinned (OpenSpec.upto txTellsSpec)

/-- 'homesteadlaw17.TxBytes', WHERE WHAT IT READS IS OF BULK AT MOST 1048576: true; the input reads as it did. -/
def txBytesUptoRow : OpenClaim := { program := "ytliokkoalkhpaaa", sum := "efac0798495a72b516ce9b044f47001b2556cf21c0fa6be0dd1946c04a979f0b", func := "homestead/homesteadlaw17.TxBytes", spec := "txBytes", unfollowed := true, recurses := true, apart := false, narrowed := true }
def TxBytesUptoSaid : Prop := txBytesUptoRow.holds Try.pinned (OpenSpec.upto txBytesSpec)

/-- 'homesteadlaw17.TxParse', WHERE WHAT IT READS IS OF BULK AT MOST 1048576: true; the input reads as it did. -/
def txParseUptoRow : OpenClaim := { program := "ytliokkoalkhpaaa", sum := "efac0798495a72b516ce9b044f47001b2556cf21c0fa6be0dd1946c04a979f0b", func := "homestead/homesteadlaw17.TxParse", spec := "txParse", unfollowed := true, recurses := true, apart := false, narrowed := true }
def TxParseUptoSaid : Prop := txParseUptoRow.holds Try.pinned (OpenSpec.upto txParseSpec)

/-- 'homesteadlaw17.TxBack', WHERE WHAT IT READS IS OF BULK AT MOST 1048576: true; the input reads as it did. -/
def txBackUptoRow : OpenClaim := { program := "ytliokkoalkhpaaa", sum := "efac0798495a72b516ce9b044f47001b2556cf21c0fa6be0dd1946c04a979f0b", func := "homestead/homesteadlaw17.TxBack", spec := "txBack", unfollowed := true, recurses := true, apart := false, narrowed := true }
def TxBackUptoSaid : Prop := txBackUptoRow.holds Try.pinned (OpenSpec.upto txBackSpec)

/-- 'homesteadlaw17.TxOnce', WHERE WHAT IT READS IS OF BULK AT MOST 1048576: true; the input reads as it did. -/
def txOnceUptoRow : OpenClaim := { program := "ytliokkoalkhpaaa", sum := "efac0798495a72b516ce9b044f47001b2556cf21c0fa6be0dd1946c04a979f0b", func := "homestead/homesteadlaw17.TxOnce", spec := "txOnce", unfollowed := true, recurses := true, apart := false, narrowed := true }
def TxOnceUptoSaid : Prop := txOnceUptoRow.holds Try.pinned (OpenSpec.upto txOnceSpec)

/-- 'homesteadlaw17.TxApart', WHERE WHAT IT READS IS OF BULK AT MOST 1048576: true; the input reads as it did. -/
def txApartUptoRow : OpenClaim := { program := "ytliokkoalkhpaaa", sum := "efac0798495a72b516ce9b044f47001b2556cf21c0fa6be0dd1946c04a979f0b", func := "homestead/homesteadlaw17.TxApart", spec := "txApart", unfollowed := true, recurses := true, apart := false, narrowed := true }
def TxApartUptoSaid : Prop := txApartUptoRow.holds Try.pinned (OpenSpec.upto txApartSpec)

/-- 'homesteadlaw17.TxKnows', WHERE WHAT IT READS IS OF BULK AT MOST 1048576: true; the input reads as it did. -/
def txKnowsUptoRow : OpenClaim := { program := "ytliokkoalkhpaaa", sum := "efac0798495a72b516ce9b044f47001b2556cf21c0fa6be0dd1946c04a979f0b", func := "homestead/homesteadlaw17.TxKnows", spec := "txKnows", unfollowed := true, recurses := true, loops := true, apart := false, narrowed := true }
def TxKnowsUptoSaid : Prop := txKnowsUptoRow.holds Try.pinned (OpenSpec.upto txKnowsSpec)

end Rows
end Go.Proofs.Ytliokkoalkhpaaa
