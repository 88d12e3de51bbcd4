/-
  No cell of these rows narrows 'for every input' (looked for: loops, veiled, ifaces, maps, wideKeys, modest, calm, conditions, laid).
  DERIVED. THE GIVEN ROWS OF THIS SEAT. 4 by the template 'for every input the law returns true; each argument reads behind the call as it read before'; 0 by the template 'total and deterministic' (their statements: YtnolbabpkhdpmaaTotals.lean).
  GIVEN WITH THE SEED: the statements are not yours to turn. If you find one false, say at which input.
  Laid BY PROGRAM, IN A SANDBOX (cutbox-rows.mjs): the forced cells as the released guide's own fill.sh prints them over the translation 67c07bbce2ebfde2… (all of the seat's roots in one cut). By AI agents, Wed Nov 11 2026. No macro, syntax, notation, axiom, sorry.
-/
import Derived.Test.YtnolbabpkhdpmaaChecked
import GoSem.Claim
import GoSem.ClaimJoined
import GoSem.ClaimMapViews
import Derived.JoinedTies
import Derived.KernelRfl
namespace Go.Proofs.Ytnolbabpkhdpmaa
/- THE CELL 'sum', in the pinned program and in every row, IS THE sha256 OF THE DUMP (.gsa) THAT YtnolbabpkhdpmaaProg.lean LOADS. Nothing in Lean hashes anything: it is a label: what it is worth is what the hold of that sum in a sandbox is worth. -/
noncomputable def Try.pinned : Pinned := { name := "ytnolbabpkhdpmaa", sum := "67c07bbce2ebfde2283cdef358301fdda8f7f6a040ffdbf27a083f6c182c0604", checked := Try.checked }
namespace Rows
def none {H : Type} : Left H := { results := [], args := [] }

/-- 'homesteadlaw20.PastPrefix': WHATEVER THE INPUT: true; the input reads as it did. -/
def pastPrefixSpec : ChangeSpec := { name := "pastPrefix", fn := fun _ => fun
  | [d1, d2, d3, d4] => { results := [.lit (.bool true)], args := [d1, d2, d3, d4] }
  | _ => none }
def pastPrefixRow : OpenClaim := { program := "ytnolbabpkhdpmaa", sum := "67c07bbce2ebfde2283cdef358301fdda8f7f6a040ffdbf27a083f6c182c0604", func := "homestead/homesteadlaw20.PastPrefix", spec := "pastPrefix", unfollowed := true, recurses := true, plainKeys := false, apart := false }
def PastPrefixSaid : Prop := pastPrefixRow.holds Try.pinned (OpenSpec.ofChange pastPrefixSpec)

/-- ITS FALSE NEIGHBOUR: 'it returns false'. Refute it at one input. -/
def pastPrefixWrong : ChangeSpec := { name := "pastPrefix", fn := fun _ => fun
  | [d1, d2, d3, d4] => { results := [.lit (.bool false)], args := [d1, d2, d3, d4] }
  | _ => none }
def PastPrefixWrongFalsely : Prop := pastPrefixRow.holds Try.pinned (OpenSpec.ofChange pastPrefixWrong)

/-- 'homesteadlaw20.PastOnce': WHATEVER THE INPUT: true; the input reads as it did. -/
def pastOnceSpec : ChangeSpec := { name := "pastOnce", fn := fun _ => fun
  | [d1, d2, d3, d4, d5] => { results := [.lit (.bool true)], args := [d1, d2, d3, d4, d5] }
  | _ => none }
def pastOnceRow : OpenClaim := { program := "ytnolbabpkhdpmaa", sum := "67c07bbce2ebfde2283cdef358301fdda8f7f6a040ffdbf27a083f6c182c0604", func := "homestead/homesteadlaw20.PastOnce", spec := "pastOnce", unfollowed := true, recurses := true, plainKeys := false, apart := false }
def PastOnceSaid : Prop := pastOnceRow.holds Try.pinned (OpenSpec.ofChange pastOnceSpec)

/-- ITS FALSE NEIGHBOUR: 'it returns false'. Refute it at one input. -/
def pastOnceWrong : ChangeSpec := { name := "pastOnce", fn := fun _ => fun
  | [d1, d2, d3, d4, d5] => { results := [.lit (.bool false)], args := [d1, d2, d3, d4, d5] }
  | _ => none }
def PastOnceWrongFalsely : Prop := pastOnceRow.holds Try.pinned (OpenSpec.ofChange pastOnceWrong)

/-- 'homesteadlaw20.PastAhead': WHATEVER THE INPUT: true; the input reads as it did. -/
def pastAheadSpec : ChangeSpec := { name := "pastAhead", fn := fun _ => fun
  | [d1, d2, d3] => { results := [.lit (.bool true)], args := [d1, d2, d3] }
  | _ => none }
def pastAheadRow : OpenClaim := { program := "ytnolbabpkhdpmaa", sum := "67c07bbce2ebfde2283cdef358301fdda8f7f6a040ffdbf27a083f6c182c0604", func := "homestead/homesteadlaw20.PastAhead", spec := "pastAhead", unfollowed := true, recurses := true, plainKeys := false, apart := false }
def PastAheadSaid : Prop := pastAheadRow.holds Try.pinned (OpenSpec.ofChange pastAheadSpec)

/-- ITS FALSE NEIGHBOUR: 'it returns false'. Refute it at one input. -/
def pastAheadWrong : ChangeSpec := { name := "pastAhead", fn := fun _ => fun
  | [d1, d2, d3] => { results := [.lit (.bool false)], args := [d1, d2, d3] }
  | _ => none }
def PastAheadWrongFalsely : Prop := pastAheadRow.holds Try.pinned (OpenSpec.ofChange pastAheadWrong)

/-- 'homesteadlaw20.PastBoth': WHATEVER THE INPUT: true; the input reads as it did. -/
def pastBothSpec : ChangeSpec := { name := "pastBoth", fn := fun _ => fun
  | [d1, d2, d3, d4, d5] => { results := [.lit (.bool true)], args := [d1, d2, d3, d4, d5] }
  | _ => none }
def pastBothRow : OpenClaim := { program := "ytnolbabpkhdpmaa", sum := "67c07bbce2ebfde2283cdef358301fdda8f7f6a040ffdbf27a083f6c182c0604", func := "homestead/homesteadlaw20.PastBoth", spec := "pastBoth", unfollowed := true, recurses := true, plainKeys := false, apart := false }
def PastBothSaid : Prop := pastBothRow.holds Try.pinned (OpenSpec.ofChange pastBothSpec)

/-- ITS FALSE NEIGHBOUR: 'it returns false'. Refute it at one input. -/
def pastBothWrong : ChangeSpec := { name := "pastBoth", fn := fun _ => fun
  | [d1, d2, d3, d4, d5] => { results := [.lit (.bool false)], args := [d1, d2, d3, d4, d5] }
  | _ => none }
def PastBothWrongFalsely : Prop := pastBothRow.holds Try.pinned (OpenSpec.ofChange pastBothWrong)

/- THE SECOND FORM. 'bulk': how many values and letters a reading holds, each counted each time it is reached (what is shared counts as often as it is met; a slice's spare places count too). A statement '..UptoSaid' is the law's where the arguments, and the package variables that the reading takes, are together of bulk at most 1048576: NARROWER than '..Said'. Prove '..Said' where nothing that the law and all that it calls make is longer than what came in: it says more and counts as full. Else prove '..UptoSaid'. A law counts once. -/
mutual
def uptoBulk {H : Type} : DataW H → Nat
  | .lit (.string bytes) => bytes.length + 1
  | .lit _ => 1
  | .nil => 1
  | .ptr d => uptoBulk d + 1
  | .slice elems spare => uptoBulkAll elems + uptoBulkAll spare + 1
  | .agg parts => uptoBulkAll parts + 1
  | .iface _ d => uptoBulk d + 1
  | .map entries => uptoBulkEntries entries + 1
  | .held _ => 1
def uptoBulkAll {H : Type} : List (DataW H) → Nat
  | [] => 0
  | d :: r => uptoBulk d + uptoBulkAll r
def uptoBulkEntries {H : Type} : List (Lit × DataW H) → Nat
  | [] => 0
  | x :: r => uptoBulkEntry x + uptoBulkEntries r
def uptoBulkEntry {H : Type} : Lit × DataW H → Nat
  | (.string bytes, d) => bytes.length + uptoBulk d + 1
  | (_, d) => uptoBulk d + 1
 end
def uptoSmall : (H : Type) → List (DataW H) → Bool := fun _ ds => decide (uptoBulkAll ds ≤ 1048576)
def OpenSpec.upto (s : _root_.Go.ChangeSpec) : _root_.Go.OpenSpec := { _root_.Go.OpenSpec.ofChange s with cond := some uptoSmall }

/-- 'homesteadlaw20.PastPrefix', WHERE WHAT IT READS IS OF BULK AT MOST 1048576: true; the input reads as it did. -/
def pastPrefixUptoRow : OpenClaim := { program := "ytnolbabpkhdpmaa", sum := "67c07bbce2ebfde2283cdef358301fdda8f7f6a040ffdbf27a083f6c182c0604", func := "homestead/homesteadlaw20.PastPrefix", spec := "pastPrefix", unfollowed := true, recurses := true, plainKeys := false, apart := false, narrowed := true }
def PastPrefixUptoSaid : Prop := pastPrefixUptoRow.holds Try.pinned (OpenSpec.upto pastPrefixSpec)

/-- 'homesteadlaw20.PastOnce', WHERE WHAT IT READS IS OF BULK AT MOST 1048576: true; the input reads as it did. -/
def pastOnceUptoRow : OpenClaim := { program := "ytnolbabpkhdpmaa", sum := "67c07bbce2ebfde2283cdef358301fdda8f7f6a040ffdbf27a083f6c182c0604", func := "homestead/homesteadlaw20.PastOnce", spec := "pastOnce", unfollowed := true, recurses := true, plainKeys := false, apart := false, narrowed := true }
def PastOnceUptoSaid : Prop := pastOnceUptoRow.holds Try.pinned (OpenSpec.upto pastOnceSpec)

/-- 'homesteadlaw20.PastAhead', WHERE WHAT IT READS IS OF BULK AT MOST 1048576: true; the input reads as it did. -/
def pastAheadUptoRow : OpenClaim := { program := "ytnolbabpkhdpmaa", sum := "67c07bbce2ebfde2283cdef358301fdda8f7f6a040ffdbf27a083f6c182c0604", func := "homestead/homesteadlaw20.PastAhead", spec := "pastAhead", unfollowed := true, recurses := true, plainKeys := false, apart := false, narrowed := true }
def PastAheadUptoSaid : Prop := pastAheadUptoRow.holds Try.pinned (OpenSpec.upto pastAheadSpec)

/-- 'homesteadlaw20.PastBoth', WHERE WHAT IT READS IS OF BULK AT MOST 1048576: true; the input reads as it did. -/
def pastBothUptoRow : OpenClaim := { program := "ytnolbabpkhdpmaa", sum := "67c07bbce2ebfde2283cdef358301fdda8f7f6a040ffdbf27a083f6c182c0604", func := "homestead/homesteadlaw20.PastBoth", spec := "pastBoth", unfollowed := true, recurses := true, plainKeys := false, apart := false, narrowed := true }
def PastBothUptoSaid : Prop := pastBothUptoRow.holds Try.pinned (OpenSpec.upto pastBothSpec)

end Rows
end Go.Proofs.Ytnolbabpkhdpmaa
