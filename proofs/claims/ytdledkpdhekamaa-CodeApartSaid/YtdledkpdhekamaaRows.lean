/-
  No cell of these rows narrows 'for every input' (looked for: loops, veiled, ifaces, maps, wideKeys, modest, calm, conditions, laid).
  DERIVED. THE GIVEN ROWS OF THIS SEAT. 8 by the template 'for every input the law returns true; each argument reads behind the call as it read before'; 0 by the template 'total and deterministic' (their statements: YtdledkpdhekamaaTotals.lean).
  GIVEN WITH THE SEED: the statements are not yours to turn. If you find one false, say at which input.
  Laid BY PROGRAM, IN A SANDBOX (cutbox-rows.mjs): the forced cells as the released guide's own fill.sh prints them over the translation 8d1fbfca8b8d1a6c… (all of the seat's roots in one cut). By AI agents, Wed Nov 11 2026. No macro, syntax, notation, axiom, sorry.
-/
import Derived.Test.YtdledkpdhekamaaChecked
import GoSem.Claim
import GoSem.ClaimJoined
import GoSem.ClaimMapViews
import Derived.JoinedTies
import Derived.KernelRfl
namespace Go.Proofs.Ytdledkpdhekamaa
/- THE CELL 'sum', in the pinned program and in every row, IS THE sha256 OF THE DUMP (.gsa) THAT YtdledkpdhekamaaProg.lean LOADS. Nothing in Lean hashes anything: it is a label: what it is worth is what the hold of that sum in a sandbox is worth. -/
noncomputable def Try.pinned : Pinned := { name := "ytdledkpdhekamaa", sum := "8d1fbfca8b8d1a6c4876a09c75518757ac67f2d38b4539aecc14a72aaa8b2f56", checked := Try.checked }
namespace Rows
def none {H : Type} : Left H := { results := [], args := [] }

/-- 'homesteadlaw01.CodePuts': WHATEVER THE INPUT: true; the input reads as it did. -/
def codePutsSpec : ChangeSpec := { name := "codePuts", fn := fun _ => fun
  | [d] => { results := [.lit (.bool true)], args := [d] }
  | _ => none }
def codePutsRow : OpenClaim := { program := "ytdledkpdhekamaa", sum := "8d1fbfca8b8d1a6c4876a09c75518757ac67f2d38b4539aecc14a72aaa8b2f56", func := "homestead/homesteadlaw01.CodePuts", spec := "codePuts", unfollowed := true, recurses := true, apart := false }
def CodePutsSaid : Prop := codePutsRow.holds Try.pinned (OpenSpec.ofChange codePutsSpec)

/-- ITS FALSE NEIGHBOUR: 'it returns false'. Refute it at one input. -/
def codePutsWrong : ChangeSpec := { name := "codePuts", fn := fun _ => fun
  | [d] => { results := [.lit (.bool false)], args := [d] }
  | _ => none }
def CodePutsWrongFalsely : Prop := codePutsRow.holds Try.pinned (OpenSpec.ofChange codePutsWrong)

/-- 'homesteadlaw01.CodeGets': WHATEVER THE INPUT: true; the input reads as it did. -/
def codeGetsSpec : ChangeSpec := { name := "codeGets", fn := fun _ => fun
  | [d] => { results := [.lit (.bool true)], args := [d] }
  | _ => none }
def codeGetsRow : OpenClaim := { program := "ytdledkpdhekamaa", sum := "8d1fbfca8b8d1a6c4876a09c75518757ac67f2d38b4539aecc14a72aaa8b2f56", func := "homestead/homesteadlaw01.CodeGets", spec := "codeGets", unfollowed := true, recurses := true, apart := false }
def CodeGetsSaid : Prop := codeGetsRow.holds Try.pinned (OpenSpec.ofChange codeGetsSpec)

/-- ITS FALSE NEIGHBOUR: 'it returns false'. Refute it at one input. -/
def codeGetsWrong : ChangeSpec := { name := "codeGets", fn := fun _ => fun
  | [d] => { results := [.lit (.bool false)], args := [d] }
  | _ => none }
def CodeGetsWrongFalsely : Prop := codeGetsRow.holds Try.pinned (OpenSpec.ofChange codeGetsWrong)

/-- 'homesteadlaw01.CodeBack': WHATEVER THE INPUT: true; the input reads as it did. -/
def codeBackSpec : ChangeSpec := { name := "codeBack", fn := fun _ => fun
  | [d1, d2] => { results := [.lit (.bool true)], args := [d1, d2] }
  | _ => none }
def codeBackRow : OpenClaim := { program := "ytdledkpdhekamaa", sum := "8d1fbfca8b8d1a6c4876a09c75518757ac67f2d38b4539aecc14a72aaa8b2f56", func := "homestead/homesteadlaw01.CodeBack", spec := "codeBack", unfollowed := true, recurses := true, apart := false }
def CodeBackSaid : Prop := codeBackRow.holds Try.pinned (OpenSpec.ofChange codeBackSpec)

/-- ITS FALSE NEIGHBOUR: 'it returns false'. Refute it at one input. -/
def codeBackWrong : ChangeSpec := { name := "codeBack", fn := fun _ => fun
  | [d1, d2] => { results := [.lit (.bool false)], args := [d1, d2] }
  | _ => none }
def CodeBackWrongFalsely : Prop := codeBackRow.holds Try.pinned (OpenSpec.ofChange codeBackWrong)

/-- 'homesteadlaw01.CodeOnce': WHATEVER THE INPUT: true; the input reads as it did. -/
def codeOnceSpec : ChangeSpec := { name := "codeOnce", fn := fun _ => fun
  | [d] => { results := [.lit (.bool true)], args := [d] }
  | _ => none }
def codeOnceRow : OpenClaim := { program := "ytdledkpdhekamaa", sum := "8d1fbfca8b8d1a6c4876a09c75518757ac67f2d38b4539aecc14a72aaa8b2f56", func := "homestead/homesteadlaw01.CodeOnce", spec := "codeOnce", unfollowed := true, recurses := true, apart := false }
def CodeOnceSaid : Prop := codeOnceRow.holds Try.pinned (OpenSpec.ofChange codeOnceSpec)

/-- ITS FALSE NEIGHBOUR: 'it returns false'. Refute it at one input. -/
def codeOnceWrong : ChangeSpec := { name := "codeOnce", fn := fun _ => fun
  | [d] => { results := [.lit (.bool false)], args := [d] }
  | _ => none }
def CodeOnceWrongFalsely : Prop := codeOnceRow.holds Try.pinned (OpenSpec.ofChange codeOnceWrong)

/-- 'homesteadlaw01.CodeTexts': WHATEVER THE INPUT: true; the input reads as it did. -/
def codeTextsSpec : ChangeSpec := { name := "codeTexts", fn := fun _ => fun
  | [d1, d2] => { results := [.lit (.bool true)], args := [d1, d2] }
  | _ => none }
def codeTextsRow : OpenClaim := { program := "ytdledkpdhekamaa", sum := "8d1fbfca8b8d1a6c4876a09c75518757ac67f2d38b4539aecc14a72aaa8b2f56", func := "homestead/homesteadlaw01.CodeTexts", spec := "codeTexts", unfollowed := true, recurses := true, apart := false }
def CodeTextsSaid : Prop := codeTextsRow.holds Try.pinned (OpenSpec.ofChange codeTextsSpec)

/-- ITS FALSE NEIGHBOUR: 'it returns false'. Refute it at one input. -/
def codeTextsWrong : ChangeSpec := { name := "codeTexts", fn := fun _ => fun
  | [d1, d2] => { results := [.lit (.bool false)], args := [d1, d2] }
  | _ => none }
def CodeTextsWrongFalsely : Prop := codeTextsRow.holds Try.pinned (OpenSpec.ofChange codeTextsWrong)

/-- 'homesteadlaw01.CodeRows': WHATEVER THE INPUT: true; the input reads as it did. -/
def codeRowsSpec : ChangeSpec := { name := "codeRows", fn := fun _ => fun
  | [d1, d2] => { results := [.lit (.bool true)], args := [d1, d2] }
  | _ => none }
def codeRowsRow : OpenClaim := { program := "ytdledkpdhekamaa", sum := "8d1fbfca8b8d1a6c4876a09c75518757ac67f2d38b4539aecc14a72aaa8b2f56", func := "homestead/homesteadlaw01.CodeRows", spec := "codeRows", unfollowed := true, recurses := true, apart := false }
def CodeRowsSaid : Prop := codeRowsRow.holds Try.pinned (OpenSpec.ofChange codeRowsSpec)

/-- ITS FALSE NEIGHBOUR: 'it returns false'. Refute it at one input. -/
def codeRowsWrong : ChangeSpec := { name := "codeRows", fn := fun _ => fun
  | [d1, d2] => { results := [.lit (.bool false)], args := [d1, d2] }
  | _ => none }
def CodeRowsWrongFalsely : Prop := codeRowsRow.holds Try.pinned (OpenSpec.ofChange codeRowsWrong)

/-- 'homesteadlaw01.CodeApart': WHATEVER THE INPUT: true; the input reads as it did. -/
def codeApartSpec : ChangeSpec := { name := "codeApart", fn := fun _ => fun
  | [d1, d2] => { results := [.lit (.bool true)], args := [d1, d2] }
  | _ => none }
def codeApartRow : OpenClaim := { program := "ytdledkpdhekamaa", sum := "8d1fbfca8b8d1a6c4876a09c75518757ac67f2d38b4539aecc14a72aaa8b2f56", func := "homestead/homesteadlaw01.CodeApart", spec := "codeApart", unfollowed := true, recurses := true, apart := false }
def CodeApartSaid : Prop := codeApartRow.holds Try.pinned (OpenSpec.ofChange codeApartSpec)

/-- ITS FALSE NEIGHBOUR: 'it returns false'. Refute it at one input. -/
def codeApartWrong : ChangeSpec := { name := "codeApart", fn := fun _ => fun
  | [d1, d2] => { results := [.lit (.bool false)], args := [d1, d2] }
  | _ => none }
def CodeApartWrongFalsely : Prop := codeApartRow.holds Try.pinned (OpenSpec.ofChange codeApartWrong)

/-- 'homesteadlaw01.CodeTwo': WHATEVER THE INPUT: true; the input reads as it did. -/
def codeTwoSpec : ChangeSpec := { name := "codeTwo", fn := fun _ => fun
  | [d1, d2] => { results := [.lit (.bool true)], args := [d1, d2] }
  | _ => none }
def codeTwoRow : OpenClaim := { program := "ytdledkpdhekamaa", sum := "8d1fbfca8b8d1a6c4876a09c75518757ac67f2d38b4539aecc14a72aaa8b2f56", func := "homestead/homesteadlaw01.CodeTwo", spec := "codeTwo", unfollowed := true, recurses := true, apart := false }
def CodeTwoSaid : Prop := codeTwoRow.holds Try.pinned (OpenSpec.ofChange codeTwoSpec)

/-- ITS FALSE NEIGHBOUR: 'it returns false'. Refute it at one input. -/
def codeTwoWrong : ChangeSpec := { name := "codeTwo", fn := fun _ => fun
  | [d1, d2] => { results := [.lit (.bool false)], args := [d1, d2] }
  | _ => none }
def CodeTwoWrongFalsely : Prop := codeTwoRow.holds Try.pinned (OpenSpec.ofChange codeTwoWrong)

/- THE SECOND FORM. 'bulk': how many values and letters a reading holds, each counted each time it is reached (what is shared counts as often as it is met; a slice's spare places count too). A statement '..UptoSaid' is the law's where the arguments, and the package variables that the reading takes, are together of bulk at most 1048576: NARROWER than '..Said'. Prove '..Said' where nothing that the law and all that it calls make is longer than what came in: it says more and counts as full. Else prove '..UptoSaid'. A law counts once. -/
mutual
def uptoBulk {H : Type} : DataW H → Nat
  | .lit (.string bytes) => bytes.length + 1
  | .lit _ => 1
  | .nil => 1
  | .ptr d => uptoBulk d + 1
  | .slice elems spare => uptoBulkAll elems + uptoBulkAll spare + 1
  | .agg parts => uptoBulkAll parts + 1
  | .iface _ d => uptoBulk d + 1
  | .map entries => uptoBulkEntries entries + 1
  | .held _ => 1
def uptoBulkAll {H : Type} : List (DataW H) → Nat
  | [] => 0
  | d :: r => uptoBulk d + uptoBulkAll r
def uptoBulkEntries {H : Type} : List (Lit × DataW H) → Nat
  | [] => 0
  | x :: r => uptoBulkEntry x + uptoBulkEntries r
def uptoBulkEntry {H : Type} : Lit × DataW H → Nat
  | (.string bytes, d) => bytes.length + uptoBulk d + 1
  | (_, d) => uptoBulk d + 1
 end
def uptoSmall : (H : Type) → List (DataW H) → Bool := fun _ ds => decide (uptoBulkAll ds ≤ 1048576)
def OpenSpec.upto (s : _root_.Go.ChangeSpec) : _root_.Go.OpenSpec := { _root_.Go.OpenSpec.ofChange s with cond := some uptoSmall }

/-- 'homesteadlaw01.CodePuts', WHERE WHAT IT READS IS OF BULK AT MOST 1048576: true; the input reads as it did. -/
def codePutsUptoRow : OpenClaim := { program := "ytdledkpdhekamaa", sum := "8d1fbfca8b8d1a6c4876a09c75518757ac67f2d38b4539aecc14a72aaa8b2f56", func := "homestead/homesteadlaw01.CodePuts", spec := "codePuts", unfollowed := true, recurses := true, apart := false, narrowed := true }
def CodePutsUptoSaid : Prop := codePutsUptoRow.holds Try.pinned (OpenSpec.upto codePutsSpec)

/-- 'homesteadlaw01.CodeGets', WHERE WHAT IT READS IS OF BULK AT MOST 1048576: true; the input reads as it did. -/
def codeGetsUptoRow : OpenClaim := { program := "ytdledkpdhekamaa", sum := "8d1fbfca8b8d1a6c4876a09c75518757ac67f2d38b4539aecc14a72aaa8b2f56", func := "homestead/homesteadlaw01.CodeGets", spec := "codeGets", unfollowed := true, recurses := true, apart := false, narrowed := true }
def CodeGetsUptoSaid : Prop := codeGetsUptoRow.holds Try.pinned (OpenSpec.upto codeGetsSpec)

/-- 'homesteadlaw01.CodeBack', WHERE WHAT IT READS IS OF BULK AT MOST 1048576: true; the input reads as it did. -/
def codeBackUptoRow : OpenClaim := { program := "ytdledkpdhekamaa", sum := "8d1fbfca8b8d1a6c4876a09c75518757ac67f2d38b4539aecc14a72aaa8b2f56", func := "homestead/homesteadlaw01.CodeBack", spec := "codeBack", unfollowed := true, recurses := true, apart := false, narrowed := true }
def CodeBackUptoSaid : Prop := codeBackUptoRow.holds Try.pinned (OpenSpec.upto codeBackSpec)

/-- 'homesteadlaw01.CodeOnce', WHERE WHAT IT READS IS OF BULK AT MOST 1048576: true; the input reads as it did. -/
def codeOnceUptoRow : OpenClaim := { program := "ytdledkpdhekamaa", sum := "8d1fbfca8b8d1a6c4876a09c75518757ac67f2d38b4539aecc14a72aaa8b2f56", func := "homestead/homesteadlaw01.CodeOnce", spec := "codeOnce", unfollowed := true, recurses := true, apart := false, narrowed := true }
def CodeOnceUptoSaid : Prop := codeOnceUptoRow.holds Try.pinned (OpenSpec.upto codeOnceSpec)

/-- 'homesteadlaw01.CodeTexts', WHERE WHAT IT READS IS OF BULK AT MOST 1048576: true; the input reads as it did. -/
def codeTextsUptoRow : OpenClaim := { program := "ytdledkpdhekamaa", sum := "8d1fbfca8b8d1a6c4876a09c75518757ac67f2d38b4539aecc14a72aaa8b2f56", func := "homestead/homesteadlaw01.CodeTexts", spec := "codeTexts", unfollowed := true, recurses := true, apart := false, narrowed := true }
def CodeTextsUptoSaid : Prop := codeTextsUptoRow.holds Try.pinned (OpenSpec.upto codeTextsSpec)

/-- 'homesteadlaw01.CodeRows', WHERE WHAT IT READS IS OF BULK AT MOST 1048576: true; the input reads as it did. -/
def codeRowsUptoRow : OpenClaim := { program := "ytdledkpdhekamaa", sum := "8d1fbfca8b8d1a6c4876a09c75518757ac67f2d38b4539aecc14a72aaa8b2f56", func := "homestead/homesteadlaw01.CodeRows", spec := "codeRows", unfollowed := true, recurses := true, apart := false, narrowed := true }
def CodeRowsUptoSaid : Prop := codeRowsUptoRow.holds Try.pinned (OpenSpec.upto codeRowsSpec)

/-- 'homesteadlaw01.CodeApart', WHERE WHAT IT READS IS OF BULK AT MOST 1048576: true; the input reads as it did. -/
def codeApartUptoRow : OpenClaim := { program := "ytdledkpdhekamaa", sum := "8d1fbfca8b8d1a6c4876a09c75518757ac67f2d38b4539aecc14a72aaa8b2f56", func := "homestead/homesteadlaw01.CodeApart", spec := "codeApart", unfollowed := true, recurses := true, apart := false, narrowed := true }
def CodeApartUptoSaid : Prop := codeApartUptoRow.holds Try.pinned (OpenSpec.upto codeApartSpec)

/-- 'homesteadlaw01.CodeTwo', WHERE WHAT IT READS IS OF BULK AT MOST 1048576: true; the input reads as it did. -/
def codeTwoUptoRow : OpenClaim := { program := "ytdledkpdhekamaa", sum := "8d1fbfca8b8d1a6c4876a09c75518757ac67f2d38b4539aecc14a72aaa8b2f56", func := "homestead/homesteadlaw01.CodeTwo", spec := "codeTwo", unfollowed := true, recurses := true, apart := false, narrowed := true }
def CodeTwoUptoSaid : Prop := codeTwoUptoRow.holds Try.pinned (OpenSpec.upto codeTwoSpec)

end Rows
end Go.Proofs.Ytdledkpdhekamaa
