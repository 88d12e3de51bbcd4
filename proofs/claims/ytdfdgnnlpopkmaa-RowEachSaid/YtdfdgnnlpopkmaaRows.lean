/-
  No cell of these rows narrows 'for every input' (looked for: loops, veiled, ifaces, maps, wideKeys, modest, calm, conditions, laid).
  DERIVED. THE GIVEN ROWS OF THIS SEAT. 7 by the template 'for every input the law returns true; each argument reads behind the call as it read before'; 0 by the template 'total and deterministic' (their statements: YtdfdgnnlpopkmaaTotals.lean).
  GIVEN WITH THE SEED: the statements are not yours to turn. If you find one false, say at which input.
  Laid BY PROGRAM, IN A SANDBOX (cutbox-rows.mjs): the forced cells as the released guide's own fill.sh prints them over the translation f53fc2b8530b4eb7… (all of the seat's roots in one cut). By AI agents, Wed Nov 11 2026. No macro, syntax, notation, axiom, sorry.
-/
import Derived.Test.YtdfdgnnlpopkmaaChecked
import GoSem.Claim
import GoSem.ClaimJoined
import GoSem.ClaimMapViews
import Derived.JoinedTies
import Derived.KernelRfl
namespace Go.Proofs.Ytdfdgnnlpopkmaa
/- THE CELL 'sum', in the pinned program and in every row, IS THE sha256 OF THE DUMP (.gsa) THAT YtdfdgnnlpopkmaaProg.lean LOADS. Nothing in Lean hashes anything: it is a label: what it is worth is what the hold of that sum in a sandbox is worth. -/
noncomputable def Try.pinned : Pinned := { name := "ytdfdgnnlpopkmaa", sum := "f53fc2b8530b4eb7fdca679b673913107cce6b33afef61bea6a56f16afcc709f", checked := Try.checked }
namespace Rows
def none {H : Type} : Left H := { results := [], args := [] }

/-- 'homesteadlaw03.RowRight': WHATEVER THE INPUT: true; the input reads as it did. -/
def rowRightSpec : ChangeSpec := { name := "rowRight", fn := fun _ => fun
  | [d1, d2] => { results := [.lit (.bool true)], args := [d1, d2] }
  | _ => none }
def rowRightRow : OpenClaim := { program := "ytdfdgnnlpopkmaa", sum := "f53fc2b8530b4eb7fdca679b673913107cce6b33afef61bea6a56f16afcc709f", func := "homestead/homesteadlaw03.RowRight", spec := "rowRight", apart := false }
def RowRightSaid : Prop := rowRightRow.holds Try.pinned (OpenSpec.ofChange rowRightSpec)

/-- ITS FALSE NEIGHBOUR: 'it returns false'. Refute it at one input. -/
def rowRightWrong : ChangeSpec := { name := "rowRight", fn := fun _ => fun
  | [d1, d2] => { results := [.lit (.bool false)], args := [d1, d2] }
  | _ => none }
def RowRightWrongFalsely : Prop := rowRightRow.holds Try.pinned (OpenSpec.ofChange rowRightWrong)

/-- 'homesteadlaw03.RowOrder': WHATEVER THE INPUT: true; the input reads as it did. -/
def rowOrderSpec : ChangeSpec := { name := "rowOrder", fn := fun _ => fun
  | [d1, d2] => { results := [.lit (.bool true)], args := [d1, d2] }
  | _ => none }
def rowOrderRow : OpenClaim := { program := "ytdfdgnnlpopkmaa", sum := "f53fc2b8530b4eb7fdca679b673913107cce6b33afef61bea6a56f16afcc709f", func := "homestead/homesteadlaw03.RowOrder", spec := "rowOrder", apart := false }
def RowOrderSaid : Prop := rowOrderRow.holds Try.pinned (OpenSpec.ofChange rowOrderSpec)

/-- ITS FALSE NEIGHBOUR: 'it returns false'. Refute it at one input. -/
def rowOrderWrong : ChangeSpec := { name := "rowOrder", fn := fun _ => fun
  | [d1, d2] => { results := [.lit (.bool false)], args := [d1, d2] }
  | _ => none }
def RowOrderWrongFalsely : Prop := rowOrderRow.holds Try.pinned (OpenSpec.ofChange rowOrderWrong)

/-- 'homesteadlaw03.RowBytes': WHATEVER THE INPUT: true; the input reads as it did. -/
def rowBytesSpec : ChangeSpec := { name := "rowBytes", fn := fun _ => fun
  | [d1, d2] => { results := [.lit (.bool true)], args := [d1, d2] }
  | _ => none }
def rowBytesRow : OpenClaim := { program := "ytdfdgnnlpopkmaa", sum := "f53fc2b8530b4eb7fdca679b673913107cce6b33afef61bea6a56f16afcc709f", func := "homestead/homesteadlaw03.RowBytes", spec := "rowBytes", apart := false }
def RowBytesSaid : Prop := rowBytesRow.holds Try.pinned (OpenSpec.ofChange rowBytesSpec)

/-- ITS FALSE NEIGHBOUR: 'it returns false'. Refute it at one input. -/
def rowBytesWrong : ChangeSpec := { name := "rowBytes", fn := fun _ => fun
  | [d1, d2] => { results := [.lit (.bool false)], args := [d1, d2] }
  | _ => none }
def RowBytesWrongFalsely : Prop := rowBytesRow.holds Try.pinned (OpenSpec.ofChange rowBytesWrong)

/-- 'homesteadlaw03.RowGets': WHATEVER THE INPUT: true; the input reads as it did. -/
def rowGetsSpec : ChangeSpec := { name := "rowGets", fn := fun _ => fun
  | [d] => { results := [.lit (.bool true)], args := [d] }
  | _ => none }
def rowGetsRow : OpenClaim := { program := "ytdfdgnnlpopkmaa", sum := "f53fc2b8530b4eb7fdca679b673913107cce6b33afef61bea6a56f16afcc709f", func := "homestead/homesteadlaw03.RowGets", spec := "rowGets", apart := false }
def RowGetsSaid : Prop := rowGetsRow.holds Try.pinned (OpenSpec.ofChange rowGetsSpec)

/-- ITS FALSE NEIGHBOUR: 'it returns false'. Refute it at one input. -/
def rowGetsWrong : ChangeSpec := { name := "rowGets", fn := fun _ => fun
  | [d] => { results := [.lit (.bool false)], args := [d] }
  | _ => none }
def RowGetsWrongFalsely : Prop := rowGetsRow.holds Try.pinned (OpenSpec.ofChange rowGetsWrong)

/-- 'homesteadlaw03.RowTotal': WHATEVER THE INPUT: true; the input reads as it did. -/
def rowTotalSpec : ChangeSpec := { name := "rowTotal", fn := fun _ => fun
  | [d1, d2, d3] => { results := [.lit (.bool true)], args := [d1, d2, d3] }
  | _ => none }
def rowTotalRow : OpenClaim := { program := "ytdfdgnnlpopkmaa", sum := "f53fc2b8530b4eb7fdca679b673913107cce6b33afef61bea6a56f16afcc709f", func := "homestead/homesteadlaw03.RowTotal", spec := "rowTotal", apart := false }
def RowTotalSaid : Prop := rowTotalRow.holds Try.pinned (OpenSpec.ofChange rowTotalSpec)

/-- ITS FALSE NEIGHBOUR: 'it returns false'. Refute it at one input. -/
def rowTotalWrong : ChangeSpec := { name := "rowTotal", fn := fun _ => fun
  | [d1, d2, d3] => { results := [.lit (.bool false)], args := [d1, d2, d3] }
  | _ => none }
def RowTotalWrongFalsely : Prop := rowTotalRow.holds Try.pinned (OpenSpec.ofChange rowTotalWrong)

/-- 'homesteadlaw03.RowApart': WHATEVER THE INPUT: true; the input reads as it did. -/
def rowApartSpec : ChangeSpec := { name := "rowApart", fn := fun _ => fun
  | [d1, d2, d3] => { results := [.lit (.bool true)], args := [d1, d2, d3] }
  | _ => none }
def rowApartRow : OpenClaim := { program := "ytdfdgnnlpopkmaa", sum := "f53fc2b8530b4eb7fdca679b673913107cce6b33afef61bea6a56f16afcc709f", func := "homestead/homesteadlaw03.RowApart", spec := "rowApart", apart := false }
def RowApartSaid : Prop := rowApartRow.holds Try.pinned (OpenSpec.ofChange rowApartSpec)

/-- ITS FALSE NEIGHBOUR: 'it returns false'. Refute it at one input. -/
def rowApartWrong : ChangeSpec := { name := "rowApart", fn := fun _ => fun
  | [d1, d2, d3] => { results := [.lit (.bool false)], args := [d1, d2, d3] }
  | _ => none }
def RowApartWrongFalsely : Prop := rowApartRow.holds Try.pinned (OpenSpec.ofChange rowApartWrong)

/-- 'homesteadlaw03.RowEach': WHATEVER THE INPUT: true; the input reads as it did. -/
def rowEachSpec : ChangeSpec := { name := "rowEach", fn := fun _ => fun
  | [d1, d2] => { results := [.lit (.bool true)], args := [d1, d2] }
  | _ => none }
def rowEachRow : OpenClaim := { program := "ytdfdgnnlpopkmaa", sum := "f53fc2b8530b4eb7fdca679b673913107cce6b33afef61bea6a56f16afcc709f", func := "homestead/homesteadlaw03.RowEach", spec := "rowEach", apart := false }
def RowEachSaid : Prop := rowEachRow.holds Try.pinned (OpenSpec.ofChange rowEachSpec)

/-- ITS FALSE NEIGHBOUR: 'it returns false'. Refute it at one input. -/
def rowEachWrong : ChangeSpec := { name := "rowEach", fn := fun _ => fun
  | [d1, d2] => { results := [.lit (.bool false)], args := [d1, d2] }
  | _ => none }
def RowEachWrongFalsely : Prop := rowEachRow.holds Try.pinned (OpenSpec.ofChange rowEachWrong)

/- THE SECOND FORM. 'bulk': how many values and letters a reading holds, each counted each time it is reached (what is shared counts as often as it is met; a slice's spare places count too). A statement '..UptoSaid' is the law's where the arguments, and the package variables that the reading takes, are together of bulk at most 1048576: NARROWER than '..Said'. Prove '..Said' where nothing that the law and all that it calls make is longer than what came in: it says more and counts as full. Else prove '..UptoSaid'. A law counts once. -/
mutual
def uptoBulk {H : Type} : DataW H → Nat
  | .lit (.string bytes) => bytes.length + 1
  | .lit _ => 1
  | .nil => 1
  | .ptr d => uptoBulk d + 1
  | .slice elems spare => uptoBulkAll elems + uptoBulkAll spare + 1
  | .agg parts => uptoBulkAll parts + 1
  | .iface _ d => uptoBulk d + 1
  | .map entries => uptoBulkEntries entries + 1
  | .held _ => 1
def uptoBulkAll {H : Type} : List (DataW H) → Nat
  | [] => 0
  | d :: r => uptoBulk d + uptoBulkAll r
def uptoBulkEntries {H : Type} : List (Lit × DataW H) → Nat
  | [] => 0
  | x :: r => uptoBulkEntry x + uptoBulkEntries r
def uptoBulkEntry {H : Type} : Lit × DataW H → Nat
  | (.string bytes, d) => bytes.length + uptoBulk d + 1
  | (_, d) => uptoBulk d + 1
 end
def uptoSmall : (H : Type) → List (DataW H) → Bool := fun _ ds => decide (uptoBulkAll ds ≤ 1048576)
def OpenSpec.upto (s : _root_.Go.ChangeSpec) : _root_.Go.OpenSpec := { _root_.Go.OpenSpec.ofChange s with cond := some uptoSmall }

/-- 'homesteadlaw03.RowRight', WHERE WHAT IT READS IS OF BULK AT MOST 1048576: true; the input reads as it did. -/
def rowRightUptoRow : OpenClaim := { program := "ytdfdgnnlpopkmaa", sum := "f53fc2b8530b4eb7fdca679b673913107cce6b33afef61bea6a56f16afcc709f", func := "homestead/homesteadlaw03.RowRight", spec := "rowRight", apart := false, narrowed := true }
def RowRightUptoSaid : Prop := rowRightUptoRow.holds Try.pinned (OpenSpec.upto rowRightSpec)

/-- 'homesteadlaw03.RowOrder', WHERE WHAT IT READS IS OF BULK AT MOST 1048576: true; the input reads as it did. -/
def rowOrderUptoRow : OpenClaim := { program := "ytdfdgnnlpopkmaa", sum := "f53fc2b8530b4eb7fdca679b673913107cce6b33afef61bea6a56f16afcc709f", func := "homestead/homesteadlaw03.RowOrder", spec := "rowOrder", apart := false, narrowed := true }
def RowOrderUptoSaid : Prop := rowOrderUptoRow.holds Try.pinned (OpenSpec.upto rowOrderSpec)

/-- 'homesteadlaw03.RowBytes', WHERE WHAT IT READS IS OF BULK AT MOST 1048576: true; the input reads as it did. -/
def rowBytesUptoRow : OpenClaim := { program := "ytdfdgnnlpopkmaa", sum := "f53fc2b8530b4eb7fdca679b673913107cce6b33afef61bea6a56f16afcc709f", func := "homestead/homesteadlaw03.RowBytes", spec := "rowBytes", apart := false, narrowed := true }
def RowBytesUptoSaid : Prop := rowBytesUptoRow.holds Try.pinned (OpenSpec.upto rowBytesSpec)

/-- 'homesteadlaw03.RowGets', WHERE WHAT IT READS IS OF BULK AT MOST 1048576: true; the input reads as it did. -/
def rowGetsUptoRow : OpenClaim := { program := "ytdfdgnnlpopkmaa", sum := "f53fc2b8530b4eb7fdca679b673913107cce6b33afef61bea6a56f16afcc709f", func := "homestead/homesteadlaw03.RowGets", spec := "rowGets", apart := false, narrowed := true }
def RowGetsUptoSaid : Prop := rowGetsUptoRow.holds Try.pinned (OpenSpec.upto rowGetsSpec)

/-- 'homesteadlaw03.RowTotal', WHERE WHAT IT READS IS OF BULK AT MOST 1048576: true; the input reads as it did. -/
def rowTotalUptoRow : OpenClaim := { program := "ytdfdgnnlpopkmaa", sum := "f53fc2b8530b4eb7fdca679b673913107cce6b33afef61bea6a56f16afcc709f", func := "homestead/homesteadlaw03.RowTotal", spec := "rowTotal", apart := false, narrowed := true }
def RowTotalUptoSaid : Prop := rowTotalUptoRow.holds Try.pinned (OpenSpec.upto rowTotalSpec)

/-- 'homesteadlaw03.RowApart', WHERE WHAT IT READS IS OF BULK AT MOST 1048576: true; the input reads as it did. -/
def rowApartUptoRow : OpenClaim := { program := "ytdfdgnnlpopkmaa", sum := "f53fc2b8530b4eb7fdca679b673913107cce6b33afef61bea6a56f16afcc709f", func := "homestead/homesteadlaw03.RowApart", spec := "rowApart", apart := false, narrowed := true }
def RowApartUptoSaid : Prop := rowApartUptoRow.holds Try.pinned (OpenSpec.upto rowApartSpec)

/-- 'homesteadlaw03.RowEach', WHERE WHAT IT READS IS OF BULK AT MOST 1048576: true; the input reads as it did. -/
def rowEachUptoRow : OpenClaim := { program := "ytdfdgnnlpopkmaa", sum := "f53fc2b8530b4eb7fdca679b673913107cce6b33afef61bea6a56f16afcc709f", func := "homestead/homesteadlaw03.RowEach", spec := "rowEach", apart := false, narrowed := true }
def RowEachUptoSaid : Prop := rowEachUptoRow.holds Try.pinned (OpenSpec.upto rowEachSpec)

end Rows
end Go.Proofs.Ytdfdgnnlpopkmaa
