/-
  Layer 17 (tx), plain: codecs put together; what a transaction's bytes are, and what is got back.
-/
import Derived.Test.YtnolbabpkhdpmaaGreatR
import Derived.Test.YtnolbabpkhdpmaaGreatC1P
namespace Go.Proofs.YtnolbabpkhdpmaaGreat

abbrev okI (n : Int) : Prop := -9223372036854775808 ≤ n ∧ n ≤ 9223372036854775807
/-! ### Operations, hand-overs, transactions -/
structure OpT where
  kind : Int
  table : Int
  key : Int
  col : Int
  row : List Val
  val : Val
  after : Int × Int
  at_ : Int
structure HandT where
  to : Int
  kind : Int
  table : Int
  col : Int
  lo : Int
  hi : Int
  amt : Int
def OpT.nums (o : OpT) : List Int := [o.kind, o.table, o.key, o.col, o.after.1, o.after.2, o.at_]
def HandT.nums (h : HandT) : List Int := [h.to, h.kind, h.table, h.col, h.lo, h.hi, h.amt]
structure TxT where
  dev : Int
  seq : Int
  time : Int
  deps : List Int
  ops : List OpT
  els : List OpT
  firm : Bool
  hands : List HandT
  note : Int
  whom : Int
  upto : Int
def firmI (b : Bool) : Int := if b then 1 else 0
def TxT.head (t : TxT) : List Int := [t.dev, t.seq, t.time, firmI t.firm, t.note, t.whom, t.upto]
theorem firmI_bd (b : Bool) : 0 ≤ firmI b ∧ firmI b ≤ 1 := by cases b <;> decide
end Go.Proofs.YtnolbabpkhdpmaaGreat
