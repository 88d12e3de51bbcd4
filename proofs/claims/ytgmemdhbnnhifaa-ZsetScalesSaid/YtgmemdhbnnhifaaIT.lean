/-
  Layer 24 (zset): an item, as it lies: its row's slice, how often, whose; the row besides.
-/
import Derived.Test.YtgmemdhbnnhifaaQ
namespace Go.Proofs.Ytgmemdhbnnhifaa
open Go.RowKit

/-- An item: its row's slice, how often, its third field's slice; the row. -/
structure It where
  ra : Option Addr
  rn : Nat
  rc : Nat
  many : Int
  ba : Option Addr
  bn : Nat
  bc : Nat
  row : List Val

instance : Inhabited It := ⟨⟨none, 0, 0, 0, none, 0, 0, []⟩⟩

def enI (x : It) : List Value := [.slice x.ra x.rn x.rc, .int .i64 x.many, .slice x.ba x.bn x.bc]
abbrev It.agg (x : It) : Value := .agg #[.slice x.ra x.rn x.rc, .int .i64 x.many, .slice x.ba x.bn x.bc]
end Go.Proofs.Ytgmemdhbnnhifaa
