/-
  Layers 7 and 9: parts as they lie.
-/
import Derived.Test.YtnolbabpkhdpmaaGreatMP
namespace Go.Proofs.YtnolbabpkhdpmaaGreat
open Go.RowKit

/-- A part's cells, and it as an argument. -/
def enP (p : Prt) : List Value := [.int .i64 p.v.k, .int .i64 p.v.n, .string p.v.s, .int .i64 p.d.dev, .int .i64 p.d.seq, .int .i64 p.at_, .int .i64 p.tm, .int .i64 p.aft.dev, .int .i64 p.aft.seq, .int .i64 p.aat, .bool p.gone]
abbrev Prt.agg (p : Prt) : Value := .agg #[.int .i64 p.v.k, .int .i64 p.v.n, .string p.v.s, .int .i64 p.d.dev, .int .i64 p.d.seq, .int .i64 p.at_, .int .i64 p.tm, .int .i64 p.aft.dev, .int .i64 p.aft.seq, .int .i64 p.aat, .bool p.gone]
abbrev Dt.agg (d : Dt) : Value := .agg #[.int .i64 d.dev, .int .i64 d.seq]
end Go.Proofs.YtnolbabpkhdpmaaGreat
