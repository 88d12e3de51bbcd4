/-
  Layer 4 (clock): stamps that came in.
-/
import Derived.Test.YtboblpmpklofgaaLG
import Derived.Test.YtboblpmpklofgaaTA
namespace Go.Proofs.Ytboblpmpklofgaa
open Go.ChangeShapes Go.WideShapes Go.RowKit

theorem cellsSt : Try.prog.cellsOf 23 = 3 := by kernel_rfl

section
variable {H : Type} {enc : TypeId × Value → H} {W : World}

theorem open_st {n : Nat} {cs : List Value} {x : DataW H × List MemPlace} (h : DataW.trod enc Try.prog W 0 (fun _ => true) true n 23 cs = some x) (hl : cs.length = 3) : ∃ a : Stp, cs = a.cs := by
  obtain ⟨y0, y1, y2, n, _, _, h0, h1, h2⟩ := Deep.trod_struct3 Try.underlying23 h
  match cs, hl with
  | [c0, c1, c2], _ =>
    obtain ⟨k, e0, _⟩ := DataW.trod_int Try.underlying3 h0
    obtain ⟨m, e1, _⟩ := DataW.trod_int Try.underlying3 h1
    obtain ⟨s, e2, _⟩ := DataW.trod_int Try.underlying3 h2
    simp [cellsInt] at e0 e1 e2
    exact ⟨⟨k, m, s⟩, by rw [e0, e1, e2]; rfl⟩

variable {v : Value} {d : DataW H} {p : List MemPlace} {base : Nat}

theorem open_stps (hok : Value.okWide Try.prog W .any base 31 v) (h : DataW.Trod enc Try.prog W 0 (fun _ => true) true 31 v d p) : ∃ l : List Stp, Rd W v l.length (stCs l) := open_list Stp.cs 3 (fun _ => rfl) (by decide) elSt.ty cellsSt (fun _ _ _ h hl => open_st h hl) hok h

theorem open_stp (hok : Value.okWide Try.prog W .any base 23 v) (h : DataW.Trod enc Try.prog W 0 (fun _ => true) true 23 v d p) : ∃ a : Stp, v = a.agg := by
  obtain ⟨v0, v1, v2, y0, y1, y2, n, rfl, _, _, h0, h1, h2⟩ := Joins.open_agg3 Try.underlying23 (by kernel_rfl) cellsSt hok h
  obtain ⟨k, e0, _⟩ := DataW.trod_int Try.underlying3 h0
  obtain ⟨m, e1, _⟩ := DataW.trod_int Try.underlying3 h1
  obtain ⟨s, e2, _⟩ := DataW.trod_int Try.underlying3 h2
  simp only [List.cons.injEq, and_true] at e0 e1 e2
  exact ⟨⟨k, m, s⟩, by rw [e0, e1, e2]⟩
end
end Go.Proofs.Ytboblpmpklofgaa
