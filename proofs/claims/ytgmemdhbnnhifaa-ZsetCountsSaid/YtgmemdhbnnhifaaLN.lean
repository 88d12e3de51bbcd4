/-
  Arguments opened as lists of structs whose fields are slices.
-/
import Derived.Test.YtgmemdhbnnhifaaLG
namespace Go.Proofs.Ytgmemdhbnnhifaa
open Go.ChangeShapes Go.WideShapes Go.RowKit

/-- A slice, opened at its cells. -/
theorem trod_list {H : Type} {enc : TypeId × Value → H} {P : Program} {W : World} {t e : TypeId} {α : Type} [Inhabited α] (f : α → List Value) (size : Nat) (hf : ∀ a, (f a).length = size) (hs : 0 < size) {Q : α → Prop}
    (ht : P.underlying t = some (.slice e)) (hc : P.cellsOf e = size) (hopen : ∀ n cs x, DataW.trod enc P W 0 (fun _ => true) true n e cs = some x → cs.length = size → ∃ a, cs = f a ∧ Q a)
    {fuel : Nat} {cs : List Value} {x : DataW H × List MemPlace} (h : DataW.trod enc P W 0 (fun _ => true) true fuel t cs = some x) :
    ∃ (ao : Option Addr) (cap : Nat) (l : List α), cs = [.slice ao l.length cap] ∧ Rd W (.slice ao l.length cap) l.length (l.flatMap f) ∧ ∀ x ∈ l, Q x := by
  rcases Deep.open_slice ht h with ⟨hcs, _⟩ | ⟨a, len', cap', m, n, D, Pl, hcs, _, hl, hm, hmm, _, hx⟩
  · exact ⟨none, 0, [], hcs, ⟨none, 0, rfl, Nat.le_refl _, Nat.zero_le _, fun _ => rfl, fun a ha => nomatch ha⟩, fun x hx => nomatch hx⟩
  · have hmc : m = cap' := by simpa using hmm
    subst hmc
    obtain ⟨A, hA⟩ := Deep.choose_lt (α := α) (p := fun i x => Q x ∧ ∀ r, r < size → W.cell? ((a.add (i * size)).add r) = (f x)[r]?) (n := m) (fun i hi => by
      obtain ⟨cs', h1, h2⟩ := hx i hi
      rw [hc] at h1
      obtain ⟨_, hlen, hcell⟩ := World.cells?_some h1
      obtain ⟨x, rfl, hq⟩ := hopen _ _ _ h2 hlen
      exact ⟨x, hq, hcell⟩)
    have hll : ((List.range len').map A).length = len' := by simp
    refine ⟨some a, m, (List.range len').map A, by rw [hll]; exact hcs, ?_, fun x hx => ?_⟩
    · rw [hll]
      refine ⟨some a, m, rfl, hl, hm, (fun h => nomatch h), fun a' ha => ?_⟩
      cases ha
      intro j u hj
      obtain ⟨i, r, hi, hr, rfl, hu⟩ := flat_at f size hf hs _ _ _ hj
      simp only [List.length_map, List.length_range] at hi
      rw [← Deep.add_add, (hA i (by omega)).2 r hr]
      simpa using hu
    · obtain ⟨i, hi, rfl⟩ := List.mem_map.1 hx
      exact (hA i (by have := List.mem_range.1 hi; omega)).1

theorem open_listQ {H : Type} {enc : TypeId × Value → H} {P : Program} {W : World} {t e : TypeId} {v : Value} {d : DataW H} {p : List MemPlace} {base : Nat} {α : Type} [Inhabited α] (f : α → List Value) (size : Nat) (hf : ∀ a, (f a).length = size) (hs : 0 < size) {Q : α → Prop}
    (ht : P.underlying t = some (.slice e)) (hc : P.cellsOf e = size) (hopen : ∀ n cs x, DataW.trod enc P W 0 (fun _ => true) true n e cs = some x → cs.length = size → ∃ a, cs = f a ∧ Q a)
    (hok : Value.okWide P W .any base t v) (h : DataW.Trod enc P W 0 (fun _ => true) true t v d p) : ∃ l : List α, Rd W v l.length (l.flatMap f) ∧ ∀ x ∈ l, Q x := by
  obtain ⟨a0, len, cap, rfl⟩ := okWide_slice ht hok
  obtain ⟨fuel, hfu⟩ := h
  obtain ⟨ao, c, l, hcs, hr, hq⟩ := trod_list f size hf hs ht hc hopen hfu
  have hcs' : Value.slice a0 len cap = .slice ao l.length c := by simpa [Value.cells] using hcs
  rw [hcs']
  exact ⟨l, hr, hq⟩
end Go.Proofs.Ytgmemdhbnnhifaa
