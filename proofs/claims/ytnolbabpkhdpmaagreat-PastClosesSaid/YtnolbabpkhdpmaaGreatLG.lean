/-
  Arguments opened as lists of structs, of whatever kind.
-/
import Derived.Test.YtnolbabpkhdpmaaGreatLaw
import Derived.Deep.Slices
import Derived.Deep.Strs
import Derived.Lib.SmallJoins
namespace Go.Proofs.YtnolbabpkhdpmaaGreat
open Go.ChangeShapes Go.WideShapes Go.RowKit

theorem flat_at {α β : Type} (f : α → List β) (size : Nat) (hf : ∀ a, (f a).length = size) (_ : 0 < size) : ∀ (l : List α) (j : Nat) (u : β), (l.flatMap f)[j]? = some u → ∃ (i r : Nat) (hi : i < l.length), r < size ∧ j = i * size + r ∧ (f l[i])[r]? = some u := by
  intro l
  induction l with
  | nil => intro j u h; simp at h
  | cons a l ih =>
    intro j u h
    rw [List.flatMap_cons] at h
    by_cases hj : j < size
    · rw [List.getElem?_append_left (by rw [hf]; exact hj)] at h
      exact ⟨0, j, by simp, hj, by omega, h⟩
    · rw [List.getElem?_append_right (by rw [hf]; omega), hf] at h
      obtain ⟨i, r, hi, hr, he, hu⟩ := ih _ _ h
      exact ⟨i + 1, r, by simpa using hi, hr, by rw [Nat.succ_mul]; omega, hu⟩

/-- A slice of anything that came in. -/
theorem open_list {H : Type} {enc : TypeId × Value → H} {P : Program} {W : World} {t e : TypeId} {v : Value} {d : DataW H} {p : List MemPlace} {base : Nat} {α : Type} [Inhabited α] (f : α → List Value) (size : Nat) (hf : ∀ a, (f a).length = size) (hs : 0 < size)
    (ht : P.underlying t = some (.slice e)) (hc : P.cellsOf e = size) (hopen : ∀ n cs x, DataW.trod enc P W 0 (fun _ => true) true n e cs = some x → cs.length = size → ∃ a, cs = f a)
    (hok : Value.okWide P W .any base t v) (h : DataW.Trod enc P W 0 (fun _ => true) true t v d p) : ∃ l : List α, Rd W v l.length (l.flatMap f) := by
  obtain ⟨a0, len, cap, rfl⟩ := okWide_slice ht hok
  obtain ⟨fuel, hfu⟩ := h
  rcases Deep.open_slice ht hfu with ⟨hcs, _⟩ | ⟨a, len', cap', m, n, D, Pl, hcs, _, hl, hm, hmm, _, hx⟩
  · have hcs' : Value.slice a0 len cap = .slice none 0 0 := by simpa [Value.cells] using hcs
    cases hcs'
    exact ⟨[], none, 0, rfl, Nat.le_refl _, Nat.zero_le _, fun _ => rfl, fun a ha => nomatch ha⟩
  · have hcs' : Value.slice a0 len cap = .slice (some a) len' cap' := by simpa [Value.cells] using hcs
    cases hcs'
    have hmc : m = cap := by simpa using hmm
    subst hmc
    obtain ⟨A, hA⟩ := Deep.choose_lt (α := α) (p := fun i x => ∀ r, r < size → W.cell? ((a.add (i * size)).add r) = (f x)[r]?) (n := m) (fun i hi => by
      obtain ⟨cs', h1, h2⟩ := hx i hi
      rw [hc] at h1
      obtain ⟨_, hlen, hcell⟩ := World.cells?_some h1
      obtain ⟨x, rfl⟩ := hopen _ _ _ h2 hlen
      exact ⟨x, hcell⟩)
    refine ⟨(List.range len).map A, some a, m, by simp, by simpa using hl, hm, (fun h => nomatch h), fun a' ha => ?_⟩
    cases ha
    intro j u hj
    obtain ⟨i, r, hi, hr, rfl, hu⟩ := flat_at f size hf hs _ _ _ hj
    simp only [List.length_map, List.length_range] at hi
    rw [← Deep.add_add, hA i (by omega) r hr]
    simpa using hu

end Go.Proofs.YtnolbabpkhdpmaaGreat
