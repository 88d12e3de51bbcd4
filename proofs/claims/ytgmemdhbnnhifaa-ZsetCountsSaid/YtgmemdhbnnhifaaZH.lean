/-
  What is owned, cut short; what lies behind the cut set to nought.
-/
import Derived.Test.YtgmemdhbnnhifaaZG
import Derived.Laws.IdiomCopy
namespace Go.Proofs.Ytgmemdhbnnhifaa
open Go.RowKit Go.Sort

section
variable {w : World} {B : Nat} {e : TypeId} {size g n cap : Nat} {xs : List Value}

theorem own_take (h : w.ownsRow B e size (.slice (some ⟨g, 0, none⟩) n cap) n xs) (i : Nat) (hi : i ≤ n) : w.ownsRow B e size (.slice (some ⟨g, 0, none⟩) i cap) i (xs.take (i * size)) := by
  rcases id h.2 with ⟨h', _⟩ | ⟨g', cap', cur, h', hb, hg, hnc, hcm, hcs, ht⟩
  · cases h'
  · cases h'
    have hle : i * size ≤ n * size := Nat.mul_le_mul_right _ hi
    refine ⟨by rw [List.length_take, h.1]; omega, .inr ⟨g, cap, cur, rfl, hb, hg, by omega, hcm, hcs, ?_⟩⟩
    rw [← ht, List.take_take, Nat.min_eq_left hle]

/-- Cells written behind the first o ones. -/
theorem own_sets : ∀ (vs : List Value) (o : Nat) {w : World} {xs : List Value}, w.ownsRow B e size (.slice (some ⟨g, 0, none⟩) n cap) n xs → ∃ ys, (w.setCells g o vs).ownsRow B e size (.slice (some ⟨g, 0, none⟩) n cap) n ys ∧ (∀ m, m ≤ o → ys.take m = xs.take m) ∧ w.grownBy (w.setCells g o vs) (some g)
  | [], o, w, xs, h => ⟨xs, h, fun _ _ => rfl, ⟨rfl, rfl, rfl, Nat.le_refl _, fun _ _ _ => rfl⟩⟩
  | v :: vs, o, w, xs, h => by
    obtain ⟨h1, g1⟩ := h.stored o v
    obtain ⟨ys, h2, ht, g2⟩ := own_sets vs (o + 1) h1
    refine ⟨ys, h2, fun m hm => ?_, ⟨g2.os.trans g1.os, g2.tape.trans g1.tape, g2.output.trans g1.output, Nat.le_trans g1.size g2.size, fun k hk hne => (g2.block k (Nat.lt_of_lt_of_le hk g1.size) hne).trans (g1.block k hk hne)⟩⟩
    rw [ht m (by omega), List.take_set, List.set_eq_of_length_le (by rw [List.length_take]; omega)]
end

theorem zero_one (z : Array Value) (hz : ∀ v ∈ z, v.oneCell' = true) (hs : 0 < z.size) (n : Nat) : ∀ v ∈ (Builtin.zeroCells z n).toList, v.oneCell' = true := by
  intro v hv
  simp only [Builtin.zeroCells, Array.toList_map, List.mem_map] at hv
  obtain ⟨i, _, rfl⟩ := hv
  have hlt : i % z.size < z.size := Nat.mod_lt _ hs
  rw [getElem!_pos z _ hlt]
  exact hz _ (Array.getElem_mem hlt)
end Go.Proofs.Ytgmemdhbnnhifaa
