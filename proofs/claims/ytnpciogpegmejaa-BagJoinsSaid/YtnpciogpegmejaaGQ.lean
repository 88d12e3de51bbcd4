/-
  Layer 9, plain: the numbers of a cell: sorted, each once.
-/
import Derived.Test.YtnpciogpegmejaaGP
import Derived.Lib.SlicesCompact
namespace Go.Proofs.Ytnpciogpegmejaa
open Go.RowKit Go.Sort

theorem compact_asc {zs : List Int} (h : zs.Pairwise (· ≤ ·)) : (Lib.compact zs).Pairwise (· < ·) := by
  unfold Lib.compact Lib.compactUpTo
  rw [List.pairwise_map]
  have hr : (List.range zs.length).Pairwise (· < ·) := List.pairwise_lt_range
  refine ((hr.filter (Lib.keeps zs.toArray)).imp_of_mem fun {i j} hi hj hij => ?_)
  obtain ⟨hi1, _⟩ := List.mem_filter.1 hi
  obtain ⟨hj1, hj2⟩ := List.mem_filter.1 hj
  rw [List.mem_range] at hi1 hj1
  have get : ∀ k (hk : k < zs.length), zs.toArray[k]! = zs[k] := fun k hk => by rw [getElem!_pos zs.toArray k (by simpa using hk)]; simp
  have hk : zs.toArray[j]! ≠ zs.toArray[j - 1]! := by
    unfold Lib.keeps at hj2
    rcases of_decide_eq_true hj2 with h0 | h0
    · omega
    · exact h0
  rw [get j hj1, get (j - 1) (by omega)] at hk
  rw [get i hi1, get j hj1]
  have h1 : zs[j - 1]'(by omega) ≤ zs[j] := List.pairwise_iff_getElem.1 h (j - 1) j (by omega) hj1 (by omega)
  have h2 : zs[i] ≤ zs[j - 1]'(by omega) := by
    rcases Nat.lt_or_ge i (j - 1) with h3 | h3
    · exact List.pairwise_iff_getElem.1 h i (j - 1) hi1 (by omega) h3
    · have : i = j - 1 := by omega
      subst this
      exact Int.le_refl _
  have h3 : zs[j] ≠ zs[j - 1]'(by omega) := hk
  omega
theorem mem_compact {zs : List Int} {z : Int} : z ∈ Lib.compact zs ↔ z ∈ zs := by
  unfold Lib.compact Lib.compactUpTo
  have get : ∀ k (hk : k < zs.length), zs.toArray[k]! = zs[k] := fun k hk => by rw [getElem!_pos zs.toArray k (by simpa using hk)]; simp
  rw [List.mem_map]
  constructor
  · rintro ⟨i, hi, rfl⟩
    have hi1 := List.mem_range.1 (List.mem_filter.1 hi).1
    rw [get i hi1]
    exact List.getElem_mem hi1
  · intro hz
    obtain ⟨i, hi, rfl⟩ := List.mem_iff_getElem.1 hz
    clear hz
    induction i using Nat.strongRecOn with
    | _ i ih =>
      by_cases hk : Lib.keeps zs.toArray i = true
      · exact ⟨i, List.mem_filter.2 ⟨List.mem_range.2 hi, hk⟩, get i hi⟩
      · unfold Lib.keeps at hk
        have hk' : ¬ (i = 0 ∨ zs.toArray[i]! ≠ zs.toArray[i - 1]!) := fun h => hk (decide_eq_true h)
        have h0 : i ≠ 0 := fun h => hk' (.inl h)
        have h1 : zs.toArray[i]! = zs.toArray[i - 1]! := Decidable.byContradiction fun h => hk' (.inr h)
        rw [get i hi, get (i - 1) (by omega)] at h1
        rw [h1]
        exact ih (i - 1) (by omega) (by omega)

/-- The numbers of a cell: sorted, each once. -/
def sortZ (zs : List Int) : List Int := zs.mergeSort fun x y => decide (x ≤ y)
def numsL (l : List Prt) : List Int := Lib.compact (sortZ (l.map fun p => p.v.n))
theorem sortZ_asc (zs : List Int) : (sortZ zs).Pairwise (· ≤ ·) := by
  have := List.pairwise_mergeSort (le := fun x y : Int => decide (x ≤ y)) (by intro a b c h1 h2; simp at *; omega) (by intro a b; simp; omega) zs
  exact this.imp fun h => by simpa using h
theorem sortZ_perm (zs : List Int) : (sortZ zs).Perm zs := List.mergeSort_perm _ _
theorem numsL_asc (l : List Prt) : (numsL l).Pairwise (· < ·) := compact_asc (sortZ_asc _)
theorem mem_numsL {l : List Prt} {z : Int} : z ∈ numsL l ↔ hasN l z = true := by
  unfold numsL
  rw [mem_compact, (sortZ_perm _).mem_iff, List.mem_map, hasN_iff]
theorem compact_len (zs : List Int) : (Lib.compact zs).length ≤ zs.length := by
  unfold Lib.compact Lib.compactUpTo
  rw [List.length_map]
  exact Nat.le_trans (List.length_filter_le _ _) (by simp)
theorem numsL_len (l : List Prt) : (numsL l).length ≤ l.length := by
  unfold numsL
  refine Nat.le_trans (compact_len _) ?_
  rw [(sortZ_perm _).length_eq, List.length_map]
  exact Nat.le_refl _
theorem asc_nodup {l : List Int} (h : l.Pairwise (· < ·)) : l.Nodup := h.imp fun hab => by omega
theorem asc_unique : ∀ {l m : List Int}, l.Pairwise (· < ·) → m.Pairwise (· < ·) → (∀ x, x ∈ l ↔ x ∈ m) → l = m
  | [], [], _, _, _ => rfl
  | [], y :: m, _, _, h => by have := (h y).2 (by simp); cases this
  | x :: l, [], _, _, h => by have := (h x).1 (by simp); cases this
  | x :: l, y :: m, hl, hm, h => by
    obtain ⟨l1, l2⟩ := List.pairwise_cons.1 hl
    obtain ⟨m1, m2⟩ := List.pairwise_cons.1 hm
    have hxy : x = y := by
      rcases List.mem_cons.1 ((h x).1 (by simp)) with e | hx
      · exact e
      · rcases List.mem_cons.1 ((h y).2 (by simp)) with e | hy
        · exact e.symm
        · have h1 := m1 x hx
          have h2 := l1 y hy
          omega
    subst hxy
    congr 1
    refine asc_unique l2 m2 fun z => ?_
    have hz := h z
    simp only [List.mem_cons] at hz
    constructor
    · intro hzl
      rcases hz.1 (.inr hzl) with rfl | h'
      · have := l1 z hzl; omega
      · exact h'
    · intro hzm
      rcases hz.2 (.inr hzm) with rfl | h'
      · have := m1 z hzm; omega
      · exact h'
/-- Cells of the same numbers show the same. -/
theorem numsL_same {l m : List Prt} (h : ∀ z, hasN l z = true ↔ hasN m z = true) : numsL l = numsL m :=
  asc_unique (numsL_asc l) (numsL_asc m) fun x => by rw [mem_numsL, mem_numsL]; exact h x
/-- One number more. -/
theorem numsL_more {l m : List Prt} {n : Int} (hn : hasN l n = false) (h : ∀ z, hasN m z = true ↔ z = n ∨ hasN l z = true) : (numsL m).length = (numsL l).length + 1 := by
  have hp : (numsL m).Perm (n :: numsL l) := by
    rw [List.perm_ext_iff_of_nodup (asc_nodup (numsL_asc m)) (List.nodup_cons.2 ⟨(fun hm => by rw [mem_numsL, hn] at hm; cases hm), asc_nodup (numsL_asc l)⟩)]
    intro z
    rw [mem_numsL, List.mem_cons, mem_numsL]
    exact h z
  rw [hp.length_eq, List.length_cons]
end Go.Proofs.Ytnpciogpegmejaa
