/-
  Layer 24 (zset), plain: what is put together, item by item.
-/
import Derived.Test.YtgmemdhbnnhifaaZM
import Derived.Test.YtgmemdhbnnhifaaZE
namespace Go.Proofs.Ytgmemdhbnnhifaa
open Go.RowKit Go.Sort

/-- What has been put together of the items done, those of rest to come. -/
structure AccInv (acc done rest : List It) : Prop where
  rise : acc.Pairwise fun x y => lessR x.row y.row = true
  tot : ∀ r, w64 (tot (acc.map It.p) r) = w64 (tot (done.map It.p) r)
  later : ∀ x ∈ acc, ∀ y ∈ rest, lessR y.row x.row = false
  nby : ∀ x ∈ acc, x.ba = none ∧ x.bn = 0 ∧ x.bc = 0
  fit : ∀ x ∈ acc, w64 x.many = x.many
  asc : rest.Pairwise fun x y => lessR y.row x.row = false
  rfit : ∀ x ∈ rest, w64 x.many = x.many

theorem AccInv.first {x : It} {done rest : List It} (h : AccInv [] done (x :: rest)) : AccInv [newI x] (done ++ [x]) rest := by
  refine ⟨List.pairwise_singleton _ _, fun r => ?_, fun y hy z hz => ?_, fun y hy => ?_, fun y hy => ?_, (List.pairwise_cons.1 h.asc).2, fun y hy => h.rfit y (by simp [hy])⟩
  · have := h.tot r
    rw [List.map_append, tot_app]
    simp only [List.map_nil, List.map_cons, Go.Proofs.Ytgmemdhbnnhifaa.tot] at this ⊢
    rw [← w64_add_left (Go.Proofs.Ytgmemdhbnnhifaa.tot (done.map It.p) r), ← this, w64_add_left]
    exact congrArg w64 (Int.zero_add _).symm
  · rw [List.mem_singleton.1 hy]; exact (List.pairwise_cons.1 h.asc).1 z hz
  · rw [List.mem_singleton.1 hy]; exact ⟨rfl, rfl, rfl⟩
  · rw [List.mem_singleton.1 hy]; exact h.rfit x (by simp)

theorem AccInv.next {l0 : List It} {y x : It} {done rest : List It} (h : AccInv (l0 ++ [y]) done (x :: rest)) (hne : y.row ≠ x.row) : AccInv ((l0 ++ [y]) ++ [newI x]) (done ++ [x]) rest := by
  have hyx : lessR y.row x.row = true := by
    have hx := h.later y (by simp) x (by simp)
    rcases total_cases y.row x.row with ⟨hs, _, _⟩ | ⟨_, hl, _⟩ | ⟨_, _, hl⟩
    · exact absurd (of_decide_eq_true hs) hne
    · exact hl
    · rw [hx] at hl; cases hl
  have hall : ∀ z ∈ l0 ++ [y], lessR z.row x.row = true := by
    intro z hz
    rcases List.mem_append.1 hz with hz | hz
    · exact lessR_trans ((List.pairwise_append.1 h.rise).2.2 z hz y (by simp)) hyx
    · rw [List.mem_singleton.1 hz]; exact hyx
  refine ⟨?_, fun r => ?_, fun z hz u hu => ?_, fun z hz => ?_, fun z hz => ?_, (List.pairwise_cons.1 h.asc).2, fun y hy => h.rfit y (by simp [hy])⟩
  · refine List.pairwise_append.2 ⟨h.rise, List.pairwise_singleton _ _, fun z hz u hu => ?_⟩
    rw [List.mem_singleton.1 hu]; exact hall z hz
  · have := h.tot r
    rw [List.map_append, tot_app, List.map_append (l₁ := done), tot_app]
    rw [← w64_add_left, this, w64_add_left]
    rfl
  · rcases List.mem_append.1 hz with hz | hz
    · exact h.later z hz u (by simp [hu])
    · rw [List.mem_singleton.1 hz]; exact (List.pairwise_cons.1 h.asc).1 u hu
  · rcases List.mem_append.1 hz with hz | hz
    · exact h.nby z hz
    · rw [List.mem_singleton.1 hz]; exact ⟨rfl, rfl, rfl⟩
  · rcases List.mem_append.1 hz with hz | hz
    · exact h.fit z hz
    · rw [List.mem_singleton.1 hz]; exact h.rfit x (by simp)

theorem AccInv.same {l0 : List It} {y x : It} {done rest : List It} (h : AccInv (l0 ++ [y]) done (x :: rest)) (he : y.row = x.row) : AccInv (l0 ++ [{ y with many := w64 (y.many + x.many) }]) (done ++ [x]) rest := by
  have hp := List.pairwise_append.1 h.rise
  refine ⟨?_, fun r => ?_, fun z hz u hu => ?_, fun z hz => ?_, fun z hz => ?_, (List.pairwise_cons.1 h.asc).2, fun y hy => h.rfit y (by simp [hy])⟩
  · refine List.pairwise_append.2 ⟨hp.1, List.pairwise_singleton _ _, fun z hz u hu => ?_⟩
    rw [List.mem_singleton.1 hu]; exact hp.2.2 z hz y (by simp)
  · have := h.tot r
    rw [List.map_append, tot_app, List.map_append (l₁ := done), tot_app]
    rw [List.map_append, tot_app] at this
    simp only [List.map_nil, List.map_cons, Go.Proofs.Ytgmemdhbnnhifaa.tot, Int.add_zero] at this ⊢
    rw [← w64_add_left (Go.Proofs.Ytgmemdhbnnhifaa.tot (done.map It.p) r), ← this, w64_add_left, he]
    by_cases hr : x.row = r
    · simp only [hr, if_true]
      rw [w64_add_right]; congr 1; omega
    · simp only [if_neg hr, Int.add_zero]
  · rcases List.mem_append.1 hz with hz | hz
    · exact h.later z (by simp [hz]) u (by simp [hu])
    · rw [List.mem_singleton.1 hz]; exact h.later y (by simp) u (by simp [hu])
  · rcases List.mem_append.1 hz with hz | hz
    · exact h.nby z (by simp [hz])
    · rw [List.mem_singleton.1 hz]; exact h.nby y (by simp)
  · rcases List.mem_append.1 hz with hz | hz
    · exact h.fit z (by simp [hz])
    · rw [List.mem_singleton.1 hz]; exact w64_idem _

/-- What is there, not nought times, of what is put together. -/
theorem AccInv.nrm {acc l : List It} (h : AccInv acc l []) : Nrm ((acc.filter fun x => !decide (x.many = 0)).map It.p) := by
  refine ⟨?_, fun x hx => ?_, fun x hx => ?_⟩
  · rw [List.pairwise_map]
    exact h.rise.filter _
  · obtain ⟨y, hy, rfl⟩ := List.mem_map.1 hx
    have := (List.mem_filter.1 hy).2
    simpa using this
  · obtain ⟨y, hy, rfl⟩ := List.mem_map.1 hx
    exact h.fit y (List.mem_filter.1 hy).1

theorem tot_filter (l : List It) (r : List Val) : tot ((l.filter fun x => !decide (x.many = 0)).map It.p) r = tot (l.map It.p) r := by
  induction l with
  | nil => rfl
  | cons x l ih =>
    by_cases hx : x.many = 0
    · rw [List.filter_cons_of_neg (by simp [hx])]
      simp only [List.map_cons, tot, ih, hx, ite_self, Int.zero_add]
    · rw [List.filter_cons_of_pos (by simp [hx])]
      simp only [List.map_cons, tot, ih]

theorem AccInv.cnt {acc l : List It} (h : AccInv acc l []) (r : List Val) : cnt ((acc.filter fun x => !decide (x.many = 0)).map It.p) r = cnt (l.map It.p) r := by
  unfold Go.Proofs.Ytgmemdhbnnhifaa.cnt
  rw [tot_filter]; exact h.tot r
end Go.Proofs.Ytgmemdhbnnhifaa
