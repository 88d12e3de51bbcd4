/-
  Arguments opened from their cells, of whatever type: numbers, texts, structs, arrays, slices of such.
-/
import Derived.Test.YtnolbabpkhdpmaaGreatLG
namespace Go.Proofs.YtnolbabpkhdpmaaGreat
open Go.ChangeShapes Go.WideShapes Go.RowKit

section
variable {H : Type} {enc : TypeId × Value → H} {P : Program} {W : World} {t e : TypeId} {n : Nat} {cs : List Value} {x : DataW H × List MemPlace}

theorem opn_int (ht : P.underlying t = some (.int .i64)) (h : DataW.trod enc P W 0 (fun _ => true) true n t cs = some x) : ∃ k : Int, cs = [.int .i64 k] ∧ -9223372036854775808 ≤ k ∧ k ≤ 9223372036854775807 := by
  obtain ⟨k, h1, _, h2⟩ := DataW.trod_int ht h
  exact ⟨k, h1, wf_i64 h2⟩
theorem opn_bool (ht : P.underlying t = some .bool) (h : DataW.trod enc P W 0 (fun _ => true) true n t cs = some x) : ∃ b : Bool, cs = [.bool b] := by
  cases n with
  | zero => simp [DataW.trod] at h
  | succ n =>
    unfold DataW.trod at h
    rw [ht] at h
    split at h <;> simp_all
theorem opn_string (ht : P.underlying t = some .string) (h : DataW.trod enc P W 0 (fun _ => true) true n t cs = some x) : ∃ s : ByteArray, cs = [.string s] ∧ s.size ≤ maxLen := by
  cases n with
  | zero => simp [DataW.trod] at h
  | succ n =>
    unfold DataW.trod at h
    rw [ht] at h
    split at h <;> simp_all
theorem opn_fields {fs : Array Field} (ht : P.underlying t = some (.struct fs)) (h : DataW.trod enc P W 0 (fun _ => true) true n t cs = some x) :
    ∃ m, ∀ (j : Nat) (T : TypeId) (off k : Nat), (fs[j]?).map (fun f => (f.type, f.offset)) = some (T, off) → P.cellsOf T = k → ∃ y, DataW.trod enc P W 0 (fun _ => true) true m T ((cs.drop off).take k) = some y := by
  obtain ⟨xs, m, _, _, _, hlen, hf⟩ := DataW.trod_struct ht h
  refine ⟨m, fun j T off k hj hk => ?_⟩
  cases hg : fs[j]? with
  | none => rw [hg] at hj; cases hj
  | some f =>
    rw [hg] at hj
    simp only [Option.map_some, Option.some.injEq, Prod.mk.injEq] at hj
    obtain ⟨rfl, rfl⟩ := hj
    subst hk
    have hjl : j < xs.length := by rw [hlen]; exact (Array.getElem?_eq_some_iff.1 hg).1
    exact ⟨xs[j], by rw [hf j f hg, List.getElem?_eq_getElem hjl]⟩
theorem opn_elems {k : Nat} (ht : P.underlying t = some (.array k e)) (h : DataW.trod enc P W 0 (fun _ => true) true n t cs = some x) :
    ∃ m, ∀ (j : Nat), j < k → ∃ y, DataW.trod enc P W 0 (fun _ => true) true m e ((cs.drop (j * P.cellsOf e)).take (P.cellsOf e)) = some y := by
  obtain ⟨xs, m, _, _, _, hlen, hf⟩ := DataW.trod_array ht h
  refine ⟨m, fun j hj => ?_⟩
  exact ⟨xs[j]'(by omega), by rw [hf j hj, List.getElem?_eq_getElem]⟩
/-- A slice, from its cell: its elements' cells, and what is known of each. -/
theorem opn_list {α : Type} [Inhabited α] (f : α → List Value) (φ : α → Prop) (size : Nat) (hf : ∀ a, (f a).length = size) (hs : 0 < size) (ht : P.underlying t = some (.slice e)) (hc : P.cellsOf e = size)
    (hopen : ∀ n cs x, DataW.trod enc P W 0 (fun _ => true) true n e cs = some x → cs.length = size → ∃ a, cs = f a ∧ φ a) (h : DataW.trod enc P W 0 (fun _ => true) true n t cs = some x) :
    ∃ (v : Value) (l : List α), cs = [v] ∧ Rd W v l.length (l.flatMap f) ∧ ∀ a ∈ l, φ a := by
  rcases Deep.open_slice ht h with ⟨hcs, _⟩ | ⟨a, len, cap, m, n, D, Pl, hcs, _, hl, hm, hmm, _, hx⟩
  · exact ⟨_, [], hcs, ⟨none, 0, rfl, Nat.le_refl _, Nat.zero_le _, fun _ => rfl, fun a ha => nomatch ha⟩, fun a ha => nomatch ha⟩
  · have hmc : m = cap := by simpa using hmm
    subst hmc
    obtain ⟨A, hA⟩ := Deep.choose_lt (α := α) (p := fun i x => φ x ∧ ∀ r, r < size → W.cell? ((a.add (i * size)).add r) = (f x)[r]?) (n := m) (fun i hi => by
      obtain ⟨cs', h1, h2⟩ := hx i hi
      rw [hc] at h1
      obtain ⟨_, hlen, hcell⟩ := World.cells?_some h1
      obtain ⟨x, rfl, hp⟩ := hopen _ _ _ h2 hlen
      exact ⟨x, hp, hcell⟩)
    refine ⟨_, (List.range len).map A, hcs, ⟨some a, m, by simp, by simpa using hl, hm, (fun h => nomatch h), fun a' ha => ?_⟩, fun y hy => ?_⟩
    · cases ha
      intro j u hj
      obtain ⟨i, r, hi, hr, rfl, hu⟩ := flat_at f size hf hs _ _ _ hj
      simp only [List.length_map, List.length_range] at hi
      rw [← Deep.add_add, (hA i (by omega)).2 r hr]
      simpa using hu
    · obtain ⟨i, hi, rfl⟩ := List.mem_map.1 hy
      exact (hA i (by have := List.mem_range.1 hi; omega)).1
theorem weightsAll_mem {e : TypeId} {d : DataW H} {k : Nat} : ∀ {l : List (DataW H)}, d ∈ l → k ∈ d.weights P e → k ∈ DataW.weightsAll P e l
  | a :: l, hd, hk => by
    simp only [DataW.weightsAll, List.mem_append]
    rcases List.mem_cons.1 hd with rfl | hd
    · exact .inl hk
    · exact .inr (weightsAll_mem hd hk)
/-- .. and what an element weighs the array does. -/
theorem opn_elems_w {k : Nat} (ht : P.underlying t = some (.array k e)) (h : DataW.trod enc P W 0 (fun _ => true) true n t cs = some x) :
    ∃ m, ∀ (j : Nat), j < k → ∃ y, DataW.trod enc P W 0 (fun _ => true) true m e ((cs.drop (j * P.cellsOf e)).take (P.cellsOf e)) = some y ∧ ∀ q ∈ y.1.weights P e, q ∈ x.1.weights P t := by
  obtain ⟨xs, m, _, hx, _, hlen, hf⟩ := DataW.trod_array ht h
  refine ⟨m, fun j hj => ?_⟩
  have hjl : j < xs.length := by omega
  refine ⟨xs[j], by rw [hf j hj, List.getElem?_eq_getElem], fun q hq => ?_⟩
  rw [hx]
  simp only [DataW.weights, ht]
  exact weightsAll_mem (List.mem_map.2 ⟨xs[j], List.getElem_mem hjl, rfl⟩) hq
/-- How long a slice that came in may be. -/
theorem opn_len (ht : P.underlying t = some (.slice e)) (hb : P.bytesOf e = 8) (h : DataW.trod enc P W 0 (fun _ => true) true n t cs = some x) (hw : ∀ q ∈ x.1.weights P t, q ≤ reachBytes) : ∀ ao l c, cs = [.slice ao l c] → l * 8 ≤ 140737488351232 := by
  intro ao l c hcs
  rcases Deep.open_slice ht h with ⟨hcs', _⟩ | ⟨a, len, cap, m, n, D, Pl, hcs', _, hl, hm, hmm, hx, _⟩
  · rw [hcs] at hcs'
    simp at hcs'
    rw [hcs'.2.1]; decide
  · rw [hcs] at hcs'
    simp at hcs'
    have hlm : l = len := hcs'.2.1
    subst hlm
    rw [hx] at hw
    simp only [DataW.weights, ht, hb] at hw
    have := hw _ (List.mem_cons_self ..)
    simp only [List.length_map, List.length_range, reachBytes] at this
    omega
/-- A struct, or an array, by value. -/
theorem opn_agg {base : Nat} {v : Value} (ht : (∃ fs, P.underlying t = some (.struct fs)) ∨ ∃ k e, P.underlying t = some (.array k e)) (h : Value.okWide P W .any base t v) : ∃ cs : List Value, v = .agg cs.toArray ∧ cs.length = P.cellsOf t ∧ v.cells.toList = cs := by
  rcases ht with ⟨fs, ht⟩ | ⟨k, e, ht⟩
  all_goals
    simp only [Value.okWide, ht] at h
    obtain ⟨cs, rfl, h2, _⟩ := h
    exact ⟨cs.toList, by simp, by simpa using h2, by simp [Value.cells]⟩
end
end Go.Proofs.YtnolbabpkhdpmaaGreat
