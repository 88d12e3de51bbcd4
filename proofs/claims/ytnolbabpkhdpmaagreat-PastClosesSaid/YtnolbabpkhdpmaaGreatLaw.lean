/-
  The frame of a law's proof: what a law's walk must show, and that its row then holds; arguments opened as lists.
-/
import Derived.Test.YtnolbabpkhdpmaaGreatBase
import Derived.ProofKit
import Derived.OpenShut
import Derived.SizedLaws
namespace Go.Proofs.YtnolbabpkhdpmaaGreat
open Go.ChangeShapes Go.WideShapes Go.ChangeAt Go.RowKit
open Go.ChangeMaps (open_string shut_string)

theorem trodAll_below {H : Type} {enc : TypeId × Value → H} {P : Program} (hl : laidOutB P = true) {W W' : World} (hb : Below W.heap.size W W') :
    ∀ (ts : List TypeId), ts.all (fun t => P.readableRec t && decide (t < P.types.size)) = true → ∀ (vs : List Value) (ds : List (DataW H)) (ps : List MemPlace), DataW.TrodAll enc P W 0 (fun _ => true) true ts vs ds ps → (∀ x ∈ ps, x.block < W.heap.size) →
      DataW.TrodAll enc P W' 0 (fun b => decide (b < W.heap.size)) true ts vs ds ps := by
  intro ts
  induction ts with
  | nil =>
    intro _ vs ds ps h _
    match vs, ds, h with
    | [], [], h => exact h
  | cons t ts ih =>
    intro hr vs ds ps h hlt
    simp only [List.all_cons, Bool.and_eq_true, decide_eq_true_eq] at hr
    match vs, ds, h with
    | v :: vs, d :: ds, ⟨p, q, h1, h2, h3⟩ =>
      subst h3
      exact ⟨p, q, Below.trod hl hr.1.1 hr.1.2 h1 hb (fun x hx => hlt x (List.mem_append_left _ hx)), ih hr.2 vs ds q h2 (fun x hx => hlt x (List.mem_append_right _ hx)), rfl⟩

/-- A law's post: it returned true, and of what was there nothing has turned. -/
theorem law_post {H : Type} {enc : TypeId × Value → H} {P : Program} {F : Func} {s : ChangeSpec} {W W' : World} {args : Array Value} {ds gs : List (DataW H)} {before : List MemPlace} {tb : TypeId}
    (hl : laidOutB P = true) (hread : F.params.toList.all (fun t => P.readableRec t && decide (t < P.types.size)) = true) (hres : F.resultTypes = #[tb]) (hbt : P.underlying tb = some .bool)
    (hfn : s.fn H (ds ++ gs) = { results := [.lit (.bool true)], args := ds }) (hvars : s.vars = [])
    (hW : DataW.Whole enc P F.params.toList s.vars false W args.toList ds gs before) (hbelow : Below W.heap.size W W') : s.post enc P F false true false false W args (.bool true) W' := by
  have hW' := hW
  obtain ⟨p, q, hA, hV, rfl, hfz, hnd⟩ := hW
  rw [hvars] at hV
  obtain ⟨rfl, rfl⟩ := trodVars_none hV
  refine ⟨ds, [], p ++ [], [], p, [], hW', ?_, ?_, ?_, hbelow.frame _, fun h => nomatch h⟩
  · rw [hfn, hres]
    exact trodAll_cons_mk (shut_bool hbt _) trodAll_mk0
  · rw [hfn]
    exact trodAll_below hl hbelow _ hread _ _ _ hA (fun x hx => by simpa using hW'.lt x (List.mem_append_left _ hx))
  · rw [hfn, hvars]
    exact rfl

/-- A slice of bytes that came in. -/
theorem open_bytes {H : Type} {enc : TypeId × Value → H} {P : Program} {W : World} {t e : TypeId} {v : Value} {d : DataW H} {p : List MemPlace} {base : Nat} (ht : P.underlying t = some (.slice e)) (he : P.underlying e = some (.int .u8)) (hc : P.cellsOf e = 1)
    (hok : Value.okWide P W .any base t v) (h : DataW.Trod enc P W 0 (fun _ => true) true t v d p) : ∃ l : List UInt8, Rd W v l.length (l.map bc) := by
  obtain ⟨a0, len, cap, rfl⟩ := okWide_slice ht hok
  obtain ⟨fuel, hf⟩ := h
  rcases open_ints ht he hc hf with ⟨hcs, _⟩ | ⟨a, len', cap', zs, hcs, _, hl, hm, hz, _, hcell, hwz⟩
  · have hcs' : Value.slice a0 len cap = .slice none 0 0 := by simpa [Value.cells] using hcs
    cases hcs'
    exact ⟨[], none, 0, rfl, Nat.le_refl _, Nat.zero_le _, fun _ => rfl, fun a ha => nomatch ha⟩
  · have hcs' : Value.slice a0 len cap = .slice (some a) len' cap' := by simpa [Value.cells] using hcs
    cases hcs'
    have hz' : zs.length = cap := by simpa using hz
    refine ⟨(zs.take len).map fun n => UInt8.ofNat n.toNat, some a, cap, ?_, ?_, hm, (fun h => nomatch h), fun a' ha => ?_⟩
    · simp; omega
    · simp; omega
    · cases ha
      intro j u hj
      rw [List.map_map, List.getElem?_map] at hj
      cases hg : (zs.take len)[j]? with
      | none => rw [hg] at hj; cases hj
      | some n =>
        rw [hg] at hj
        simp only [Option.map_some, Option.some.injEq] at hj
        subst hj
        have hjl : j < (zs.take len).length := by
          rcases Nat.lt_or_ge j (zs.take len).length with h' | h'
          · exact h'
          · rw [List.getElem?_eq_none h'] at hg; cases hg
        have hjz : j < zs.length := by simp at hjl; omega
        have hnz : zs[j]? = some n := by
          rw [List.getElem?_take] at hg
          split at hg
          · exact hg
          · cases hg
        have hmem : n ∈ zs := List.mem_of_getElem? hnz
        have hw := hwz n hmem
        have hb : 0 ≤ n ∧ n ≤ 255 := by simpa [Lit.wf, IntKind.min, IntKind.max, IntKind.signed, IntKind.bits] using hw
        rw [hcell j hjz]
        have e1 : zs.getD j 0 = n := by simp [List.getD, hnz]
        rw [e1]
        have e2 : (UInt8.ofNat n.toNat).toNat = n.toNat := by
          rw [UInt8.toNat_ofNat']; exact Nat.mod_eq_of_lt (by omega)
        show some (Value.int .u8 n) = some (Value.int .u8 (((UInt8.ofNat n.toNat).toNat : Nat) : Int))
        rw [e2]
        congr 2
        omega

/-- A slice of ints that came in. -/
theorem open_int_list {H : Type} {enc : TypeId × Value → H} {P : Program} {W : World} {t e : TypeId} {v : Value} {d : DataW H} {p : List MemPlace} {base : Nat} (ht : P.underlying t = some (.slice e)) (he : P.underlying e = some (.int .i64)) (hc : P.cellsOf e = 1)
    (hbe : P.bytesOf e = 8) (hok : Value.okWide P W .any base t v) (h : DataW.Trod enc P W 0 (fun _ => true) true t v d p) (hw : ∀ n ∈ d.weights P t, n ≤ reachBytes) : ∃ l : List Int, Rd W v l.length (l.map (Value.int .i64)) ∧ (∀ x ∈ l, -9223372036854775808 ≤ x ∧ x ≤ 9223372036854775807) ∧ l.length * 8 ≤ 140737488351232 := by
  obtain ⟨a0, len, cap, rfl⟩ := okWide_slice ht hok
  obtain ⟨fuel, hf⟩ := h
  rcases open_ints ht he hc hf with ⟨hcs, _⟩ | ⟨a, len', cap', zs, hcs, _, hl, hm, hz, hx, hcell, hwz⟩
  · have hcs' : Value.slice a0 len cap = .slice none 0 0 := by simpa [Value.cells] using hcs
    cases hcs'
    exact ⟨[], ⟨none, 0, rfl, Nat.le_refl _, Nat.zero_le _, fun _ => rfl, fun a ha => nomatch ha⟩, (fun x hx => nomatch hx), by decide⟩
  · have hcs' : Value.slice a0 len cap = .slice (some a) len' cap' := by simpa [Value.cells] using hcs
    cases hcs'
    have hz' : zs.length = cap := by simpa using hz
    refine ⟨zs.take len, ⟨some a, cap, ?_, ?_, hm, (fun h => nomatch h), fun a' ha => ?_⟩, fun x hx => ?_, ?_⟩
    · simp; omega
    · simp; omega
    · cases ha
      intro j u hj
      rw [List.getElem?_map] at hj
      cases hg : (zs.take len)[j]? with
      | none => rw [hg] at hj; cases hj
      | some n =>
        rw [hg] at hj
        simp only [Option.map_some, Option.some.injEq] at hj
        subst hj
        have hnz : zs[j]? = some n := by
          rw [List.getElem?_take] at hg
          split at hg
          · exact hg
          · cases hg
        have hjz : j < zs.length := by
          rcases Nat.lt_or_ge j zs.length with h' | h'
          · exact h'
          · rw [List.getElem?_eq_none h'] at hnz; cases hnz
        rw [hcell j hjz]
        simp [List.getD, hnz]
    · have hw := hwz x (List.mem_of_mem_take hx)
      simpa [Lit.wf, IntKind.min, IntKind.max, IntKind.signed, IntKind.bits] using hw
    · simp only [Prod.mk.injEq] at hx
      rw [hx.1] at hw
      have h1 := hw ((lits (H := H) .i64 (zs.take len)).length * 8 + (lits (H := H) .i64 (zs.drop len)).length * 8) (by
        simp only [DataW.weights, ht, hbe, ← Nat.add_mul]
        exact List.mem_cons_self ..)
      simp only [lits, List.length_map, reachBytes] at h1
      omega

theorem wf_i64 {x : Int} (h : (Lit.int .i64 x).wf = true) : -9223372036854775808 ≤ x ∧ x ≤ 9223372036854775807 := by
  simpa [Lit.wf, IntKind.min, IntKind.max, IntKind.signed, IntKind.bits] using h

theorem wf_u32 {x : Int} (h : (Lit.int .u32 x).wf = true) : 0 ≤ x ∧ x ≤ 4294967295 := by
  simpa [Lit.wf, IntKind.min, IntKind.max, IntKind.signed, IntKind.bits] using h

theorem cellsU8 : Tryz.prog.cellsOf 5 = 1 := by kernel_rfl
theorem cellsInt : Tryz.prog.cellsOf 3 = 1 := by kernel_rfl

theorem bytesInt : Tryz.prog.bytesOf 3 = 8 := by kernel_rfl

theorem sized_at {H : Type} {P : Program} {ts us : List TypeId} {ds gs : List (DataW H)} (h : (DataW.weightsEach P (ts ++ us) (ds ++ gs)).all (· ≤ reachBytes) = true) {j : Nat} {t : TypeId} {d : DataW H} (ht : (ts ++ us)[j]? = some t) (hd : (ds ++ gs)[j]? = some d) :
    ∀ n ∈ d.weights P t, n ≤ reachBytes := by
  intro n hn
  have := List.all_eq_true.1 h n (DataW.weights_mem_each ht hd n hn)
  simpa using this

theorem ownKnob_none : ownKnob Tryz.prog.godebug = none := by kernel_rfl
theorem laidOut : laidOutB Tryz.prog = true := by kernel_rfl

end Go.Proofs.YtnolbabpkhdpmaaGreat
