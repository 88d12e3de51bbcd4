/-
  A statement whose order is open, by what holds whatever has been done of it: one proof for each operation, not for each order.
-/
import Derived.Test.YtnolbabpkhdpmaaGreatBase
import Derived.RegionTactic
namespace Go.Proofs.YtnolbabpkhdpmaaGreat
open Go.RowKit

theorem countP_lt {p q : Nat → Bool} : ∀ {l : List Nat} {i : Nat}, (∀ x, q x = true → p x = true) → i ∈ l → p i = true → q i = false → l.countP q < l.countP p
  | [], _, _, h, _, _ => by cases h
  | x :: l, i, hpq, hi, hp, hq => by
    have hle : l.countP q ≤ l.countP p := List.countP_mono_left fun x _ => hpq x
    rcases List.mem_cons.1 hi with rfl | hi
    · rw [List.countP_cons_of_neg (by simp [hq]), List.countP_cons_of_pos hp]; omega
    · have := countP_lt hpq hi hp hq
      by_cases hx : q x = true
      · rw [List.countP_cons_of_pos hx, List.countP_cons_of_pos (hpq x hx)]; omega
      · rw [List.countP_cons_of_neg hx]
        by_cases hx' : p x = true
        · rw [List.countP_cons_of_pos hx']; omega
        · rw [List.countP_cons_of_neg hx']; omega

/-- What is not done yet. -/
def undone (n : Nat) (L : Array Bool) : Nat := (List.range n).countP fun i => !L.getD i true

section
variable {P : Program} {Q : Exit → Act → World → Prop} {l : List Oper}

/-- Each operation leans on earlier ones alone. -/
def backB (l : List Oper) : Bool := (List.range l.length).all fun i => ((l[i]?).map fun o => o.after.all fun e => decide (e.on < i)).getD true

theorem getD_set (L : Array Bool) (i j : Nat) (b : Bool) (hi : i < L.size) : (L.setIfInBounds i true).getD j b = if i = j then true else L.getD j b := by
  by_cases hj : j < L.size
  · simp [Array.getD, hj, Array.getElem_setIfInBounds]
  · have : i ≠ j := by omega
    simp [Array.getD, hj, this]

theorem ready_least (hB : backB l = true) (L : Array Bool) (_ : L.size = l.length) : ∀ i, i < l.length → L.getD i true = false → (∀ j, j < i → L.getD j false = true) → i ∈ Region.ready .any l.toArray L := by
  intro i hi hu hlow
  unfold Region.ready
  rw [List.mem_filter]
  refine ⟨by simpa using hi, ?_⟩
  have hb := (List.all_eq_true.1 hB) i (by simpa using hi)
  have hg : l.toArray[i]? = some l[i] := by simp [hi]
  rw [hg]
  rw [List.getElem?_eq_getElem hi] at hb
  simp only [Option.map_some, Option.getD_some] at hb ⊢
  rw [hu]
  simp only [Bool.not_false, Bool.true_and]
  rw [Array.all_eq_true'] at hb ⊢
  intro e he
  have := hb e he
  simp only [decide_eq_true_eq] at this
  simp [hlow _ this]

theorem all_listed (hB : backB l = true) (L : Array Bool) (hL : L.size = l.length) (hr : Region.ready .any l.toArray L = []) : ∀ i, i < l.length → L.getD i false = true := by
  intro i
  induction i using Nat.strongRecOn with
  | _ i ih =>
    intro hi
    cases h : L.getD i false with
    | true => rfl
    | false =>
      have hu : L.getD i true = false := by
        have hs : i < L.size := by omega
        simpa [Array.getD, hs] using h
      have := ready_least hB L hL i hi hu fun j hj => ih j hj (by omega)
      rw [hr] at this
      cases this

theorem wpAny_inv (hB : backB l = true) (I : (Nat → Bool) → Act → World → Prop)
    (hstep : ∀ (d : Nat → Bool) (a : Act) (w : World) (i : Nat) (o : Oper), l[i]? = some o → (∀ e ∈ o.after.toList, Region.binds .any e = true → d e.on = true) → d i = false → I d a w → ∀ K : Act → World → Prop, (∀ a' w', I (fun j => j == i || d j) a' w' → K a' w') →
      if Region.wanted o (yielded l.toArray a.tmps) = true then o.wp P a w K Q else K (a.put o.dst undef) w)
    (hend : ∀ (d : Nat → Bool) (a : Act) (w : World), I d a w → (∀ i, i < l.length → d i = true) → Q .normal a w) :
    ∀ (fuel : Nat) (L : Array Bool) (a : Act) (w : World), L.size = l.length → undone l.length L ≤ fuel → I (fun j => L.getD j false) a w → wpAny P .any l.toArray Q fuel L a w
  | 0, L, a, w, hL, hf, hI => by
    have hall : ∀ i, i < l.length → L.getD i false = true := by
      intro i hi
      cases h : L.getD i false with
      | true => rfl
      | false =>
        have hs : i < L.size := by omega
        have hp : (fun i => !L.getD i true) i = true := by
          have : L.getD i true = false := by simpa [Array.getD, hs] using h
          simp [this]
        have : 0 < undone l.length L := List.countP_pos_iff.2 ⟨i, by simpa using hi, hp⟩
        omega
    refine ⟨?_, hend _ a w hI hall⟩
    unfold Region.ready
    rw [List.filter_eq_nil_iff]
    intro i hi
    have hi' : i < l.length := by simpa using hi
    have hs : i < L.size := by omega
    have := hall i hi'
    have : L.getD i true = true := by simpa [Array.getD, hs] using this
    simp [this]
  | fuel + 1, L, a, w, hL, hf, hI => by
    refine ⟨fun hr => hend _ a w hI (all_listed hB L hL hr), fun i hi => ?_⟩
    unfold Region.ready at hi
    rw [List.mem_filter] at hi
    obtain ⟨h1, h2⟩ := hi
    have hi' : i < l.length := by simpa using h1
    have hs : i < L.size := by omega
    have hg : l.toArray[i]? = some l[i] := by simp [hi']
    rw [hg] at h2
    simp only [Option.map_some, Option.getD_some, Bool.and_eq_true, Bool.not_eq_true'] at h2
    obtain ⟨h2, h3⟩ := h2
    have hd : L.getD i false = false := by simpa [Array.getD, hs] using h2
    rw [Array.all_eq_true'] at h3
    unfold wpOp
    rw [hg]
    have key := hstep (fun j => L.getD j false) a w i l[i] (List.getElem?_eq_getElem hi') (fun e he hb => by
      have := h3 e (by simpa using he)
      simpa [hb] using this) hd hI (wpAny P .any l.toArray Q fuel (L.setIfInBounds i true)) (fun a' w' hI' => by
        refine wpAny_inv hB I hstep hend fuel _ a' w' (by simpa using hL) ?_ ?_
        · have : undone l.length (L.setIfInBounds i true) < undone l.length L := by
            unfold undone
            refine countP_lt (i := i) (fun x hx => ?_) h1 (by simp [h2]) (by simp [getD_set L i i true hs])
            by_cases e : i = x
            · subst e; simp [getD_set L i i true hs] at hx
            · simpa [getD_set L i x true hs, e] using hx
          omega
        · have : (fun j => (L.setIfInBounds i true).getD j false) = (fun j => j == i || L.getD j false) := by
            funext j
            rw [getD_set L i j false hs]
            by_cases e : i = j
            · subst e; simp
            · have : (j == i) = false := by simp; omega
              simp [e, this]
          rw [this]
          exact hI')
    simp only
    split
    · rename_i hw
      rw [if_pos hw] at key
      exact .inl key
    · rename_i hw
      rw [if_neg hw] at key
      exact key

/-- A region that draws its order: what holds whatever has been done. -/
theorem wp_region_inv {id : Nat} {a : Act} {w : World} (hm : P.follows .mixedOrders = true) (hB : backB l = true) (I : (Nat → Bool) → Act → World → Prop) (h0 : I (fun _ => false) a w.drew)
    (hstep : ∀ (d : Nat → Bool) (a : Act) (w : World) (i : Nat) (o : Oper), l[i]? = some o → (∀ e ∈ o.after.toList, Region.binds .any e = true → d e.on = true) → d i = false → I d a w → ∀ K : Act → World → Prop, (∀ a' w', I (fun j => j == i || d j) a' w' → K a' w') →
      if Region.wanted o (yielded l.toArray a.tmps) = true then o.wp P a w K Q else K (a.put o.dst undef) w)
    (hend : ∀ (d : Nat → Bool) (a : Act) (w : World), I d a w → (∀ i, i < l.length → d i = true) → Q .normal a w) :
    (Code.region id l.toArray true).wp P Q a w := by
  refine wp_region_any hm ?_
  refine wpAny_inv hB I hstep hend _ _ a _ (by simp) ?_ ?_
  · unfold undone
    refine Nat.le_trans List.countP_le_length ?_
    simp
  · have : (fun j => (Array.replicate l.toArray.size false).getD j false) = (fun _ => false) := by
      funext j
      by_cases h : j < l.length <;> simp [Array.getD, h]
    rw [this]
    exact h0

/-- What is done leans on what is done. -/
def Closed (l : List Oper) (d : Nat → Bool) : Prop := ∀ (i : Nat) (o : Oper), l[i]? = some o → d i = true → ∀ e ∈ o.after.toList, Region.binds .any e = true → d e.on = true

/-- .. of which no operation hangs on another one's answer. -/
theorem wp_region_inv0 {id : Nat} {a : Act} {w : World} (hm : P.follows .mixedOrders = true) (hB : backB l = true) (hG : (l.all fun o => o.guard.isNone) = true) (I : (Nat → Bool) → Act → World → Prop) (h0 : I (fun _ => false) a w.drew)
    (hstep : ∀ (i : Nat), i < l.length → ∀ (o : Oper), l[i]? = some o → ∀ (d : Nat → Bool), (∀ e ∈ o.after.toList, Region.binds .any e = true → d e.on = true) → d i = false → Closed l d → ∀ (a : Act) (w : World), I d a w → ∀ K : Act → World → Prop, (∀ a' w', I (fun j => j == i || d j) a' w' → K a' w') → o.wp P a w K Q)
    (hend : ∀ (d : Nat → Bool) (a : Act) (w : World), I d a w → (∀ i, i < l.length → d i = true) → Q .normal a w) :
    (Code.region id l.toArray true).wp P Q a w := by
  refine wp_region_inv hm hB (fun d a w => I d a w ∧ Closed l d) ⟨h0, fun i o _ h => nomatch h⟩ (fun d a w i o ho hdep hd hI K hK => ?_) (fun d a w h => hend d a w h.1)
  have hg := (List.all_eq_true.1 hG) o (List.mem_of_getElem? ho)
  have hw : Region.wanted o (yielded l.toArray a.tmps) = true := by
    unfold Region.wanted
    cases hgo : o.guard with
    | none => rfl
    | some p => rw [hgo] at hg; cases hg
  rw [if_pos hw]
  have hi : i < l.length := by
    rcases Nat.lt_or_ge i l.length with h | h
    · exact h
    · rw [List.getElem?_eq_none h] at ho; cases ho
  refine hstep i hi o ho d hdep hd hI.2 a w hI.1 K fun a' w' hI' => hK a' w' ⟨hI', fun i' o' ho' hd' e he hb => ?_⟩
  simp only [Bool.or_eq_true, beq_iff_eq] at hd' ⊢
  by_cases e1 : i' = i
  · subst e1
    rw [ho] at ho'
    cases ho'
    exact .inr (hdep e he hb)
  · exact .inr (hI.2 i' o' ho' (hd'.resolve_left e1) e he hb)
end

/-- .. said of the frame at its head. -/
theorem wp_region_inv0a {P : Program} {Q : Exit → Act → World → Prop} {l : List Oper} {id : Nat} {a : Act} {w : World} (hm : P.follows .mixedOrders = true) (hB : backB l = true) (hG : (l.all fun o => o.guard.isNone) = true) (J : Act → (Nat → Bool) → Act → World → Prop) (h0 : J a (fun _ => false) a w.drew)
    (hstep : ∀ (i : Nat), i < l.length → ∀ (o : Oper), l[i]? = some o → ∀ (d : Nat → Bool), (∀ e ∈ o.after.toList, Region.binds .any e = true → d e.on = true) → d i = false → Closed l d → ∀ (act : Act) (w : World), J a d act w → ∀ K : Act → World → Prop, (∀ a' w', J a (fun j => j == i || d j) a' w' → K a' w') → o.wp P act w K Q)
    (hend : ∀ (d : Nat → Bool) (act : Act) (w : World), J a d act w → (∀ i, i < l.length → d i = true) → Q .normal act w) :
    (Code.region id l.toArray true).wp P Q a w := wp_region_inv0 hm hB hG (J a) h0 hstep hend

/-- A step of such a region: append onto what the call owns. -/
theorem step_app {P : Program} {w : World} {ops : Array Oper} {o : Oper} {a : Act} {K : Act → World → Prop} {Q : Exit → Act → World → Prop} {E : Prop}
    {t tx e : TypeId} {size bytes : Nat} {z : Value} (T : El P t e size bytes z) (hx : ∃ d, P.underlying tx = some d ∧ ∀ k, d ≠ .int k)
    (hg : o.guard = none) (s x : Operand) (hop : o.op = Op.call { callee := Callee.builtin Builtin.append, args := #[s, x], argTypes := #[t, tx] })
    {B : Nat} {v y : Value} {n m : Nat} {xs news : List Value} (hsv : a.eval s = v) (hxy : a.eval x = y) (hown : w.ownsRow B e size v n xs) (hs : Src P w size y m news) (h1 : ∀ u ∈ news, u.oneCell' = true)
    (h63 : n + m ≤ maxLen) (hbytes : (n + m) * bytes ≤ 140737488355328) (hB : B ≤ w.heap.size)
    (hK : ∀ v' w', w'.ownsRow B e size v' (n + m) (xs ++ news) → w.grownBy w' v.ownBlock → (v'.ownBlock = v.ownBlock ∨ v'.ownBlock = some w.heap.size) → K (a.put o.dst v') w') :
    if Region.wanted o (yielded ops a.tmps) = true then o.wp P a w K Q else E := by
  have hw : Region.wanted o (yielded ops a.tmps) = true := by simp [Region.wanted, hg]
  rw [if_pos hw]
  obtain ⟨v', w', hrun, r1, r2, r3⟩ := run_app (P := P) w (ty := o.type) T hx hown hs h1 h63 hbytes hB
  unfold Oper.wp
  simp [execOp, hop, resolve, invoke, builtin, hsv, hxy, hrun, Result.andThen]
  exact hK v' w' r1 r2 r3

theorem grown_cell {w w' : World} {row : Option Nat} (hg : w.grownBy w' row) {a : Addr} {v : Value} (hc : w.cell? a = some v) (hne : row ≠ some a.block) : w'.cell? a = some v := by
  rw [World.cell?_of_block (w := w) (hg.block a.block (World.block_lt_of_cell? _ _ hc) (fun e => hne e.symm))]
  exact hc

/-- .. where every operation is done. -/
theorem step_app0 {P : Program} {w : World} {o : Oper} {a : Act} {K : Act → World → Prop} {Q : Exit → Act → World → Prop}
    {t tx e : TypeId} {size bytes : Nat} {z : Value} (T : El P t e size bytes z) (hx : ∃ d, P.underlying tx = some d ∧ ∀ k, d ≠ .int k)
    (s x : Operand) (hop : o.op = Op.call { callee := Callee.builtin Builtin.append, args := #[s, x], argTypes := #[t, tx] })
    {B : Nat} {v y : Value} {n m : Nat} {xs news : List Value} (hsv : a.eval s = v) (hxy : a.eval x = y) (hown : w.ownsRow B e size v n xs) (hs : Src P w size y m news) (h1 : ∀ u ∈ news, u.oneCell' = true)
    (h63 : n + m ≤ maxLen) (hbytes : (n + m) * bytes ≤ 140737488355328) (hB : B ≤ w.heap.size)
    (hK : ∀ v' w', w'.ownsRow B e size v' (n + m) (xs ++ news) → w.grownBy w' v.ownBlock → (v'.ownBlock = v.ownBlock ∨ v'.ownBlock = some w.heap.size) → K (a.put o.dst v') w') :
    o.wp P a w K Q := by
  obtain ⟨v', w', hrun, r1, r2, r3⟩ := run_app (P := P) w (ty := o.type) T hx hown hs h1 h63 hbytes hB
  unfold Oper.wp
  simp [execOp, hop, resolve, invoke, builtin, hsv, hxy, hrun, Result.andThen]
  exact hK v' w' r1 r2 r3
end Go.Proofs.YtnolbabpkhdpmaaGreat
