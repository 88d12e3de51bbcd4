/-
  Boxes of structs. (printed by tools/gen_bb.py)
-/
import Derived.Test.YtnolbabpkhdpmaaGreatVC
import Derived.Test.YtnolbabpkhdpmaaGreatBT
import Derived.Test.YtnolbabpkhdpmaaGreatFL
import Derived.Deep.DeepCutAuto
namespace Go.Proofs.YtnolbabpkhdpmaaGreat
open Go.RowKit Go.Sort Go.BigFrame

/-- A box of a struct: a block known whole. -/
abbrev Bx (w : World) (q : Nat) (cs : Array Value) (T : TypeId) : Prop := w.heap[q]? = some (.cells cs T (0, 0))
theorem bx_later {w w' : World} {q : Nat} {cs : Array Value} {T : TypeId} (hb : Below w.heap.size w w') (h : Bx w q cs T) : Bx w' q cs T := by
  unfold Bx at *; rw [hb.block q (Array.getElem?_eq_some_iff.1 h).1]; exact h
theorem bx_grown {w w' : World} {r : Option Nat} {q : Nat} {cs : Array Value} {T : TypeId} (hg : w.grownBy w' r) (h : Bx w q cs T) (hr : r ≠ some q) : Bx w' q cs T := by
  unfold Bx at *; rw [hg.block q (Array.getElem?_eq_some_iff.1 h).1 (fun e => hr e.symm)]; exact h
theorem bx_new {w : World} {q : Nat} {cs : Array Value} {T : TypeId} (hq : q = w.heap.size) : Bx (w.alloc (.cells cs T)) q cs T := by subst hq; exact heap_alloc_new w _
theorem cell_of_box {w : World} {q : Nat} {cs : Array Value} {T : TypeId} (h : Bx w q cs T) (j : Nat) {v : Value} (hj : cs[j]? = some v) : w.cell? ⟨q, j, none⟩ = some v := by simp [World.cell?, h, hj]
theorem frozen_of_box {w : World} {q : Nat} {cs : Array Value} {T : TypeId} (h : Bx w q cs T) (j : Nat) : w.frozen? ⟨q, j, none⟩ = false := by simp [World.frozen?, h]
theorem own_far {w : World} {B n c m : Nat} {e : TypeId} {size : Nat} {ao : Option Addr} {xs : List Value} (h : w.ownsRow B e size (.slice ao n c) m xs) : ∀ a, ao = some a → B ≤ a.block ∧ a.block < w.heap.size := by
  intro a ha
  subst ha
  rcases h.2 with ⟨h', _⟩ | ⟨g, cap, cur, h', hb, hg, _⟩
  · cases h'
  · cases h'; exact ⟨hb, (Array.getElem?_eq_some_iff.1 hg).1⟩
theorem wpList_pushH {P : Program} {w : World} {ops : Array Oper} {rest : List Oper} {o : Oper} {a : Act} {Q : Exit → Act → World → Prop}
    {t e : TypeId} {size bytes : Nat} {z : Value} (T : El P t e size bytes z)
    (hg : o.guard = none) (s x : Operand) (hop : o.op = Op.call { callee := Callee.builtin Builtin.append, args := #[s, x], argTypes := #[t, t] })
    {B H : Nat} (hH : w.heap.size = H) {v : Value} {n : Nat} {cs : Array Value} {xs : List Value} (hsv : a.eval s = v) (hxy : a.eval x = .slice (some ⟨H, 0, none⟩) 1 1) (hown : w.ownsRow B e size v n xs) (hcs : cs.size = size) (h1 : cs.toList.all (fun u => u.oneCell') = true)
    (h63 : n + 1 ≤ maxLen) (hbytes : (n + 1) * bytes ≤ 140737488355328) (hB : B ≤ w.heap.size)
    (hK : ∀ v' w', w'.ownsRow B e size v' (n + 1) (xs ++ cs.toList) → w.grownBy w' v.ownBlock → (∀ k, v'.ownBlock = some k → v.ownBlock = some k ∨ w.heap.size ≤ k) → wpList P ops Q rest (a.put o.dst v') w') :
    wpList P ops Q (o :: rest) a (w.alloc (.cells cs e)) := by
  subst hH
  exact wpList_push T hg s x hop hsv hxy hown hcs h1 h63 hbytes hB hK
theorem own_setq {w : World} {B q n : Nat} {e : TypeId} {size : Nat} {v : Value} {xs : List Value} (h : w.ownsRow B e size v n xs) (hq : q < B) (j : Nat) (u : Value) : (w.setCell ⟨q, j, none⟩ u).ownsRow B e size v n xs :=
  own_but h ((But.refl (fun k => k = q) w).set rfl _) fun k hk hs => by have := (h.lt k hk).1; omega
theorem bx_set {w : World} {q : Nat} {T : TypeId} {cs : Array Value} (h : Bx w q cs T) (j : Nat) (v : Value) : Bx (w.setCell ⟨q, j, none⟩ v) q (cs.setIfInBounds j v) T := by
  obtain ⟨hlt, hk⟩ := Array.getElem?_eq_some_iff.1 h
  show (w.heap.modify q _)[q]? = _
  rw [Array.getElem?_eq_getElem (by rw [Array.size_modify]; exact hlt), Array.getElem_modify_self, hk]
  rfl
theorem own_bx {w : World} {B n q : Nat} {e T : TypeId} {size : Nat} {v : Value} {xs : List Value} {cs : Array Value} (h : w.ownsRow B e size v n xs) (hq : Bx w q cs T) (hT : (e == T) = false) (j : Nat) (u : Value) : (w.setCell ⟨q, j, none⟩ u).ownsRow B e size v n xs := by
  refine own_but h ((But.refl (fun k => k = q) w).set rfl _) fun k hk hs => ?_
  obtain ⟨_, h2⟩ := h
  rcases h2 with ⟨rfl, _⟩ | ⟨g, cap, cur, rfl, _, hg, _⟩
  · cases hk
  · have hgk : g = k := by simpa [Value.ownBlock] using hk
    rw [hgk, hs] at hg
    unfold Bx at hq
    rw [hq] at hg
    injection hg with hg
    injection hg with _ h3 _
    rw [h3] at hT
    simp at hT
theorem bx_set_other {w : World} {p q : Nat} {T : TypeId} {cs : Array Value} (h : Bx w p cs T) (hne : p ≠ q) (j : Nat) (v : Value) : Bx (w.setCell ⟨q, j, none⟩ v) p cs T := by
  unfold Bx at *
  show (w.heap.modify q _)[p]? = _
  rw [Array.getElem?_modify, if_neg (fun e => hne e.symm)]
  exact h
theorem rd_nilI (w : World) : Rd w (.slice none 0 0) ([] : List Int).length (([] : List Int).map ic) := ⟨none, 0, rfl, Nat.le_refl _, Nat.zero_le _, fun _ => rfl, fun _ ha => nomatch ha⟩
theorem run_store_box {P : Program} {w : World} {g n : Nat} {T : TypeId} {cs cs' : Array Value} (hi : (P.info? T).map (·.size) = some n) (hb : Bx w g cs T) (hn : cs.size = n) (hn' : cs'.size = n) (h1 : cs'.toList.all (fun u => u.oneCell') = true) :
    (Instr.storeAt T (.pointer (some ⟨g, 0, none⟩)) (.agg cs')).run P w = .ok () (w.setRow g cs') := by
  cases hx : P.info? T with
  | none => rw [hx] at hi; cases hi
  | some i =>
    rw [hx] at hi
    simp only [Option.map_some, Option.some.injEq] at hi
    have hst := run_storeCells_at (P := P) g 0 T cs'.toList 0 cs w hb (by simp; omega) (fun u hu => List.all_eq_true.1 h1 u hu)
    have he : (cs.toList.take (0 + 0) ++ cs'.toList ++ cs.toList.drop (0 + 0 + cs'.toList.length)).toArray = cs' := by
      apply Array.ext'
      simp [List.drop_eq_nil_iff]
      omega
    rw [he] at hst
    simp [Instr.storeAt, Instr.sureAddr, storeVar, sizeOf, typeInfo, hx, Value.cells, hi, hn', Result.andThen, hst]
/-- A struct stored into a box, in a walk. -/
theorem wpList_store_box {P : Program} {w : World} {ops : Array Oper} {rest : List Oper} {o : Oper} {a : Act} {Q : Exit → Act → World → Prop} {g n : Nat} {T : TypeId} {cs cs' : Array Value}
    (hg : o.guard = none) (p x : Operand) (hop : o.op = Op.store T p x) (hp : a.eval p = .pointer (some ⟨g, 0, none⟩)) (hx : a.eval x = .agg cs') (hi : (P.info? T).map (·.size) = some n) (hb : Bx w g cs T) (hn : cs.size = n) (hn' : cs'.size = n) (h1 : cs'.toList.all (fun u => u.oneCell') = true)
    (hd : o.dst = none) (hK : wpList P ops Q rest a (w.setRow g cs')) : wpList P ops Q (o :: rest) a w := by
  have hst := run_store_box (P := P) hi hb hn hn' h1
  have hw : Region.wanted o (yielded ops a.tmps) = true := by simp [Region.wanted, hg]
  unfold wpList
  rw [if_pos hw]
  refine .inl ?_
  unfold Oper.wp
  simp only [execOp, hop, hp, hx, Sem.run_bind, hst, Result.andThen]
  show wpList P ops Q rest (a.put o.dst undef) _
  rw [hd]
  exact hK
theorem bx_row {w : World} {g : Nat} {T : TypeId} {cs : Array Value} (hb : Bx w g cs T) (cs' : Array Value) : Bx (w.setRow g cs') g cs' T := setRow_heap w g cs cs' T (0, 0) hb
theorem bx_row_other {w : World} {p g : Nat} {T : TypeId} {cs : Array Value} (h : Bx w p cs T) (hne : p ≠ g) (cs' : Array Value) : Bx (w.setRow g cs') p cs T := by
  unfold Bx at *
  rw [setRow_other w g p cs' hne]
  exact h
theorem bx_ne {w : World} {p g : Nat} {T : TypeId} {cs cs' : Array Value} (h : Bx w p cs T) (hg : w.heap.size ≤ g ∨ ∃ T', Bx w g cs' T' ∧ (T == T') = false) : p ≠ g := by
  rintro rfl
  rcases hg with hg | ⟨T', hg, hT⟩
  · have := (Array.getElem?_eq_some_iff.1 h).1; omega
  · unfold Bx at h hg
    rw [h] at hg
    injection hg with hg
    injection hg with _ h3 _
    rw [h3] at hT
    simp at hT
theorem but_row (w : World) (g : Nat) (cs : Array Value) : But (fun k => k = g) w (w.setRow g cs) := ⟨rfl, rfl, rfl, by simp [World.setRow], fun k hk hs => setRow_other w g k cs hs⟩
theorem below_row {B : Nat} {w0 w : World} (h : Below B w0 w) {g : Nat} (hg : B ≤ g) (cs : Array Value) : Below B w0 (w.setRow g cs) :=
  h.trans ⟨rfl, rfl, rfl, by simp [World.setRow], fun k hk => setRow_other w g k cs (by omega)⟩
theorem own_row {w : World} {B n g : Nat} {e T : TypeId} {size : Nat} {v : Value} {xs : List Value} {cs : Array Value} (h : w.ownsRow B e size v n xs) (hq : Bx w g cs T) (hT : (e == T) = false) (cs' : Array Value) : (w.setRow g cs').ownsRow B e size v n xs := by
  refine own_but h (but_row w g cs') fun k hk hs => ?_
  obtain ⟨_, h2⟩ := h
  rcases h2 with ⟨rfl, _⟩ | ⟨b, cap, cur, rfl, _, hg, _⟩
  · cases hk
  · have hgk : b = k := by simpa [Value.ownBlock] using hk
    rw [hgk, hs] at hg
    unfold Bx at hq
    rw [hq] at hg
    injection hg with hg
    injection hg with _ h3 _
    rw [h3] at hT
    simp at hT
theorem own_rowN {w : World} {B n g : Nat} {e : TypeId} {size : Nat} {v : Value} {xs : List Value} (h : w.ownsRow B e size v n xs) (hne : ∀ b, v.ownBlock = some b → b ≠ g) (cs' : Array Value) : (w.setRow g cs').ownsRow B e size v n xs :=
  own_but h (but_row w g cs') fun k hk hs => hne k hk hs
/-- What lay below a number stays readable. -/
theorem rd_row {w : World} {n g : Nat} {v : Value} {xs : List Value} {w0 : World} (h : Rd w0 v n xs) (hb : Below w0.heap.size w0 w) (hg : w0.heap.size ≤ g) (cs : Array Value) : Rd (w.setRow g cs) v n xs := h.later (below_row hb hg cs)
theorem but_cell {w w' : World} {S : Nat → Prop} (h : But S w w') {a : Addr} {v : Value} (hc : w.cell? a = some v) (hs : ¬ S a.block) : w'.cell? a = some v := h.cell hc hs
/-- Two boxes made by one statement. -/
theorem two_new (w : World) (a b : Array Value) (T U : TypeId) : Hid (Bx ((w.alloc (.cells a T)).alloc (.cells b U)).drew w.heap.size a T) ∧ Hid (Bx ((w.alloc (.cells a T)).alloc (.cells b U)).drew (w.heap.size + 1) b U) ∧ Hid (Ext w ((w.alloc (.cells a T)).alloc (.cells b U)).drew) := by
  refine ⟨?_, ?_, ?_⟩
  · show Bx ((w.alloc (.cells a T)).alloc (.cells b U)) w.heap.size a T
    exact bx_later (below_alloc _ _) (bx_new rfl)
  · show Bx ((w.alloc (.cells a T)).alloc (.cells b U)) (w.heap.size + 1) b U
    exact bx_new (by simp)
  · exact (below_alloc_then (below_alloc _ _)).drew
end Go.Proofs.YtnolbabpkhdpmaaGreat
