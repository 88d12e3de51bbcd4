/-
  Frames: as it was, but for some blocks; new blocks behind.
-/
import Derived.Test.YtnolbabpkhdpmaaGreatBase
import Derived.OwnWalk
import Derived.Laws.OwnMore
import Derived.RangeFuncBox
namespace Go.Proofs.YtnolbabpkhdpmaaGreat
open Go.RowKit

/-- As it was, but for the blocks of S. -/
structure But (S : Nat → Prop) (w w' : World) : Prop where
  os : w'.os = w.os
  tape : w'.tape = w.tape
  output : w'.output = w.output
  size : w.heap.size ≤ w'.heap.size
  block : ∀ k, k < w.heap.size → ¬ S k → w'.heap[k]? = w.heap[k]?

theorem But.refl (S : Nat → Prop) (w : World) : But S w w := ⟨rfl, rfl, rfl, Nat.le_refl _, fun _ _ _ => rfl⟩
theorem But.trans {S T : Nat → Prop} {a b c : World} (h : But S a b) (k : But T b c) (hT : ∀ i, i < a.heap.size → T i → S i) : But S a c :=
  ⟨k.os.trans h.os, k.tape.trans h.tape, k.output.trans h.output, Nat.le_trans h.size k.size, fun i hi hs => (k.block i (Nat.lt_of_lt_of_le hi h.size) (fun e => hs (hT i hi e))).trans (h.block i hi hs)⟩
theorem But.mono {S T : Nat → Prop} {a b : World} (h : But S a b) (hT : ∀ i, i < a.heap.size → S i → T i) : But T a b :=
  ⟨h.os, h.tape, h.output, h.size, fun i hi hs => h.block i hi (fun e => hs (hT i hi e))⟩
theorem But.of_below {S : Nat → Prop} {w w' : World} (h : Below w.heap.size w w') : But S w w' := ⟨h.os, h.tape, h.output, h.size, fun k hk _ => h.block k hk⟩
theorem But.of_grown {S : Nat → Prop} {w w' : World} {row : Option Nat} (h : w.grownBy w' row) (hS : ∀ k, row = some k → S k) : But S w w' :=
  ⟨h.os, h.tape, h.output, h.size, fun k hk hs => h.block k hk (fun e => hs (hS k e.symm))⟩
theorem But.drew {S : Nat → Prop} {w w' : World} (h : But S w w') : But S w w'.drew := ⟨h.os, h.tape, h.output, h.size, h.block⟩
theorem But.set {S : Nat → Prop} {w w' : World} (h : But S w w') {a : Addr} (ha : S a.block) (v : Value) : But S w (w'.setCell a v) :=
  ⟨h.os, h.tape, h.output, by simpa [World.setCell] using h.size, fun k hk hs => (Below.heap_setCell _ _ _ k (fun e => hs (e ▸ ha))).trans (h.block k hk hs)⟩
theorem But.set_new {S : Nat → Prop} {w w' : World} (h : But S w w') {a : Addr} (ha : w.heap.size ≤ a.block) (v : Value) : But S w (w'.setCell a v) :=
  ⟨h.os, h.tape, h.output, by simpa [World.setCell] using h.size, fun k hk hs => (Below.heap_setCell _ _ _ k (fun e => by omega)).trans (h.block k hk hs)⟩
theorem But.alloc {S : Nat → Prop} {w w' : World} (h : But S w w') (o : Obj) : But S w (w'.alloc o) := h.trans (But.of_below (below_alloc w' o)) (fun _ _ e => e)
theorem But.below {S : Nat → Prop} {w w' : World} (h : But S w w') {B : Nat} (hB : B ≤ w.heap.size) (hS : ∀ k, S k → B ≤ k) : Below B w w' :=
  ⟨h.os, h.tape, h.output, h.size, fun k hk => h.block k (Nat.lt_of_lt_of_le hk hB) (fun e => by have := hS k e; omega)⟩
theorem But.cell {S : Nat → Prop} {w w' : World} (h : But S w w') {a : Addr} {v : Value} (hc : w.cell? a = some v) (hs : ¬ S a.block) : w'.cell? a = some v :=
  (World.cell?_of_block (h.block a.block (World.block_lt_of_cell? _ _ hc) hs)).trans hc
theorem But.blk {S : Nat → Prop} {w w' : World} (h : But S w w') {k : Nat} {o : Obj} (hc : w.heap[k]? = some o) (hs : ¬ S k) : w'.heap[k]? = some o :=
  (h.block k (Array.getElem?_eq_some_iff.1 hc).1 hs).trans hc

/-- A slice that reads as it did. -/
theorem Rd.but {w w' : World} {S : Nat → Prop} {ao : Option Addr} {n c : Nat} {xs : List Value} (h : Rd w (.slice ao n c) n xs) (hb : But S w w') (hs : ∀ a, ao = some a → ¬ S a.block) : Rd w' (.slice ao n c) n xs := by
  obtain ⟨ao', c', he, h1, h2, h3, h4⟩ := h
  cases he
  refine ⟨ao, c, rfl, h1, h2, h3, fun a ha j u hu => ?_⟩
  exact hb.cell (h4 a ha j u hu) (by rw [addr_add_block]; exact hs a ha)

theorem own_but {w w' : World} {S : Nat → Prop} {B : Nat} {e : TypeId} {size : Nat} {v : Value} {n : Nat} {xs : List Value} (h : w.ownsRow B e size v n xs) (hb : But S w w') (hs : ∀ k, v.ownBlock = some k → ¬ S k) : w'.ownsRow B e size v n xs := by
  refine ⟨h.1, ?_⟩
  rcases h.2 with h | ⟨g, cap, cur, rfl, h1, h2, h3⟩
  · exact .inl h
  · exact .inr ⟨g, cap, cur, rfl, h1, hb.blk h2 (hs g rfl), h3⟩
end Go.Proofs.YtnolbabpkhdpmaaGreat
