/-
  Layer 24 (zset): an item put to a bag.
-/
import Derived.Test.YtgmemdhbnnhifaaZS
import Derived.Test.YtgmemdhbnnhifaaBT
import Derived.StillTailTactics
import Derived.BigQuiet
import Derived.BigRegion
namespace Go.Proofs.Ytgmemdhbnnhifaa
open Go.RowKit Go.Sort Go.BigFrame

abbrev OwnI (w : World) (B : Nat) (v : Value) (l : List It) : Prop := w.ownsRow B 39 3 v l.length (itCs l)

theorem itCs_set (l : List It) (k : Nat) (hk : k < l.length) (m : Int) : (itCs l).set (k * 3 + 1) (.int .i64 m) = itCs (l.set k { l[k] with many := m }) := by
  induction l generalizing k with
  | nil => cases hk
  | cons a l ih =>
    have he : itCs (a :: l) = enI a ++ itCs l := rfl
    have hc : (enI a).length = 3 := rfl
    cases k with
    | zero => rfl
    | succ k =>
      have := ih k (by simpa using hk)
      rw [he, List.set_append_right _ _ (by omega), show (k + 1) * 3 + 1 - (enI a).length = k * 3 + 1 by omega, this]
      rfl

/-- The place of an item in what is owned. -/
theorem own_it {w : World} {B : Nat} {v : Value} {l : List It} (h : OwnI w B v l) (k : Nat) (hk : k < l.length) :
    ∃ g c o : Nat, v = .slice (some ⟨g, 0, none⟩) l.length c ∧ o = k * 3 ∧ B ≤ g ∧ l.length ≤ c ∧ c ≤ maxLen ∧ (∀ W, (Instr.indexAt 22 v (.int .i64 (k : Int))).run Try.prog W = .ok (.pointer (some ⟨g, o, none⟩)) W) ∧
      w.cell? ⟨g, o, none⟩ = some (.slice l[k].ra l[k].rn l[k].rc) ∧ w.cell? ⟨g, o + 1, none⟩ = some (.int .i64 l[k].many) ∧ w.cell? ⟨g, o + 2, none⟩ = some (.slice l[k].ba l[k].bn l[k].bc) ∧ (∀ j, w.frozen? ⟨g, j, none⟩ = false) ∧ g < w.heap.size := by
  rcases id h.2 with ⟨_, hn⟩ | ⟨g, c, cur, rfl, hbg, hg, hnc, hcm, hcs, ht⟩
  · omega
  · obtain ⟨r0, r1, r2⟩ := itCs_at l k hk
    refine ⟨g, c, k * 3, rfl, rfl, hbg, hnc, hcm, fun W => run_indexAt_at elIt (by simp [Addr.add]; intro h; exact h.symm) hk W, ?_, ?_, ?_, fun j => h.frozenAt j, (h.lt g rfl).2⟩
    · rw [h.cellAt _ (by omega)]; exact r0
    · rw [h.cellAt _ (by omega)]; exact r1
    · rw [h.cellAt _ (by omega)]; exact r2

/-- The bag's box: what is put together, and what comes of it. -/
def BagAt (B pb : Nat) (v0 v : Value) (l : List It) (w : World) : Prop := w.heap[pb]? = some (.cells #[v0, v] 47 (0, 0)) ∧ OwnI w B v l

theorem BagAt.not_row {B pb : Nat} {v0 v : Value} {l : List It} {w : World} (h : BagAt B pb v0 v l w) : v.ownBlock ≠ some pb := by
  rcases h.2.2 with ⟨rfl, _⟩ | ⟨g, cap, cur, rfl, _, hgb, _⟩
  · simp [Value.ownBlock]
  · intro e'
    obtain rfl : g = pb := by simpa [Value.ownBlock] using e'
    have := h.1.symm.trans hgb
    simp at this

theorem BagAt.later {B pb : Nat} {v0 v : Value} {l : List It} {w w' : World} (h : BagAt B pb v0 v l w) (hb : Below w.heap.size w w') : BagAt B pb v0 v l w' :=
  ⟨by rw [hb.block _ (Array.getElem?_eq_some_iff.1 h.1).1]; exact h.1, own_later h.2 hb⟩

theorem BagAt.cell {B pb : Nat} {v0 v : Value} {l : List It} {w : World} (h : BagAt B pb v0 v l w) : w.cell? ⟨pb, 1, none⟩ = some v := by simp [World.cell?, h.1]
theorem BagAt.cell0 {B pb : Nat} {v0 v : Value} {l : List It} {w : World} (h : BagAt B pb v0 v l w) : w.cell? ⟨pb, 0, none⟩ = some v0 := by simp [World.cell?, h.1]
theorem BagAt.frozen {B pb : Nat} {v0 v : Value} {l : List It} {w : World} (h : BagAt B pb v0 v l w) (j : Nat) : w.frozen? ⟨pb, j, none⟩ = false := by simp [World.frozen?, h.1]
theorem BagAt.lt {B pb : Nat} {v0 v : Value} {l : List It} {w : World} (h : BagAt B pb v0 v l w) : pb < w.heap.size := (Array.getElem?_eq_some_iff.1 h.1).1

/-- The box gets another slice. -/
theorem BagAt.put {B pb : Nat} {v0 v v' : Value} {l : List It} {w : World} (h : w.heap[pb]? = some (.cells #[v0, v] 47 (0, 0))) (ho : OwnI w B v' l) : BagAt B pb v0 v' l (w.setCell ⟨pb, 1, none⟩ v') := by
  have hne : ∀ k, v'.ownBlock = some k → k ≠ pb := by
    intro k hk e
    subst e
    rcases ho.2 with ⟨rfl, _⟩ | ⟨g, cap, cur, rfl, _, hgb, _⟩
    · simp [Value.ownBlock] at hk
    · obtain rfl : g = k := by simpa [Value.ownBlock] using hk
      have := h.symm.trans hgb
      simp at this
  refine ⟨?_, own_but ho ((But.refl (fun k => k = pb) w).set rfl _) hne⟩
  obtain ⟨hlt, hk⟩ := Array.getElem?_eq_some_iff.1 h
  show (w.heap.modify pb _)[pb]? = _
  rw [Array.getElem?_eq_getElem (by rw [Array.size_modify]; exact hlt), Array.getElem_modify_self, hk]
  rfl

/-- What a put comes to. -/
def putL (l : List It) (x : It) : List It :=
  match l.getLast? with
  | some y => if y.row = x.row then l.set (l.length - 1) { y with many := w64 (y.many + x.many) } else l ++ [⟨x.ra, x.rn, x.rc, x.many, none, 0, 0, x.row⟩]
  | none => l ++ [⟨x.ra, x.rn, x.rc, x.many, none, 0, 0, x.row⟩]

def PutPost (B pb : Nat) (v0 v : Value) (l : List It) (w : World) (e : Ending) (w' : World) : Prop :=
  e = .returned (.tuple #[]) ∧ ∃ v', BagAt B pb v0 v' l w' ∧ But (fun k => k = pb ∨ v.ownBlock = some k) w w' ∧ (∀ k, v'.ownBlock = some k → v.ownBlock = some k ∨ w.heap.size ≤ k)
end Go.Proofs.Ytgmemdhbnnhifaa
