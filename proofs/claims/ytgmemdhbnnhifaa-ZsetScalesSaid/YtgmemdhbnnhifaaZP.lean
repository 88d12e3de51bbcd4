/-
  Layer 24 (zset), plain: rows, and how often.
-/
import Derived.Test.YtgmemdhbnnhifaaRT
import Derived.Test.YtgmemdhbnnhifaaSP
namespace Go.Proofs.Ytgmemdhbnnhifaa
open Go.RowKit Go.Sort

abbrev Pr := List Val × Int

/-- A number of 64 bits. -/
def w64 (x : Int) : Int := IntKind.i64.wrap x
theorem w64_def (x : Int) : w64 x = (x + 9223372036854775808) % 18446744073709551616 - 9223372036854775808 := by unfold w64; rw [IntKind.wrap_i64]
theorem w64_add_left (a b : Int) : w64 (w64 a + b) = w64 (a + b) := by simp only [w64_def]; omega
theorem w64_add_right (a b : Int) : w64 (a + w64 b) = w64 (a + b) := by simp only [w64_def]; omega
theorem w64_idem (a : Int) : w64 (w64 a) = w64 a := by simp only [w64_def]; omega
theorem w64_zero : w64 0 = 0 := by decide
theorem w64_eq {a b : Int} (h : ∃ k, a = b + k * 18446744073709551616) : w64 a = w64 b := by
  obtain ⟨k, rfl⟩ := h
  simp only [w64_def]; omega
theorem w64_off (a : Int) : ∃ k, w64 a = a + k * 18446744073709551616 := by
  refine ⟨-((a + 9223372036854775808) / 18446744073709551616), ?_⟩
  simp only [w64_def]; omega
theorem w64_mul_left (a k : Int) : w64 (w64 a * k) = w64 (a * k) := by
  obtain ⟨c, hc⟩ := w64_off a
  refine w64_eq ⟨c * k, ?_⟩
  rw [hc, Int.add_mul, Int.mul_right_comm]
theorem w64_mul_right (a k : Int) : w64 (a * w64 k) = w64 (a * k) := by rw [Int.mul_comm, w64_mul_left, Int.mul_comm]
theorem w64_add_eq {a b c d : Int} (h : w64 a = w64 b) (k : w64 c = w64 d) : w64 (a + c) = w64 (b + d) := by
  rw [← w64_add_left, h, w64_add_left, ← w64_add_right, k, w64_add_right]
theorem w64_mul_eq {a b : Int} (h : w64 a = w64 b) (k : Int) : w64 (a * k) = w64 (b * k) := by rw [← w64_mul_left, h, w64_mul_left]

/-- How often a row is there, not yet cut to 64 bits. -/
def tot : List Pr → List Val → Int
  | [], _ => 0
  | x :: l, r => (if x.1 = r then x.2 else 0) + tot l r

def cnt (l : List Pr) (r : List Val) : Int := w64 (tot l r)

theorem tot_app (a b : List Pr) (r : List Val) : tot (a ++ b) r = tot a r + tot b r := by
  induction a with
  | nil => simp [tot]
  | cons x a ih => simp only [List.cons_append, tot, ih]; omega

theorem tot_perm {a b : List Pr} (h : a.Perm b) (r : List Val) : tot a r = tot b r := by
  induction h with
  | nil => rfl
  | cons x _ ih => simp only [tot, ih]
  | swap x y l => simp only [tot]; omega
  | trans _ _ h1 h2 => exact h1.trans h2

theorem cnt_app (a b : List Pr) (r : List Val) : cnt (a ++ b) r = w64 (cnt a r + cnt b r) := by
  unfold cnt; rw [tot_app, w64_add_left, w64_add_right]

/-- So many times as many. -/
def scl (k : Int) (l : List Pr) : List Pr := l.map fun x => (x.1, w64 (x.2 * k))
theorem cnt_scl (k : Int) (l : List Pr) (r : List Val) : cnt (scl k l) r = w64 (cnt l r * k) := by
  unfold cnt
  rw [w64_mul_left]
  induction l with
  | nil => simp [scl, tot]
  | cons x l ih =>
    show w64 ((if x.1 = r then w64 (x.2 * k) else 0) + tot (scl k l) r) = w64 (((if x.1 = r then x.2 else 0) + tot l r) * k)
    rw [Int.add_mul]
    refine w64_add_eq ?_ ih
    split
    · exact w64_idem _
    · simp

/-- Rows rise, each there, not nought times. -/
structure Nrm (l : List Pr) : Prop where
  rise : l.Pairwise fun x y => lessR x.1 y.1 = true
  some : ∀ x ∈ l, x.2 ≠ 0
  fit : ∀ x ∈ l, w64 x.2 = x.2

theorem Nrm.tail {x : Pr} {l : List Pr} (h : Nrm (x :: l)) : Nrm l :=
  ⟨(List.pairwise_cons.1 h.rise).2, fun y hy => h.some y (by simp [hy]), fun y hy => h.fit y (by simp [hy])⟩

theorem tot_none {l : List Pr} {r : List Val} (h : ∀ x ∈ l, x.1 ≠ r) : tot l r = 0 := by
  induction l with
  | nil => rfl
  | cons x l ih =>
    simp only [tot]
    rw [if_neg (h x (by simp)), ih fun y hy => h y (by simp [hy])]
    rfl

theorem lessR_ne {l m : List Val} (h : lessR l m = true) : l ≠ m := by
  rintro rfl; rw [lessR_irrefl] at h; cases h

theorem lessR_asymm {l m : List Val} (h : lessR l m = true) : lessR m l = false := by
  cases hb : lessR m l with
  | false => rfl
  | true => have := lessR_trans h hb; rw [lessR_irrefl] at this; cases this

theorem Nrm.head {x : Pr} {l : List Pr} (h : Nrm (x :: l)) : cnt (x :: l) x.1 = x.2 := by
  unfold cnt
  simp only [tot, if_true]
  rw [tot_none fun y hy => (lessR_ne ((List.pairwise_cons.1 h.rise).1 y hy)).symm, Int.add_zero]
  exact h.fit x (by simp)

theorem Nrm.below {x : Pr} {l : List Pr} (h : Nrm (x :: l)) {r : List Val} (hr : lessR r x.1 = true) : cnt (x :: l) r = 0 := by
  unfold cnt
  rw [tot_none, w64_zero]
  intro y hy
  rcases List.mem_cons.1 hy with rfl | hy
  · exact (lessR_ne hr).symm
  · exact (lessR_ne (lessR_trans hr ((List.pairwise_cons.1 h.rise).1 y hy))).symm

/-- What rises, each there, is told by how often each row is there. -/
theorem nrm_unique : ∀ {a b : List Pr}, Nrm a → Nrm b → (∀ r, cnt a r = cnt b r) → a = b
  | [], [], _, _, _ => rfl
  | [], y :: b, _, hb, h => by
    have := h y.1
    rw [hb.head] at this
    exact absurd this.symm (by have := hb.some y (by simp); simpa [cnt, tot, w64_zero] using this)
  | x :: a, [], ha, _, h => by
    have := h x.1
    rw [ha.head] at this
    exact absurd this (by have := ha.some x (by simp); simpa [cnt, tot, w64_zero] using this)
  | x :: a, y :: b, ha, hb, h => by
    rcases total_cases x.1 y.1 with ⟨hs, _, _⟩ | ⟨_, hl, _⟩ | ⟨_, _, hl⟩
    · have hr : x.1 = y.1 := of_decide_eq_true hs
      have h2 : x.2 = y.2 := by
        have := h x.1
        rw [ha.head, hr, hb.head] at this
        exact this
      have hxy : x = y := Prod.ext hr h2
      subst hxy
      congr 1
      refine nrm_unique ha.tail hb.tail fun r => ?_
      have := h r
      unfold cnt at this ⊢
      simp only [tot] at this
      have e : ∀ t : Int, tot a r = - (if x.1 = r then x.2 else 0) + ((if x.1 = r then x.2 else 0) + tot a r) := fun _ => by omega
      rw [e 0, ← w64_add_right, this, w64_add_right]
      congr 1
      omega
    · have := h x.1
      rw [ha.head, hb.below hl] at this
      exact absurd this (ha.some x (by simp))
    · have := h y.1
      rw [hb.head, ha.below hl] at this
      exact absurd this.symm (hb.some y (by simp))
end Go.Proofs.Ytgmemdhbnnhifaa
