/-
  Layer 2 (value): what the rows lean on: right values, their order.
-/
import Derived.Test.YtnolbabpkhdpmaaGreatBase
namespace Go.Proofs.YtnolbabpkhdpmaaGreat
open Go.RowKit

/-- A value: its kind, its number, its text. -/
structure Val where
  k : Int
  n : Int
  s : ByteArray
  deriving DecidableEq

/-- Its cells, and it as an argument. -/
def Val.cs (v : Val) : List Value := [.int .i64 v.k, .int .i64 v.n, .string v.s]
abbrev Val.agg (v : Val) : Value := .agg #[.int .i64 v.k, .int .i64 v.n, .string v.s]

def rightV (v : Val) : Bool :=
  if v.k = 0 then decide (v.n = 0) && v.s.toList.isEmpty
  else if v.k = 1 then v.s.toList.isEmpty && decide (-1099511627776 ≤ v.n) && decide (v.n ≤ 1099511627776)
  else decide (v.k = 2) && decide (v.n = 0) && decide ((v.s.size : Int) ≤ 200)

def sameV (a b : Val) : Bool := a.k == b.k && (a.n == b.n && a.s.toList == b.s.toList)

def lessV (a b : Val) : Bool :=
  if a.k = b.k then (if a.n = b.n then Op.bytesLess a.s.toList b.s.toList else decide (a.n < b.n)) else decide (a.k < b.k)

set_option maxRecDepth 100000 in
set_option maxHeartbeats 400000 in
theorem refRightV_any (k n : Int) (s : ByteArray) (w : World) :
    Calls Tryz.prog 93 #[.agg #[.int .i64 k, .int .i64 n, .string s]] w fun e w' => e = .returned (.bool (rightV ⟨k, n, s⟩)) ∧ Below w.heap.size w w' := by
  go_enter Tryz.func93, Tryz.ntmps93
  go_wp2
  all_goals (go_ret; refine ⟨ret_bool ?_, ?_⟩)
  all_goals first
    | exact Below.refl _ _
    | exact below_alloc _ _
    | exact below_alloc_then (below_alloc _ _)
    | exact below_alloc_then (below_alloc_then (below_alloc _ _))
    | exact below_alloc_then (below_alloc_then (below_alloc_then (below_alloc _ _)))
    | (simp_all [rightV]; done)
    | (simp_all [rightV]; omega)




set_option maxRecDepth 100000 in
set_option maxHeartbeats 400000 in
theorem refSameV_any (k n : Int) (s : ByteArray) (k' n' : Int) (s' : ByteArray) (w : World) :
    Calls Tryz.prog 104 #[.agg #[.int .i64 k, .int .i64 n, .string s], .agg #[.int .i64 k', .int .i64 n', .string s']] w fun e w' => e = .returned (.bool (sameV ⟨k, n, s⟩ ⟨k', n', s'⟩)) ∧ Below w.heap.size w w' := by
  go_enter Tryz.func104, Tryz.ntmps104
  go_wp2
  all_goals (go_ret; refine ⟨ret_bool ?_, ?_⟩)
  all_goals first
    | exact Below.refl _ _
    | exact below_alloc _ _
    | exact below_alloc_then (below_alloc _ _)
    | exact below_alloc_then (below_alloc_then (below_alloc _ _))
    | exact below_alloc_then (below_alloc_then (below_alloc_then (below_alloc _ _)))
    | (simp_all [sameV]; done)
    | (simp_all [rightV, lessV, sameV]; omega)

theorem bytesLess_eq : ∀ (x y : List UInt8), Op.bytesLess x y = decide (x < y)
  | [], [] => by simp [Op.bytesLess]
  | _ :: _, [] => by simp [Op.bytesLess]
  | [], _ :: _ => by simp [Op.bytesLess]
  | a :: x, b :: y => by
    rw [Op.bytesLess, bytesLess_eq x y]
    simp only [List.cons_lt_cons_iff]
    by_cases h1 : a < b <;> by_cases h2 : a = b <;> by_cases h3 : x < y <;> simp [h1, h2, h3]

theorem bytesLess_irrefl (l : List UInt8) : Op.bytesLess l l = false := by
  rw [bytesLess_eq]; simp

theorem bytesLess_asymm {a b : List UInt8} (h : Op.bytesLess a b = true) : Op.bytesLess b a = false := by
  rw [bytesLess_eq] at h ⊢
  simp only [decide_eq_true_eq, decide_eq_false_iff_not] at h ⊢
  exact List.lt_asymm h

theorem bytesLess_trans {a b c : List UInt8} (h : Op.bytesLess a b = true) (h' : Op.bytesLess b c = true) : Op.bytesLess a c = true := by
  rw [bytesLess_eq] at h h' ⊢
  simp only [decide_eq_true_eq] at h h' ⊢
  exact List.lt_trans h h'

theorem bytesLess_tri {a b : List UInt8} (h : Op.bytesLess a b = false) (h' : Op.bytesLess b a = false) : a = b := by
  rw [bytesLess_eq] at h h'
  simp only [decide_eq_false_iff_not] at h h'
  exact List.le_antisymm (List.not_lt.1 h') (List.not_lt.1 h)

theorem sameV_iff {a b : Val} : sameV a b = true ↔ a = b := by
  obtain ⟨k, n, s⟩ := a
  obtain ⟨k', n', s'⟩ := b
  have hs : s.toList = s'.toList ↔ s = s' := by
    rw [ByteArray.toList_eq, ByteArray.toList_eq, Array.toList_inj, ByteArray.ext_iff]
  simp [sameV, hs]

theorem toList_inj {s s' : ByteArray} (h : s.toList = s'.toList) : s = s' := by
  rw [ByteArray.toList_eq, ByteArray.toList_eq, Array.toList_inj] at h
  exact ByteArray.ext h

theorem sameV_eq (a b : Val) : sameV a b = decide (a = b) := by
  by_cases h : a = b
  · rw [sameV_iff.2 h, decide_eq_true h]
  · rw [decide_eq_false h, ← Bool.not_eq_true, sameV_iff]; exact h

theorem lessV_irrefl (a : Val) : lessV a a = false := by simp [lessV, bytesLess_irrefl]

theorem lessV_asymm {a b : Val} (h : lessV a b = true) : lessV b a = false := by
  obtain ⟨k, n, s⟩ := a
  obtain ⟨k', n', s'⟩ := b
  unfold lessV at h ⊢
  dsimp only at h ⊢
  by_cases h1 : k = k'
  · by_cases h2 : n = n'
    · simp only [h1, h2, if_true] at h ⊢; exact bytesLess_asymm h
    · simp only [h1, h2, if_true, if_false, Ne.symm h2, decide_eq_true_eq, decide_eq_false_iff_not] at h ⊢
      omega
  · simp only [h1, if_false, Ne.symm h1, decide_eq_true_eq, decide_eq_false_iff_not] at h ⊢
    omega

theorem lessV_tri {a b : Val} (h : lessV a b = false) (h' : lessV b a = false) : a = b := by
  obtain ⟨k, n, s⟩ := a
  obtain ⟨k', n', s'⟩ := b
  unfold lessV at h h'
  dsimp only at h h'
  by_cases h1 : k = k'
  · by_cases h2 : n = n'
    · simp only [h1, h2, if_true] at h h'
      have := toList_inj (bytesLess_tri h h')
      simp [h1, h2, this]
    · simp only [h1, h2, if_true, if_false, Ne.symm h2, decide_eq_false_iff_not] at h h'
      omega
  · simp only [h1, if_false, Ne.symm h1, decide_eq_false_iff_not] at h h'
    omega

theorem lessV_trans {a b c : Val} (h : lessV a b = true) (h' : lessV b c = true) : lessV a c = true := by
  obtain ⟨k, n, s⟩ := a
  obtain ⟨k', n', s'⟩ := b
  obtain ⟨k2, n2, s2⟩ := c
  unfold lessV at h h' ⊢
  dsimp only at h h' ⊢
  by_cases h1 : k = k' <;> by_cases h2 : k' = k2 <;> by_cases h3 : n = n' <;> by_cases h4 : n' = n2 <;> simp_all
  all_goals first | exact bytesLess_trans h h' | (split <;> first | omega | (split <;> omega) | skip)
  all_goals first | omega | (split <;> omega)

theorem sameV_less (a b : Val) : (!lessV a b && !lessV b a) = sameV a b := by
  by_cases h : a = b
  · subst h; rw [lessV_irrefl, sameV_iff.2 rfl]; rfl
  · have hs : sameV a b = false := by rw [← Bool.not_eq_true, sameV_iff]; exact h
    rw [hs]
    rcases h1 : lessV a b <;> rcases h2 : lessV b a <;> first | rfl | exact absurd (lessV_tri h1 h2) h


end Go.Proofs.YtnolbabpkhdpmaaGreat
