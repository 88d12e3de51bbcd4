/-
  Layer 3 (row): the order of rows is total.
-/
import Derived.Test.YtgmemdhbnnhifaaS
namespace Go.Proofs.Ytgmemdhbnnhifaa
open Go.RowKit

theorem lessR_irrefl {l : List Val} : lessR l l = false := by
  induction l with
  | nil => rfl
  | cons a l ih => simp only [lessR, sameV_self, if_true]; exact ih

theorem lessR_trans {l m n : List Val} (h : lessR l m = true) (h' : lessR m n = true) : lessR l n = true := by
  induction l generalizing m n with
  | nil =>
    cases m with
    | nil => exact h'
    | cons b m => cases n with
      | nil => cases h'
      | cons c n => rfl
  | cons a l ih =>
    cases m with
    | nil => cases h
    | cons b m => cases n with
      | nil => cases h'
      | cons c n =>
        simp only [lessR] at h h' ⊢
        by_cases e1 : a = b
        · subst e1
          simp only [sameV_self, if_true] at h
          by_cases e2 : a = c
          · subst e2
            simp only [sameV_self, if_true] at h' ⊢
            exact ih h h'
          · have e3 : sameV a c = false := by rw [sameV_eq]; exact decide_eq_false e2
            simp only [e3] at h' ⊢
            exact h'
        · have e3 : sameV a b = false := by rw [sameV_eq]; exact decide_eq_false e1
          simp only [e3] at h
          have h : lessV a b = true := h
          by_cases e2 : b = c
          · subst e2
            simp only [e3]; exact h
          · have e4 : sameV b c = false := by rw [sameV_eq]; exact decide_eq_false e2
            simp only [e4] at h'
            have h' : lessV b c = true := h'
            have h3 := lessV_trans h h'
            have e5 : sameV a c = false := by
              rw [sameV_eq]; refine decide_eq_false ?_
              rintro rfl
              rw [lessV_irrefl] at h3; cases h3
            simp only [e5]; exact h3

theorem total_cases (l m : List Val) : (sameR l m = true ∧ lessR l m = false ∧ lessR m l = false) ∨ (sameR l m = false ∧ lessR l m = true ∧ lessR m l = false) ∨ (sameR l m = false ∧ lessR l m = false ∧ lessR m l = true) := by
  induction l generalizing m with
  | nil => cases m with
    | nil => exact .inl ⟨rfl, rfl, rfl⟩
    | cons b m => exact .inr (.inl ⟨rfl, rfl, rfl⟩)
  | cons a l ih =>
    cases m with
    | nil => exact .inr (.inr ⟨rfl, rfl, rfl⟩)
    | cons b m =>
      by_cases e : a = b
      · subst e
        have hc : sameR (a :: l) (a :: m) = sameR l m := by simp [sameR]
        simp only [hc, lessR, sameV_self, if_true]
        exact ih m
      · have e1 : sameV a b = false := by rw [sameV_eq]; exact decide_eq_false e
        have e2 : sameV b a = false := by rw [sameV_eq]; exact decide_eq_false (Ne.symm e)
        have hs : sameR (a :: l) (b :: m) = false := by simp [sameR, e]
        have hl : lessR (a :: l) (b :: m) = lessV a b := by simp [lessR, e1]
        have hr : lessR (b :: m) (a :: l) = lessV b a := by simp [lessR, e2]
        rw [hs, hl, hr]
        cases h1 : lessV a b <;> cases h2 : lessV b a
        · exact absurd (lessV_tri h1 h2) e
        · exact .inr (.inr ⟨rfl, rfl, rfl⟩)
        · exact .inr (.inl ⟨rfl, rfl, rfl⟩)
        · have := lessV_asymm h1; rw [h2] at this; cases this

end Go.Proofs.Ytgmemdhbnnhifaa
