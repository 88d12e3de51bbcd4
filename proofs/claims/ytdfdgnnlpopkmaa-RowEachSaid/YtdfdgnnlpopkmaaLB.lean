/-
  Layer 3 (row): what the laws' walks share.
-/
import Derived.Test.YtdfdgnnlpopkmaaKA
import Derived.Test.YtdfdgnnlpopkmaaLO
import Derived.Deep.RegionLaw
namespace Go.Proofs.Ytdfdgnnlpopkmaa
open Go.RowKit

theorem colsCs_one {l : List Col} {k : Nat} (hk : k < l.length) : ((colsCs l).drop (k * 4)).take (1 * 4) = colsCs [l[k]] := by
  induction l generalizing k with
  | nil => cases hk
  | cons a l ih =>
    have he : colsCs (a :: l) = a.cs ++ colsCs l := rfl
    cases k with
    | zero => rw [he]; simp [colsCs, Col.cs]
    | succ k =>
      rw [he, show (k + 1) * 4 = a.cs.length + k * 4 by show (k + 1) * 4 = 4 + k * 4; omega, List.drop_length_add_append]
      simpa using ih (by simpa using hk)

theorem rowCs_one {l : List Val} {k : Nat} (hk : k < l.length) : ((rowCs l).drop (k * 3)).take (1 * 3) = rowCs [l[k]] := by
  induction l generalizing k with
  | nil => cases hk
  | cons a l ih =>
    have he : rowCs (a :: l) = a.cs ++ rowCs l := rfl
    cases k with
    | zero => rw [he]; simp [rowCs, Val.cs]
    | succ k =>
      rw [he, show (k + 1) * 3 = a.cs.length + k * 3 by show (k + 1) * 3 = 3 + k * 3; omega, List.drop_length_add_append]
      simpa using ih (by simpa using hk)

theorem rightR_one (c : Col) (v : Val) : rightR [c] [v] = checkC c v := by
  have e : rightR [c] [v] = if checkC c v = 0 then 0 else checkC c v := rfl
  rw [e]
  split
  · rename_i h; rw [h]
  · rfl

theorem firstC_snoc {l : List Col} {m : List Val} {k : Nat} (hk : k < l.length) (hk' : k < m.length) : firstC (l.take (k + 1)) (m.take (k + 1)) = if firstC (l.take k) (m.take k) = 0 then checkC l[k] m[k] else firstC (l.take k) (m.take k) := by
  induction k generalizing l m with
  | zero =>
    cases l with
    | nil => cases hk
    | cons a l => cases m with
      | nil => cases hk'
      | cons b m =>
        simp only [List.take_succ_cons, List.take_zero, firstC, if_true, List.getElem_cons_zero]
        split
        · rename_i h; rw [h]
        · rfl
  | succ k ih =>
    cases l with
    | nil => cases hk
    | cons a l => cases m with
      | nil => cases hk'
      | cons b m =>
        simp only [List.take_succ_cons, firstC, List.getElem_cons_succ]
        have := ih (l := l) (m := m) (by simpa using hk) (by simpa using hk')
        by_cases h0 : checkC a b = 0
        · simp only [h0, if_true]; exact this
        · simp only [h0, if_false]

theorem step_app_full {P : Program} {w : World} {ops : Array Oper} {o : Oper} {a : Act} {K : Act → World → Prop} {Q : Exit → Act → World → Prop} {E : Prop}
    {t tx e : TypeId} {size bytes : Nat} {z : Value} (T : El P t e size bytes z) (hx : ∃ d, P.underlying tx = some d ∧ ∀ k, d ≠ .int k)
    (hg : o.guard = none) (s x : Operand) (hop : o.op = Op.call { callee := Callee.builtin Builtin.append, args := #[s, x], argTypes := #[t, tx] })
    {ao : Option Addr} {y : Value} {n m : Nat} {xs news : List Value} (hsv : a.eval s = .slice ao n n) (hxy : a.eval x = y) (hrd : Rd w (.slice ao n n) n xs) (hlx : xs.length = n * size) (hs : Src P w size y m news)
    (h63 : n + m ≤ maxLen) (hbytes : (n + m) * bytes ≤ 140737488355328)
    (hK : ∀ v' w', Rd w' v' (n + m) (xs ++ news) → Below w.heap.size w w' → K (a.put o.dst v') w') :
    if Region.wanted o (yielded ops a.tmps) = true then Oper.wp P o a w K Q else E := by
  have hw : Region.wanted o (yielded ops a.tmps) = true := by simp [Region.wanted, hg]
  rw [if_pos hw]
  obtain ⟨v', w', hrun, r1, r2, _⟩ := run_app_full (P := P) w (ty := o.type) T hx hrd hlx hs h63 hbytes
  unfold Oper.wp
  simp [execOp, hop, resolve, invoke, builtin, hsv, hxy, hrun, Result.andThen]
  exact hK _ _ r1 ((Below.refl _ _).grown r2 (Nat.le_refl _) (fun _ h => nomatch h))

theorem fewR_len {l : List Val} (h : fewR l = true) : l.length ≤ 60 := by
  unfold fewR at h
  simp only [Bool.and_eq_true, decide_eq_true_eq] at h
  exact h.1

theorem bytesR_len (l : List Val) (h : allR l = true) : 1 ≤ (bytesR l).length ∧ (bytesR l).length ≤ 10 + 211 * l.length := by
  have h1 := flatV_len l h
  have h2 := put_len (l.length : Int)
  show 1 ≤ (put l.length ++ l.flatMap bytesV).length ∧ (put l.length ++ l.flatMap bytesV).length ≤ 10 + 211 * l.length
  rw [List.length_append]; omega

theorem getR_back (l : List Val) (s : List UInt8) (h : allR l = true) (hl : l.length ≤ 9223372036854775807) : getR (bytesR l ++ s) = some (l, (bytesR l).length) :=
  getL_putL getVal_puts l s hl (fun x hx => (List.all_eq_true.1 h) x hx)

theorem bytesR_same {l m : List Val} (h : allR l = true) (h' : allR m = true) (hl : l.length ≤ 9223372036854775807) (hm : m.length ≤ 9223372036854775807) : (bytesR l == bytesR m) = sameR l m := by
  rw [Bool.eq_iff_iff, beq_iff_eq, decide_eq_true_iff]
  constructor
  · intro e
    have h1 := getR_back l [] h hl
    have h2 := getR_back m [] h' hm
    rw [e, h2] at h1
    simp only [Option.some.injEq, Prod.mk.injEq] at h1
    exact h1.1.symm
  · rintro rfl; rfl

theorem lessR_more (l : List Val) (v : Val) : lessR l (l ++ [v]) = true ∧ lessR (l ++ [v]) l = false := by
  induction l with
  | nil => exact ⟨rfl, rfl⟩
  | cons a l ih => simp only [List.cons_append, lessR, sameV_self, if_true]; exact ih

theorem lessR_irrefl {l : List Val} : lessR l l = false := by
  induction l with
  | nil => rfl
  | cons a l ih => simp only [lessR, sameV_self, if_true]; exact ih

theorem lessR_trans {l m n : List Val} (h : lessR l m = true) (h' : lessR m n = true) : lessR l n = true := by
  induction l generalizing m n with
  | nil =>
    cases m with
    | nil => exact h'
    | cons b m => cases n with
      | nil => cases h'
      | cons c n => rfl
  | cons a l ih =>
    cases m with
    | nil => cases h
    | cons b m => cases n with
      | nil => cases h'
      | cons c n =>
        simp only [lessR] at h h' ⊢
        by_cases e1 : a = b
        · subst e1
          simp only [sameV_self, if_true] at h
          by_cases e2 : a = c
          · subst e2
            simp only [sameV_self, if_true] at h' ⊢
            exact ih h h'
          · have e3 : sameV a c = false := by rw [sameV_eq]; exact decide_eq_false e2
            simp only [e3] at h' ⊢
            exact h'
        · have e3 : sameV a b = false := by rw [sameV_eq]; exact decide_eq_false e1
          simp only [e3] at h
          have h : lessV a b = true := h
          by_cases e2 : b = c
          · subst e2
            simp only [e3]; exact h
          · have e4 : sameV b c = false := by rw [sameV_eq]; exact decide_eq_false e2
            simp only [e4] at h'
            have h' : lessV b c = true := h'
            have h3 := lessV_trans h h'
            have e5 : sameV a c = false := by
              rw [sameV_eq]; refine decide_eq_false ?_
              rintro rfl
              rw [lessV_irrefl] at h3; cases h3
            simp only [e5]; exact h3

theorem total_cases (l m : List Val) : (sameR l m = true ∧ lessR l m = false ∧ lessR m l = false) ∨ (sameR l m = false ∧ lessR l m = true ∧ lessR m l = false) ∨ (sameR l m = false ∧ lessR l m = false ∧ lessR m l = true) := by
  induction l generalizing m with
  | nil => cases m with
    | nil => exact .inl ⟨rfl, rfl, rfl⟩
    | cons b m => exact .inr (.inl ⟨rfl, rfl, rfl⟩)
  | cons a l ih =>
    cases m with
    | nil => exact .inr (.inr ⟨rfl, rfl, rfl⟩)
    | cons b m =>
      by_cases e : a = b
      · subst e
        have hc : sameR (a :: l) (a :: m) = sameR l m := by simp [sameR]
        simp only [hc, lessR, sameV_self, if_true]
        exact ih m
      · have e1 : sameV a b = false := by rw [sameV_eq]; exact decide_eq_false e
        have e2 : sameV b a = false := by rw [sameV_eq]; exact decide_eq_false (Ne.symm e)
        have hs : sameR (a :: l) (b :: m) = false := by simp [sameR, e]
        have hl : lessR (a :: l) (b :: m) = lessV a b := by simp [lessR, e1]
        have hr : lessR (b :: m) (a :: l) = lessV b a := by simp [lessR, e2]
        rw [hs, hl, hr]
        cases h1 : lessV a b <;> cases h2 : lessV b a
        · exact absurd (lessV_tri h1 h2) e
        · exact .inr (.inr ⟨rfl, rfl, rfl⟩)
        · exact .inr (.inl ⟨rfl, rfl, rfl⟩)
        · have := lessV_asymm h1; rw [h2] at this; cases this

section
variable {W : World} {va vb vc : Value} {l m n : List Val}

theorem few1 {g : Nat} (ha : Rd W va l.length (rowCs l)) (hg : W.heap.size = g) :
    Calls Try.prog 10 #[.slice (some ⟨g, 0, none⟩) 1 1] (W.alloc (.cells #[va] 24)) fun e w' => e = .returned (.bool (fewR l)) ∧ Below W.heap.size W w' := by
  refine (few_any (.slice (some ⟨g, 0, none⟩) 1 1) [(va, l)] (W.alloc (.cells #[va] 24)) (rd_litg _ _ _ 1 _ (by decide) hg rfl) ?_).mono ?_
  · intro p hp
    rcases List.mem_cons.1 hp with rfl | hp
    · exact ha.later (below_alloc _ _)
    · cases hp
  · rintro e w1 ⟨rfl, hb⟩
    exact ⟨by simp, below_alloc_then hb⟩

theorem few2 {g : Nat} (ha : Rd W va l.length (rowCs l)) (hb : Rd W vb m.length (rowCs m)) (hg : W.heap.size = g) :
    Calls Try.prog 10 #[.slice (some ⟨g, 0, none⟩) 2 2] (W.alloc (.cells #[va, vb] 24)) fun e w' => e = .returned (.bool (fewR l && fewR m)) ∧ Below W.heap.size W w' := by
  refine (few_any (.slice (some ⟨g, 0, none⟩) 2 2) [(va, l), (vb, m)] (W.alloc (.cells #[va, vb] 24)) (rd_litg _ _ _ 2 _ (by decide) hg rfl) ?_).mono ?_
  · intro p hp
    rcases List.mem_cons.1 hp with rfl | hp
    · exact ha.later (below_alloc _ _)
    · rcases List.mem_cons.1 hp with rfl | hp
      · exact hb.later (below_alloc _ _)
      · cases hp
  · rintro e w1 ⟨rfl, hb⟩
    exact ⟨by simp, below_alloc_then hb⟩

theorem few3 {g : Nat} (ha : Rd W va l.length (rowCs l)) (hb : Rd W vb m.length (rowCs m)) (hc : Rd W vc n.length (rowCs n)) (hg : W.heap.size = g) :
    Calls Try.prog 10 #[.slice (some ⟨g, 0, none⟩) 3 3] (W.alloc (.cells #[va, vb, vc] 24)) fun e w' => e = .returned (.bool (fewR l && (fewR m && fewR n))) ∧ Below W.heap.size W w' := by
  refine (few_any (.slice (some ⟨g, 0, none⟩) 3 3) [(va, l), (vb, m), (vc, n)] (W.alloc (.cells #[va, vb, vc] 24)) (rd_litg _ _ _ 3 _ (by decide) hg rfl) ?_).mono ?_
  · intro p hp
    rcases List.mem_cons.1 hp with rfl | hp
    · exact ha.later (below_alloc _ _)
    · rcases List.mem_cons.1 hp with rfl | hp
      · exact hb.later (below_alloc _ _)
      · rcases List.mem_cons.1 hp with rfl | hp
        · exact hc.later (below_alloc _ _)
        · cases hp
  · rintro e w1 ⟨rfl, hb⟩
    exact ⟨by simp, below_alloc_then hb⟩
end
end Go.Proofs.Ytdfdgnnlpopkmaa
