/-
  Layer 4 (clock), plain: the order of stamps is one.
-/
import Derived.Test.YtboblpmpklofgaaTL
namespace Go.Proofs.Ytboblpmpklofgaa
open Go.RowKit Go.Sort

theorem orderL_perm (l : List Stp) : (orderL l).Perm (upto l.length) := isortL_perm _
theorem orderL_mem (l : List Stp) {x : Int} (h : x ∈ orderL l) : 0 ≤ x ∧ x < l.length := upto_mem ((orderL_perm l).mem_iff.1 h)

theorem upto_asc (n : Nat) : (upto n).Pairwise (· < ·) := by
  induction n with
  | zero => exact List.Pairwise.nil
  | succ n ih =>
    rw [upto_succ, List.pairwise_append]
    refine ⟨ih, List.pairwise_singleton _ _, fun x hx y hy => ?_⟩
    have := upto_mem hx
    rw [List.mem_singleton.1 hy]; omega

theorem orderL_nodup (l : List Stp) : (orderL l).Nodup := by
  refine (orderL_perm l).nodup_iff.2 ?_
  exact (upto_asc l.length).imp fun h => by omega

/-- The order, of alike ones as they stood. -/
def ltN (lt : Int → Int → Bool) (x y : Int) : Bool := lt x y || (!lt y x && decide (x < y))

theorem swoN {lt : Int → Int → Bool} (h : SWO lt) : SWO (ltN lt) where
  irrefl x := by simp [ltN, h.irrefl]
  trans x y z h1 h2 := by
    unfold ltN at *
    cases a : lt x y
    · cases b : lt y z
      · simp [a, b] at h1 h2
        cases c : lt x z
        · have : lt z x = false := h.ntrans _ _ _ h2.1 h1.1
          simp [this]; omega
        · simp
      · simp [a] at h1
        simp [lt_of_nlt_lt h h1.1 b]
    · cases b : lt y z
      · simp [b] at h2
        simp [lt_of_lt_nlt h a h2.1]
      · simp [h.trans _ _ _ a b]
  ntrans x y z h1 h2 := by
    unfold ltN at *
    simp only [Bool.or_eq_false_iff, Bool.and_eq_false_iff, Bool.not_eq_false', decide_eq_false_iff_not] at *
    refine ⟨h.ntrans _ _ _ h1.1 h2.1, ?_⟩
    rcases h1.2 with a | a
    · exact .inl (lt_of_nlt_lt h h2.1 a)
    · rcases h2.2 with b | b
      · exact .inl (lt_of_lt_nlt h b h1.1)
      · exact .inr (by omega)

theorem insN {lt : Int → Int → Bool} (x : Int) : ∀ (m : List Int), (∀ y ∈ m, x < y) → insL lt x m = insL (ltN lt) x m
  | [], _ => rfl
  | y :: m, h => by
    have hy := h y (by simp)
    have e : ltN lt y x = lt y x := by
      unfold ltN
      have : ¬ y < x := by omega
      simp [this]
    simp only [insL, e]
    rw [insN x m fun z hz => h z (by simp [hz])]

theorem isortN {lt : Int → Int → Bool} : ∀ (m : List Int), m.Pairwise (· < ·) → isortL lt m = isortL (ltN lt) m
  | [], _ => rfl
  | x :: m, h => by
    have h' := List.pairwise_cons.1 h
    show insL lt x (isortL lt m) = insL (ltN lt) x (isortL (ltN lt) m)
    rw [← isortN m h'.2]
    exact insN x _ fun y hy => h'.1 y ((isortL_perm m).mem_iff.1 hy)

theorem orderL_ascN (l : List Stp) : Asc (ltN (ltC (cmpAt l))) (orderL l) := by
  unfold orderL
  rw [isortN _ (upto_asc _)]
  exact isortL_asc (swoN (swoAt l)) _

abbrev stAt (l : List Stp) (i : Int) : Stp := l.getD i.toNat ⟨0, 0, 0⟩

theorem stAt_get (l : List Stp) (y : Nat) (h : y < l.length) : stAt l (y : Int) = l[y] := by simp [stAt, h]

/-- Two neighbours in the order. -/
theorem orderL_next (l : List Stp) {i : Nat} (h : i + 1 < (orderL l).length) : lessS (stAt l (orderL l)[i + 1]) (stAt l (orderL l)[i]) = false ∧ (stAt l (orderL l)[i + 1] = stAt l (orderL l)[i] → (orderL l)[i] < (orderL l)[i + 1]) := by
  have ha := (orderL_ascN l).get (i := i) (j := i + 1) (by omega) h
  unfold ltN at ha
  simp only [Bool.or_eq_false_iff, Bool.and_eq_false_iff, Bool.not_eq_false', decide_eq_false_iff_not, ltC_cmpAt] at ha
  refine ⟨ha.1, fun he => ?_⟩
  have hne : (orderL l)[i] ≠ (orderL l)[i + 1] := by
    have := List.pairwise_iff_getElem.1 (orderL_nodup l) i (i + 1) (by omega) h (by omega)
    exact this
  rcases ha.2 with a | a
  · rw [show (l.getD (orderL l)[i + 1].toNat ⟨0, 0, 0⟩) = l.getD (orderL l)[i].toNat ⟨0, 0, 0⟩ from he, swoS.irrefl] at a
    cases a
  · omega

theorem map_upto (l : List Stp) : (upto l.length).map (stAt l) = l := by
  apply List.ext_getElem
  · simp [upto]
  · intro i h1 h2
    simp [upto, stAt, h2]

theorem orderL_stamps (l : List Stp) : (((orderL l).map (stAt l)).Perm l) ∧ Asc lessS ((orderL l).map (stAt l)) := by
  refine ⟨?_, ?_⟩
  · have := (orderL_perm l).map (stAt l)
    rwa [map_upto] at this
  · unfold Asc
    rw [List.pairwise_map]
    have := isortL_asc (swoAt l) (upto l.length)
    exact this.imp fun h => by rwa [ltC_cmpAt] at h

theorem totS {a b : Stp} (h1 : lessS a b = false) (h2 : lessS b a = false) : a = b := by
  rw [lessS_false] at h1 h2
  obtain ⟨t, d, s⟩ := a
  obtain ⟨t', d', s'⟩ := b
  simp only at h1 h2
  have e1 : t = t' := by omega
  have e2 : d = d' := by omega
  have e3 : s = s' := by omega
  rw [e1, e2, e3]

theorem asc_unique : ∀ {a b : List Stp}, a.Perm b → Asc lessS a → Asc lessS b → a = b
  | [], b, h, _, _ => by rw [List.nil_perm.1 h]
  | x :: a, b, h, ha, hb => by
    cases b with
    | nil => exact absurd h.symm (by simp)
    | cons y b =>
      have ha' := List.pairwise_cons.1 ha
      have hb' := List.pairwise_cons.1 hb
      have hxy : x = y := by
        have h1 : x ∈ y :: b := h.mem_iff.1 (by simp)
        have h2 : y ∈ x :: a := h.mem_iff.2 (by simp)
        rcases List.mem_cons.1 h1 with e | h1
        · exact e
        · rcases List.mem_cons.1 h2 with e | h2
          · exact e.symm
          · exact totS (ha'.1 y h2 |> fun q => by
              have q1 := hb'.1 x h1
              exact q1) (ha'.1 y h2)
      subst hxy
      rw [asc_unique ((List.perm_cons x).1 h) ha'.2 hb'.2]

/-- Turned round, the stamps stand in the same order. -/
theorem orderL_turned (l : List Stp) : (orderL l).map (stAt l) = (orderL l.reverse).map (stAt l.reverse) := by
  refine asc_unique ?_ (orderL_stamps l).2 (orderL_stamps l.reverse).2
  exact (orderL_stamps l).1.trans ((List.reverse_perm l).symm.trans (orderL_stamps l.reverse).1.symm)

theorem turned_at (l : List Stp) {i : Nat} (h : i < (orderL l).length) (h' : i < (orderL l.reverse).length) : stAt l (orderL l)[i] = stAt l.reverse (orderL l.reverse)[i] := by
  have e := orderL_turned l
  have h1 : ((orderL l).map (stAt l))[i]'(by simpa using h) = ((orderL l.reverse).map (stAt l.reverse))[i]'(by simpa using h') := by simp only [e]
  simpa using h1

/-- Which places were met. -/
def metL (o : List Int) (i n : Nat) : List Bool := (List.range n).map fun y : Nat => (o.take i).contains (y : Int)

theorem metL_length (o : List Int) (i n : Nat) : (metL o i n).length = n := by simp [metL]

theorem metL_get (o : List Int) (i n k : Nat) (h : k < (metL o i n).length) : (metL o i n)[k] = (o.take i).contains (k : Int) := by simp [metL]

theorem metL_next (o : List Int) {i n y : Nat} (hi : i < o.length) (hy : o[i] = (y : Int)) (hn : y < n) (hd : o.Nodup) :
    metL o i n = (metL o i n).take y ++ false :: (metL o i n).drop (y + 1) ∧ metL o (i + 1) n = (metL o i n).take y ++ true :: (metL o i n).drop (y + 1) := by
  have hl := metL_length o i n
  have hnot : (o.take i).contains (y : Int) = false := by
    rw [Bool.eq_false_iff]
    intro h
    have hm : (y : Int) ∈ o.take i := by simpa using h
    obtain ⟨j, hj, hje⟩ := List.mem_iff_getElem.1 hm
    rw [List.length_take] at hj
    rw [List.getElem_take] at hje
    have := List.pairwise_iff_getElem.1 hd j i (by omega) hi (by omega)
    exact this (by rw [hje, hy])
  have hg : (metL o i n)[y]'(by omega) = false := by
    rw [metL_get]; exact hnot
  refine ⟨?_, ?_⟩
  · have e := List.drop_eq_getElem_cons (l := metL o i n) (i := y) (by omega)
    rw [hg] at e
    rw [← e, List.take_append_drop]
  · have e : metL o (i + 1) n = (metL o i n).set y true := by
      apply List.ext_getElem
      · rw [List.length_set, metL_length, metL_length]
      · intro k h1 h2
        rw [List.getElem_set, metL_get, metL_get]
        rw [List.take_succ_eq_append_getElem hi, hy]
        by_cases e : y = k
        · subst e; simp
        · have : ¬ (y : Int) = (k : Int) := by omega
          have h3 : ¬ (k : Int) = (y : Int) := by omega
          simp [e, h3]
    rw [e, List.set_eq_take_append_cons_drop, if_pos (by omega)]
end Go.Proofs.Ytboblpmpklofgaa
