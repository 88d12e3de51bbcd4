/-
  Plain: the stable order of a list; what an exchange of neighbours, of blocks, a rotation and a merge in place do to it.
-/
import Derived.Test.YtnolbabpkhdpmaaGreatBase
import Derived.Shelf.GgSortFunc.RowK
namespace Go.Proofs.YtnolbabpkhdpmaaGreat
open Go.Sort

section
variable {α : Type} (lt : α → α → Bool)

/-- x put ahead of the first one that is not less than it. -/
def insL (x : α) : List α → List α
  | [] => [x]
  | y :: l => if lt y x then y :: insL x l else x :: y :: l

/-- The stable order. -/
def isortL (l : List α) : List α := l.foldr (insL lt) []

/-- Alike for the order: put ahead of whatever. -/
def Eqv (l m : List α) : Prop := ∀ s, l.foldr (insL lt) s = m.foldr (insL lt) s

/-- Ascending. -/
def Asc (l : List α) : Prop := l.Pairwise (fun a b => lt b a = false)
end

section
variable {α : Type} {lt : α → α → Bool}

theorem insL_comm [Inhabited α] (h : SWO lt) {x y : α} (hyx : lt y x = true) : ∀ s, insL lt x (insL lt y s) = insL lt y (insL lt x s)
  | [] => by
    have hxy : lt x y = false := by
      cases hb : lt x y with
      | false => rfl
      | true => have := h.trans _ _ _ hb hyx; rw [h.irrefl] at this; cases this
    simp [insL, hyx, hxy]
  | z :: s => by
    have hxy : lt x y = false := by
      cases hb : lt x y with
      | false => rfl
      | true => have := h.trans _ _ _ hb hyx; rw [h.irrefl] at this; cases this
    have ih := insL_comm h hyx s
    cases hzy : lt z y
    · cases hzx : lt z x
      · simp [insL, hzy, hzx, hyx, hxy]
      · simp [insL, hzy, hzx, hyx]
    · have hzx := h.trans _ _ _ hzy hyx
      simp [insL, hzy, hzx, ih]

theorem Eqv.refl (l : List α) : Eqv lt l l := fun _ => rfl
theorem Eqv.trans {a b c : List α} (h : Eqv lt a b) (k : Eqv lt b c) : Eqv lt a c := fun s => (h s).trans (k s)
theorem Eqv.symm {a b : List α} (h : Eqv lt a b) : Eqv lt b a := fun s => (h s).symm
theorem Eqv.app {a b c d : List α} (h : Eqv lt a b) (k : Eqv lt c d) : Eqv lt (a ++ c) (b ++ d) := fun s => by
  rw [List.foldr_append, List.foldr_append, k s, h]
theorem Eqv.mid (p s : List α) {a b : List α} (h : Eqv lt a b) : Eqv lt (p ++ a ++ s) (p ++ b ++ s) := ((Eqv.refl p).app h).app (Eqv.refl s)
theorem Eqv.swap [Inhabited α] (h : SWO lt) {x y : α} (hyx : lt y x = true) : Eqv lt [x, y] [y, x] := fun s => insL_comm h hyx s

theorem Eqv.past [Inhabited α] (h : SWO lt) (x : α) : ∀ (v : List α), (∀ y ∈ v, lt y x = true) → Eqv lt (x :: v) (v ++ [x])
  | [], _ => Eqv.refl _
  | y :: v, hv => by
    have h1 : Eqv lt ([x, y] ++ v) ([y, x] ++ v) := (Eqv.swap h (hv y (by simp))).app (Eqv.refl v)
    have h2 : Eqv lt ([y] ++ (x :: v)) ([y] ++ (v ++ [x])) := (Eqv.refl [y]).app (Eqv.past h x v fun z hz => hv z (by simp [hz]))
    exact h1.trans h2

theorem Eqv.blocks [Inhabited α] (h : SWO lt) : ∀ (u v : List α), (∀ x ∈ u, ∀ y ∈ v, lt y x = true) → Eqv lt (u ++ v) (v ++ u)
  | [], v, _ => by simpa using Eqv.refl v
  | x :: u, v, huv => by
    have h1 : Eqv lt ([x] ++ (u ++ v)) ([x] ++ (v ++ u)) := (Eqv.refl [x]).app (Eqv.blocks h u v fun z hz => huv z (by simp [hz]))
    have h2 : Eqv lt ((x :: v) ++ u) ((v ++ [x]) ++ u) := (Eqv.past h x v (huv x (by simp))).app (Eqv.refl u)
    have h3 := h1.trans h2
    simpa using h3

theorem insL_perm (x : α) : ∀ l, (insL lt x l).Perm (x :: l)
  | [] => List.Perm.refl _
  | y :: l => by
    unfold insL
    split
    · exact ((insL_perm x l).cons y).trans (List.Perm.swap x y l)
    · exact List.Perm.refl _

theorem isortL_perm : ∀ l : List α, (isortL lt l).Perm l
  | [] => List.Perm.refl _
  | x :: l => (insL_perm x _).trans ((isortL_perm l).cons x)

theorem Eqv.isort {l m : List α} (h : Eqv lt l m) : isortL lt l = isortL lt m := h []
theorem Eqv.perm {l m : List α} (h : Eqv lt l m) : l.Perm m := (isortL_perm l).symm.trans (by rw [h.isort]; exact isortL_perm m)

theorem isortL_of_asc : ∀ {l : List α}, Asc lt l → isortL lt l = l
  | [], _ => rfl
  | x :: l, h => by
    have h' := List.pairwise_cons.1 h
    show insL lt x (isortL lt l) = _
    rw [isortL_of_asc h'.2]
    cases l with
    | nil => rfl
    | cons y l => simp [insL, h'.1 y (by simp)]

/-- What is in order, and alike, is the stable order. -/
theorem eq_isort {l m : List α} (h : Eqv lt l m) (ha : Asc lt m) : m = isortL lt l := by
  rw [h.isort, isortL_of_asc ha]

theorem isortL_length (l : List α) : (isortL lt l).length = l.length := (isortL_perm l).length_eq

theorem Asc.app {a b : List α} : Asc lt (a ++ b) ↔ Asc lt a ∧ Asc lt b ∧ ∀ x ∈ a, ∀ y ∈ b, lt y x = false := by
  unfold Asc; rw [List.pairwise_append]

theorem Asc.get [Inhabited α] {l : List α} (h : Asc lt l) {i j : Nat} (hij : i < j) (hj : j < l.length) : lt l[j] (l[i]'(by omega)) = false :=
  List.pairwise_iff_getElem.1 h i j (by omega) hj hij

theorem asc_ge [Inhabited α] (h : SWO lt) {l : List α} (ha : Asc lt l) {i j : Nat} (hij : i ≤ j) (hj : j < l.length) : lt l[j] (l[i]'(by omega)) = false := by
  by_cases e : i = j
  · subst e; exact h.irrefl _
  · exact ha.get (by omega) hj

/-- less than one that is not greater -/
theorem lt_of_lt_nlt [Inhabited α] (h : SWO lt) {x y z : α} (h1 : lt x y = true) (h2 : lt z y = false) : lt x z = true := by
  cases hb : lt x z with
  | true => rfl
  | false => have := h.ntrans _ _ _ hb h2; rw [h1] at this; cases this
theorem lt_of_nlt_lt [Inhabited α] (h : SWO lt) {x y z : α} (h1 : lt y x = false) (h2 : lt y z = true) : lt x z = true := by
  cases hb : lt x z with
  | true => rfl
  | false => have := h.ntrans _ _ _ h1 hb; rw [h2] at this; cases this
theorem asymm [Inhabited α] (h : SWO lt) {x y : α} (h1 : lt x y = true) : lt y x = false := by
  cases hb : lt y x with
  | false => rfl
  | true => have := h.trans _ _ _ h1 hb; rw [h.irrefl] at this; cases this

theorem foldr_insL [Inhabited α] (h : SWO lt) (x : α) : ∀ (m s : List α), (insL lt x m).foldr (insL lt) s = insL lt x (m.foldr (insL lt) s)
  | [], _ => rfl
  | y :: m, s => by
    by_cases hyx : lt y x = true
    · rw [show insL lt x (y :: m) = y :: insL lt x m by simp [insL, hyx], List.foldr_cons, foldr_insL h x m s, List.foldr_cons, ← insL_comm h hyx]
    · rw [show insL lt x (y :: m) = x :: y :: m by simp [insL, hyx]]; rfl

theorem Eqv.sorted [Inhabited α] (h : SWO lt) : ∀ l : List α, Eqv lt l (isortL lt l)
  | [], _ => rfl
  | x :: l, s => by
    show insL lt x (l.foldr (insL lt) s) = (insL lt x (isortL lt l)).foldr (insL lt) s
    rw [foldr_insL h, Eqv.sorted h l s]

theorem insL_asc [Inhabited α] (h : SWO lt) (x : α) : ∀ {m : List α}, Asc lt m → Asc lt (insL lt x m)
  | [], _ => List.pairwise_singleton _ _
  | y :: m, hm => by
    have hm' := List.pairwise_cons.1 hm
    unfold insL
    split
    · rename_i hyx
      refine List.pairwise_cons.2 ⟨fun z hz => ?_, insL_asc h x hm'.2⟩
      rcases List.mem_cons.1 ((insL_perm x m).mem_iff.1 hz) with rfl | hz
      · exact asymm h hyx
      · exact hm'.1 z hz
    · rename_i hyx
      refine List.pairwise_cons.2 ⟨fun z hz => ?_, hm⟩
      rcases List.mem_cons.1 hz with rfl | hz
      · simpa using hyx
      · exact h.ntrans _ _ _ (hm'.1 z hz) (by simpa using hyx)

theorem isortL_asc [Inhabited α] (h : SWO lt) : ∀ l : List α, Asc lt (isortL lt l)
  | [] => List.Pairwise.nil
  | x :: l => insL_asc h x (isortL_asc h l)

/-- One more put in from behind: the place is found. -/
theorem ins_end [Inhabited α] (h : SWO lt) {u X Y : List α} {x : α} (he : isortL lt u = X ++ Y) (hY : ∀ y ∈ Y, lt x y = true) (hX : ∀ z, X.getLast? = some z → lt x z = false) : isortL lt (u ++ [x]) = X ++ x :: Y := by
  have ha := isortL_asc h u
  rw [he] at ha
  obtain ⟨a1, a2, a3⟩ := Asc.app.1 ha
  refine (eq_isort ?_ ?_).symm
  · have h1 : Eqv lt (u ++ [x]) ((X ++ Y) ++ [x]) := by rw [← he]; exact (Eqv.sorted h u).app (Eqv.refl _)
    have h2 : Eqv lt (X ++ (Y ++ [x])) (X ++ ([x] ++ Y)) := (Eqv.refl X).app (Eqv.blocks h Y [x] fun z hz y hy => by rw [List.mem_singleton.1 hy]; exact hY z hz)
    rw [List.append_assoc] at h1
    exact h1.trans h2
  · refine Asc.app.2 ⟨a1, List.pairwise_cons.2 ⟨fun y hy => asymm h (hY y hy), a2⟩, fun z hz y hy => ?_⟩
    rcases List.mem_cons.1 hy with rfl | hy
    · cases hl : X.getLast? with
      | none => rw [List.getLast?_eq_none_iff] at hl; subst hl; cases hz
      | some q =>
        have hq := hX q hl
        obtain ⟨X', rfl⟩ : ∃ X', X = X' ++ [q] := by
          obtain ⟨ys, hys⟩ := List.getLast?_eq_some_iff.1 hl
          exact ⟨ys, hys⟩
        rcases List.mem_append.1 hz with hz | hz
        · have := (Asc.app.1 a1).2.2 z hz q (by simp)
          exact h.ntrans _ _ _ hq this
        · rw [List.mem_singleton.1 hz]; exact hq
    · exact a3 z hz y hy

/-- One ahead of what is in order. -/
theorem merge_one [Inhabited α] (h : SWO lt) {V : List α} {x : α} {p : Nat} (hV : Asc lt V) (hlo : ∀ y, 0 < p → V[p - 1]? = some y → lt y x = true) (hhi : ∀ y, V[p]? = some y → lt y x = false) (hp : p ≤ V.length) :
    isortL lt ([x] ++ V) = V.take p ++ x :: V.drop p := by
  have h1 : ∀ y ∈ V.take p, lt y x = true := by
    intro y hy
    obtain ⟨t, ht, rfl⟩ := List.mem_iff_getElem.1 hy
    rw [List.length_take] at ht
    have hl := hlo _ (by omega) (List.getElem?_eq_getElem (by omega : p - 1 < V.length))
    rw [List.getElem_take]
    exact lt_of_nlt_lt h (asc_ge h hV (i := t) (j := p - 1) (by omega) (by omega)) hl
  have h2 : ∀ y ∈ V.drop p, lt y x = false := by
    intro y hy
    obtain ⟨t, ht, rfl⟩ := List.mem_iff_getElem.1 hy
    rw [List.length_drop] at ht
    have hl := hhi _ (List.getElem?_eq_getElem (by omega : p < V.length))
    rw [List.getElem_drop]
    exact h.ntrans _ _ _ (asc_ge h hV (i := p) (j := p + t) (by omega) (by omega)) hl
  have hVs : Asc lt (V.take p ++ V.drop p) := by rw [List.take_append_drop]; exact hV
  obtain ⟨a1, a2, a3⟩ := Asc.app.1 hVs
  refine (eq_isort ?_ ?_).symm
  · have e1 : Eqv lt (x :: V.take p) (V.take p ++ [x]) := Eqv.past h x _ h1
    have := e1.app (Eqv.refl (V.drop p))
    simpa using this
  · refine Asc.app.2 ⟨a1, List.pairwise_cons.2 ⟨h2, a2⟩, fun z hz y hy => ?_⟩
    rcases List.mem_cons.1 hy with rfl | hy
    · exact asymm h (h1 z hz)
    · exact a3 z hz y hy

/-- One behind what is in order. -/
theorem merge_last [Inhabited α] (h : SWO lt) {U : List α} {y : α} {p : Nat} (hU : Asc lt U) (hlo : ∀ x, 0 < p → U[p - 1]? = some x → lt y x = false) (hhi : ∀ x, U[p]? = some x → lt y x = true) (hp : p ≤ U.length) :
    isortL lt (U ++ [y]) = U.take p ++ y :: U.drop p := by
  refine ins_end h (by rw [isortL_of_asc hU, List.take_append_drop]) ?_ ?_
  · intro x hx
    obtain ⟨t, ht, rfl⟩ := List.mem_iff_getElem.1 hx
    rw [List.length_drop] at ht
    have hl := hhi _ (List.getElem?_eq_getElem (by omega : p < U.length))
    rw [List.getElem_drop]
    exact lt_of_lt_nlt h hl (asc_ge h hU (i := p) (j := p + t) (by omega) (by omega))
  · intro z hz
    rw [List.getLast?_eq_getElem?, List.length_take, Nat.min_eq_left hp] at hz
    have h0 : 0 < p := by
      rcases Nat.eq_zero_or_pos p with e | e
      · subst e; simp at hz
      · exact e
    rw [List.getElem?_take_of_lt (by omega)] at hz
    exact hlo z h0 hz

/-- The halves of a merge in place. -/
theorem merge_halves [Inhabited α] (h : SWO lt) {U V : List α} {u s : Nat} (hU : Asc lt U) (hV : Asc lt V) (hsu : s ≤ u) (hsU : s ≤ U.length) (hsV : u - s ≤ V.length)
    (hlo : ∀ x y, 0 < s → U[s - 1]? = some x → V[u - s]? = some y → lt y x = false) (hhi : ∀ x y, s < u → U[s]? = some x → V[u - s - 1]? = some y → lt y x = true) :
    isortL lt (U ++ V) = isortL lt (U.take s ++ V.take (u - s)) ++ isortL lt (U.drop s ++ V.drop (u - s)) := by
  have h1 : ∀ x ∈ U.drop s, ∀ y ∈ V.take (u - s), lt y x = true := by
    intro x hx y hy
    obtain ⟨i, hi, rfl⟩ := List.mem_iff_getElem.1 hx
    obtain ⟨j, hj, rfl⟩ := List.mem_iff_getElem.1 hy
    rw [List.length_drop] at hi
    rw [List.length_take] at hj
    have hl := hhi _ _ (by omega) (List.getElem?_eq_getElem (by omega : s < U.length)) (List.getElem?_eq_getElem (by omega : u - s - 1 < V.length))
    rw [List.getElem_drop, List.getElem_take]
    exact lt_of_lt_nlt h (lt_of_nlt_lt h (asc_ge h hV (i := j) (j := u - s - 1) (by omega) (by omega)) hl) (asc_ge h hU (i := s) (j := s + i) (by omega) (by omega))
  have h2 : ∀ x ∈ U.take s, ∀ y ∈ V.drop (u - s), lt y x = false := by
    intro x hx y hy
    obtain ⟨i, hi, rfl⟩ := List.mem_iff_getElem.1 hx
    obtain ⟨j, hj, rfl⟩ := List.mem_iff_getElem.1 hy
    rw [List.length_take] at hi
    rw [List.length_drop] at hj
    have hl := hlo _ _ (by omega) (List.getElem?_eq_getElem (by omega : s - 1 < U.length)) (List.getElem?_eq_getElem (by omega : u - s < V.length))
    rw [List.getElem_take, List.getElem_drop]
    exact h.ntrans _ _ _ (asc_ge h hV (i := u - s) (j := u - s + j) (by omega) (by omega)) (h.ntrans _ _ _ hl (asc_ge h hU (i := i) (j := s - 1) (by omega) (by omega)))
  have hUs : Asc lt (U.take s ++ U.drop s) := by rw [List.take_append_drop]; exact hU
  have hVs : Asc lt (V.take (u - s) ++ V.drop (u - s)) := by rw [List.take_append_drop]; exact hV
  obtain ⟨_, _, a3⟩ := Asc.app.1 hUs
  obtain ⟨_, _, b3⟩ := Asc.app.1 hVs
  refine (eq_isort ?_ ?_).symm
  · have e0 : U ++ V = U.take s ++ (U.drop s ++ V.take (u - s)) ++ V.drop (u - s) := by
      rw [List.append_assoc, List.append_assoc, List.take_append_drop, ← List.append_assoc, List.take_append_drop]
    rw [e0]
    have e1 := Eqv.mid (U.take s) (V.drop (u - s)) (Eqv.blocks h _ _ h1)
    have e2 := (Eqv.sorted h (U.take s ++ V.take (u - s))).app (Eqv.sorted h (U.drop s ++ V.drop (u - s)))
    refine e1.trans ?_
    simpa using e2
  · refine Asc.app.2 ⟨isortL_asc h _, isortL_asc h _, fun l hl r hr => ?_⟩
    have hl := (isortL_perm _).mem_iff.1 hl
    have hr := (isortL_perm _).mem_iff.1 hr
    rcases List.mem_append.1 hl with hl | hl <;> rcases List.mem_append.1 hr with hr | hr
    · exact a3 _ hl _ hr
    · exact h2 _ hl _ hr
    · exact asymm h (h1 _ hr _ hl)
    · exact b3 _ hl _ hr

/-- The exchange of two places. -/
theorem swp_list [Inhabited α] {d : Array α} {P M R : List α} {x y : α} (hd : d.toList = P ++ x :: (M ++ y :: R)) {i j : Nat} (hi : i = P.length) (hj : j = P.length + 1 + M.length) : (swp d i j).toList = P ++ y :: (M ++ x :: R) := by
  obtain ⟨l⟩ := d
  simp only at hd
  subst hd hi hj
  have hx : (⟨P ++ x :: (M ++ y :: R)⟩ : Array α)[P.length]! = x := by
    rw [getElem!_pos _ _ (by simp)]; simp
  have hy : (⟨P ++ x :: (M ++ y :: R)⟩ : Array α)[P.length + 1 + M.length]! = y := by
    rw [show P ++ x :: (M ++ y :: R) = (P ++ x :: M) ++ y :: R by simp, show P.length + 1 + M.length = (P ++ x :: M).length by simp; omega, getElem!_pos _ _ (by simp)]
    simp
  unfold swp
  rw [hx, hy]
  simp only [List.setIfInBounds_toArray]
  rw [List.set_append_right _ _ (Nat.le_refl _)]
  simp only [Nat.sub_self, List.set_cons_zero]
  rw [List.set_append_right _ _ (by omega)]
  rw [show P.length + 1 + M.length - P.length = M.length + 1 by omega]
  simp [List.set_append_right]

theorem swp_list' [Inhabited α] {d : Array α} {P M R : List α} {x y : α} (hd : d.toList = P ++ x :: (M ++ y :: R)) {i j : Nat} (hi : i = P.length) (hj : j = P.length + 1 + M.length) : (swp d j i).toList = P ++ y :: (M ++ x :: R) := by
  obtain ⟨l⟩ := d
  simp only at hd
  subst hd hi hj
  have hx : (⟨P ++ x :: (M ++ y :: R)⟩ : Array α)[P.length]! = x := by
    rw [getElem!_pos _ _ (by simp)]; simp
  have hy : (⟨P ++ x :: (M ++ y :: R)⟩ : Array α)[P.length + 1 + M.length]! = y := by
    rw [show P ++ x :: (M ++ y :: R) = (P ++ x :: M) ++ y :: R by simp, show P.length + 1 + M.length = (P ++ x :: M).length by simp; omega, getElem!_pos _ _ (by simp)]
    simp
  unfold swp
  rw [hx, hy]
  simp only [List.setIfInBounds_toArray]
  rw [List.set_append_right _ _ (by omega)]
  rw [show P.length + 1 + M.length - P.length = M.length + 1 by omega]
  simp [List.set_append_right]

theorem get_mid [Inhabited α] {d : Array α} {P R : List α} {x : α} (hd : d.toList = P ++ x :: R) {i : Nat} (hi : i = P.length) : d[i]! = x := by
  obtain ⟨l⟩ := d
  simp only at hd
  subst hd hi
  rw [getElem!_pos _ _ (by simp)]; simp

end
end Go.Proofs.YtnolbabpkhdpmaaGreat
