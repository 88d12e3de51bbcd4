/-
  Layer 9, plain: places, what comes of puts, takes and joins.
-/
import Derived.Test.YtnpciogpegmejaaMP
namespace Go.Proofs.Ytnpciogpegmejaa
open Go.RowKit Go.Sort

/-- Which of two parts stands first: by number, then by dot. -/
def ltQ (x y : Prt) : Bool := if x.v.n = y.v.n then ltD x.d y.d else decide (x.v.n < y.v.n)
def cmpQ (x y : Prt) : Int := if cmpI x.v.n y.v.n = 0 then cmpD x.d y.d else cmpI x.v.n y.v.n
/-- Are two parts of one number and one dot? -/
def eqQ (x y : Prt) : Bool := decide (x.v.n = y.v.n) && decide (x.d = y.d)

theorem eqQ_iff {x y : Prt} : eqQ x y = true ↔ x.v.n = y.v.n ∧ x.d = y.d := by simp [eqQ]
theorem ltQ_irrefl (x : Prt) : ltQ x x = false := by simp [ltQ, ltD_irrefl]
theorem ltQ_trans {x y z : Prt} (h : ltQ x y = true) (k : ltQ y z = true) : ltQ x z = true := by
  unfold ltQ at *
  split at h <;> split at k
  · rw [if_pos (by omega)]; exact ltD_trans h k
  · rw [if_neg (by omega)]; simp at k ⊢; omega
  · rw [if_neg (by omega)]; simp at h ⊢; omega
  · simp at h k; rw [if_neg (by omega)]; simp; omega
theorem ltQ_asymm {x y : Prt} (h : ltQ x y = true) : ltQ y x = false := by
  cases k : ltQ y x with
  | false => rfl
  | true => have := ltQ_trans h k; rw [ltQ_irrefl] at this; cases this
theorem ltQ_tri {x y : Prt} (h : ltQ x y = false) (k : ltQ y x = false) : eqQ x y = true := by
  rw [eqQ_iff]
  unfold ltQ at *
  by_cases e : x.v.n = y.v.n
  · rw [if_pos e] at h
    rw [if_pos e.symm] at k
    exact ⟨e, ltD_tri h k⟩
  · rw [if_neg e] at h
    rw [if_neg (fun h => e h.symm)] at k
    simp at h k
    omega
theorem ltQ_ne {x y : Prt} (h : ltQ x y = true) : eqQ x y = false := by
  cases k : eqQ x y with
  | false => rfl
  | true =>
    obtain ⟨h1, h2⟩ := eqQ_iff.1 k
    unfold ltQ at h
    rw [if_pos h1, h2, ltD_irrefl] at h
    cases h
theorem eqQ_symm {x y : Prt} (h : eqQ x y = true) : eqQ y x = true := by
  obtain ⟨h1, h2⟩ := eqQ_iff.1 h
  exact eqQ_iff.2 ⟨h1.symm, h2.symm⟩
/-- The order looks at the place alone. -/
theorem ltQ_congr_l {x y z : Prt} (h : eqQ x y = true) : ltQ x z = ltQ y z := by
  obtain ⟨h1, h2⟩ := eqQ_iff.1 h
  unfold ltQ; rw [h1, h2]
theorem ltQ_congr_r {x y z : Prt} (h : eqQ x y = true) : ltQ z x = ltQ z y := by
  obtain ⟨h1, h2⟩ := eqQ_iff.1 h
  unfold ltQ; rw [h1, h2]
theorem swoQ : SWO ltQ where
  irrefl x := ltQ_irrefl x
  trans x y z h k := ltQ_trans h k
  ntrans x y z h k := by
    cases e : ltQ x z with
    | false => rfl
    | true =>
      cases f : ltQ y x with
      | true => have := ltQ_trans f e; rw [k] at this; cases this
      | false => rw [ltQ_congr_l (ltQ_tri h f), k] at e; cases e

theorem cmpQ_neg (x y : Prt) : decide (cmpQ x y < 0) = ltQ x y := by
  unfold cmpQ ltQ
  by_cases h : x.v.n = y.v.n
  · rw [if_pos ((cmpI_zero _ _).2 h), if_pos h]; exact cmpD_neg _ _
  · rw [if_neg (fun e => h ((cmpI_zero _ _).1 e)), if_neg h]; exact decide_eq_decide.2 (cmpI_neg _ _)
theorem cmpQ_zero (x y : Prt) : (cmpQ x y == 0) = eqQ x y := by
  have hd : ∀ a b : Dt, cmpD a b = 0 ↔ a = b := by
    intro a b
    obtain ⟨a1, a2⟩ := a
    obtain ⟨b1, b2⟩ := b
    unfold cmpD
    simp only [Dt.mk.injEq]
    by_cases h : a1 = b1
    · rw [if_pos ((cmpI_zero _ _).2 h)]
      exact ⟨fun e => ⟨h, (cmpI_zero _ _).1 e⟩, fun e => (cmpI_zero _ _).2 e.2⟩
    · rw [if_neg (fun e => h ((cmpI_zero _ _).1 e))]
      exact ⟨fun e => absurd ((cmpI_zero _ _).1 e) h, fun e => absurd e.1 h⟩
  rw [Bool.eq_iff_iff, eqQ_iff, beq_iff_eq]
  unfold cmpQ
  by_cases h : x.v.n = y.v.n
  · rw [if_pos ((cmpI_zero _ _).2 h)]
    exact ⟨fun e => ⟨h, (hd _ _).1 e⟩, fun e => (hd _ _).2 e.2⟩
  · rw [if_neg (fun e => h ((cmpI_zero _ _).1 e))]
    exact ⟨fun e => absurd ((cmpI_zero _ _).1 e) h, fun e => absurd e.1 h⟩
theorem cmpQ_nonneg (x y : Prt) : decide (0 ≤ cmpQ x y) = !ltQ x y := by
  rw [← cmpQ_neg]
  by_cases h : cmpQ x y < 0
  · rw [decide_eq_true h, decide_eq_false (by omega)]; rfl
  · rw [decide_eq_false h, decide_eq_true (by omega)]; rfl
/-- Is a part of that place among others? -/
def inQ (l : List Prt) (p : Prt) : Bool := l.any fun q => eqQ q p
theorem inQ_iff {l : List Prt} {p : Prt} : inQ l p = true ↔ ∃ q ∈ l, q.v.n = p.v.n ∧ q.d = p.d := by
  unfold inQ
  rw [List.any_eq_true]
  exact ⟨fun ⟨q, hq, h⟩ => ⟨q, hq, eqQ_iff.1 h⟩, fun ⟨q, hq, h⟩ => ⟨q, hq, eqQ_iff.2 h⟩⟩
theorem inQ_mem {l : List Prt} {p : Prt} (h : p ∈ l) : inQ l p = true := inQ_iff.2 ⟨p, h, rfl, rfl⟩

/-- A part put behind all those that it is not ahead of. -/
def putQ (p : Prt) (l : List Prt) : List Prt := l.takeWhile (fun y => !ltQ p y) ++ p :: l.dropWhile (fun y => !ltQ p y)
theorem putQ_length (p : Prt) (l : List Prt) : (putQ p l).length = l.length + 1 := by
  unfold putQ
  rw [List.length_append, List.length_cons]
  have := congrArg List.length (List.takeWhile_append_dropWhile (p := fun y => !ltQ p y) (l := l))
  rw [List.length_append] at this
  omega
theorem mem_putQ {p x : Prt} {l : List Prt} : x ∈ putQ p l ↔ x = p ∨ x ∈ l := by
  unfold putQ
  have h : x ∈ l ↔ x ∈ l.takeWhile (fun y => !ltQ p y) ∨ x ∈ l.dropWhile (fun y => !ltQ p y) := by
    rw [← List.mem_append, List.takeWhile_append_dropWhile]
  rw [h, List.mem_append, List.mem_cons]
  constructor
  · rintro (h | h | h)
    · exact .inr (.inl h)
    · exact .inl h
    · exact .inr (.inr h)
  · rintro (h | h | h)
    · exact .inr (.inl h)
    · exact .inl h
    · exact .inr (.inr h)

theorem putQ_asc {p : Prt} {l : List Prt} (ha : Asc ltQ l) : (∀ y ∈ l.dropWhile (fun y => !ltQ p y), ltQ p y = true) := by
  intro y hy
  have he := List.takeWhile_append_dropWhile (p := fun y => !ltQ p y) (l := l)
  rcases hd : l.dropWhile (fun y => !ltQ p y) with _ | ⟨z, r⟩
  · rw [hd] at hy; cases hy
  · have hz := drop_head l z r hd
    rw [hd] at hy he
    simp only [Bool.not_eq_eq_eq_not, Bool.not_false] at hz
    rcases List.mem_cons.1 hy with rfl | hy
    · exact hz
    · rw [← he] at ha
      have hzy := (List.pairwise_cons.1 (List.pairwise_append.1 ha).2.1).1 y hy
      exact lt_of_lt_nlt swoQ hz hzy
/-- Put one by one: the stable order. -/
theorem putQ_isort (p : Prt) (u : List Prt) : putQ p (isortL ltQ u) = isortL ltQ (u ++ [p]) := by
  refine (ins_end swoQ (List.takeWhile_append_dropWhile (p := fun y => !ltQ p y) (l := isortL ltQ u)).symm (putQ_asc (isortL_asc swoQ u)) fun z hz => ?_).symm
  have := take_all (p := fun y => !ltQ p y) (isortL ltQ u) z (List.mem_of_getLast? hz)
  simpa using this

abbrev RiseQ (l : List Prt) : Prop := l.Pairwise fun x y => ltQ x y = true
theorem putQ_rise {p : Prt} {l : List Prt} (h : RiseQ l) (hne : inQ l p = false) : RiseQ (putQ p l) := by
  have ha : Asc ltQ l := h.imp fun hab => ltQ_asymm hab
  have he := List.takeWhile_append_dropWhile (p := fun y => !ltQ p y) (l := l)
  have hd := putQ_asc (p := p) ha
  have hlow : ∀ y ∈ l.takeWhile (fun y => !ltQ p y), ltQ y p = true := by
    intro y hy
    have h1 := take_all (p := fun y => !ltQ p y) l y hy
    simp only [Bool.not_eq_eq_eq_not, Bool.not_true] at h1
    have hym : y ∈ l := by rw [← he]; exact List.mem_append_left _ hy
    cases h2 : ltQ y p with
    | true => rfl
    | false =>
      have := inQ_iff.2 ⟨y, hym, eqQ_iff.1 (ltQ_tri h2 h1)⟩
      rw [hne] at this; cases this
  rw [← he] at h
  obtain ⟨h1, h2, h3⟩ := List.pairwise_append.1 h
  unfold putQ
  refine List.pairwise_append.2 ⟨h1, List.pairwise_cons.2 ⟨hd, h2⟩, fun x hx y hy => ?_⟩
  rcases List.mem_cons.1 hy with rfl | hy
  · exact hlow x hx
  · exact h3 x hx y hy

/-- Rising rows of the same parts are one. -/
theorem riseQ_unique : ∀ {l m : List Prt}, RiseQ l → RiseQ m → (∀ x, x ∈ l ↔ x ∈ m) → l = m
  | [], [], _, _, _ => rfl
  | [], y :: m, _, _, h => by have := (h y).2 (by simp); cases this
  | x :: l, [], _, _, h => by have := (h x).1 (by simp); cases this
  | x :: l, y :: m, hl, hm, h => by
    obtain ⟨l1, l2⟩ := List.pairwise_cons.1 hl
    obtain ⟨m1, m2⟩ := List.pairwise_cons.1 hm
    have hxy : x = y := by
      rcases List.mem_cons.1 ((h x).1 (by simp)) with e | hx
      · exact e
      · rcases List.mem_cons.1 ((h y).2 (by simp)) with e | hy
        · exact e.symm
        · have h1 := m1 x hx
          have h2 := l1 y hy
          rw [ltQ_asymm h1] at h2; cases h2
    subst hxy
    congr 1
    refine riseQ_unique l2 m2 fun z => ?_
    have hz := h z
    simp only [List.mem_cons] at hz
    constructor
    · intro hzl
      rcases hz.1 (.inr hzl) with rfl | h'
      · have := l1 z hzl; rw [ltQ_irrefl] at this; cases this
      · exact h'
    · intro hzm
      rcases hz.2 (.inr hzm) with rfl | h'
      · have := m1 z hzm; rw [ltQ_irrefl] at this; cases this
      · exact h'
/-- The stable order of parts whose places are all unlike rises. -/
theorem isortQ_rise {l : List Prt} (h : l.Pairwise fun x y => eqQ x y = false) : RiseQ (isortL ltQ l) := by
  have ha : Asc ltQ (isortL ltQ l) := isortL_asc swoQ l
  have hp : (isortL ltQ l).Perm l := isortL_perm l
  have hn : (isortL ltQ l).Pairwise fun x y => eqQ x y = false := hp.symm.pairwise h fun {a b} hab => by
    cases k : eqQ b a with
    | false => rfl
    | true => rw [eqQ_symm k] at hab; cases hab
  refine (List.Pairwise.and ha hn).imp fun {a b} hab => ?_
  cases e : ltQ a b with
  | true => rfl
  | false => have := ltQ_tri e hab.1; rw [hab.2] at this; cases this
/-- In a rising row a place tells its part. -/
theorem riseQ_place {l : List Prt} (h : RiseQ l) {x y : Prt} (hx : x ∈ l) (hy : y ∈ l) (e : eqQ x y = true) : x = y := by
  induction l with
  | nil => cases hx
  | cons z l ih =>
    obtain ⟨h1, h2⟩ := List.pairwise_cons.1 h
    rcases List.mem_cons.1 hx with hx' | hx' <;> rcases List.mem_cons.1 hy with hy' | hy'
    · rw [hx', hy']
    · subst hx'; rw [ltQ_ne (h1 y hy')] at e; cases e
    · subst hy'; have := eqQ_symm e; rw [ltQ_ne (h1 x hx')] at this; cases this
    · exact ih h2 hx' hy'

/-- The part of a number and a dot. -/
def numP (n : Int) (d : Dt) : Prt := bareP ⟨1, n, ⟨#[]⟩⟩ d
/-- A number put. -/
def addQ (l : List Prt) (n : Int) (d : Dt) : List Prt := if inQ l (numP n d) then l else putQ (numP n d) l
/-- A part stays behind a take. -/
def stayQ (n : Int) (d : Dt) (knew : List Int) (p : Prt) : Bool := !decide (p.v.n = n) || (!decide (p.d = d) && !hasV knew p.d)
def takeQ (l : List Prt) (n : Int) (d : Dt) (knew : List Int) : List Prt := l.filter (stayQ n d knew)
def keepQ (b : List Prt) (kb : List Int) (p : Prt) : Bool := inQ b p || !hasV kb p.d
def keepQ2 (a : List Prt) (ka : List Int) (p : Prt) : Bool := !inQ a p && !hasV ka p.d
/-- Two copies joined. -/
def joinQ (a b : List Prt) (ka kb : List Int) : List Prt := isortL ltQ (a.filter (keepQ b kb) ++ b.filter (keepQ2 a ka))
/-- A number is in a row. -/
def hasN (l : List Prt) (n : Int) : Bool := l.any fun p => decide (p.v.n = n)
theorem hasN_iff {l : List Prt} {n : Int} : hasN l n = true ↔ ∃ p ∈ l, p.v.n = n := by simp [hasN]

theorem mem_addQ {l : List Prt} {n : Int} {d : Dt} {x : Prt} : x ∈ addQ l n d ↔ (x = numP n d ∧ inQ l (numP n d) = false) ∨ x ∈ l := by
  unfold addQ
  cases h : inQ l (numP n d)
  · simp [mem_putQ]
  · simp
theorem addQ_length (l : List Prt) (n : Int) (d : Dt) : l.length ≤ (addQ l n d).length ∧ (addQ l n d).length ≤ l.length + 1 := by
  unfold addQ
  split
  · omega
  · rw [putQ_length]; omega
theorem addQ_rise {l : List Prt} (h : RiseQ l) (n : Int) (d : Dt) : RiseQ (addQ l n d) := by
  unfold addQ
  split
  · exact h
  · rename_i hn; exact putQ_rise h (by simpa using hn)
theorem addQ_in (l : List Prt) (n : Int) (d : Dt) : inQ (addQ l n d) (numP n d) = true := by
  rw [inQ_iff]
  cases h : inQ l (numP n d)
  · exact ⟨numP n d, mem_addQ.2 (.inl ⟨rfl, h⟩), rfl, rfl⟩
  · obtain ⟨q, hq, h1⟩ := inQ_iff.1 h
    exact ⟨q, mem_addQ.2 (.inr hq), h1⟩
theorem addQ_again (l : List Prt) (n : Int) (d : Dt) : addQ (addQ l n d) n d = addQ l n d := by
  show (if inQ (addQ l n d) (numP n d) then addQ l n d else _) = _
  rw [if_pos (addQ_in l n d)]
theorem hasN_addQ {l : List Prt} {n m : Int} {d : Dt} : hasN (addQ l n d) m = true ↔ m = n ∨ hasN l m = true := by
  rw [hasN_iff, hasN_iff]
  constructor
  · rintro ⟨p, hp, rfl⟩
    rcases mem_addQ.1 hp with ⟨rfl, _⟩ | hp
    · exact .inl rfl
    · exact .inr ⟨p, hp, rfl⟩
  · rintro (rfl | ⟨p, hp, rfl⟩)
    · obtain ⟨q, hq, h1, _⟩ := inQ_iff.1 (addQ_in l m d)
      exact ⟨q, hq, h1⟩
    · exact ⟨p, mem_addQ.2 (.inr hp), rfl⟩
theorem mem_takeQ {l : List Prt} {n : Int} {d : Dt} {k : List Int} {x : Prt} : x ∈ takeQ l n d k ↔ x ∈ l ∧ (x.v.n ≠ n ∨ (x.d ≠ d ∧ hasV k x.d = false)) := by
  unfold takeQ stayQ
  rw [List.mem_filter]
  simp
theorem takeQ_rise {l : List Prt} (h : RiseQ l) (n : Int) (d : Dt) (k : List Int) : RiseQ (takeQ l n d k) := h.filter _
theorem takeQ_length (l : List Prt) (n : Int) (d : Dt) (k : List Int) : (takeQ l n d k).length ≤ l.length := List.length_filter_le _ _
theorem hasN_takeQ {l : List Prt} {n m : Int} {d : Dt} {k : List Int} : hasN (takeQ l n d k) m = true ↔ ∃ p ∈ l, p.v.n = m ∧ (p.v.n ≠ n ∨ (p.d ≠ d ∧ hasV k p.d = false)) := by
  rw [hasN_iff]
  constructor
  · rintro ⟨p, hp, h⟩
    obtain ⟨h1, h2⟩ := mem_takeQ.1 hp
    exact ⟨p, h1, h, h2⟩
  · rintro ⟨p, hp, h, h2⟩
    exact ⟨p, mem_takeQ.2 ⟨hp, h2⟩, h⟩
theorem riseQ_ne {l : List Prt} (h : RiseQ l) : l.Pairwise fun x y => eqQ x y = false := h.imp fun hab => ltQ_ne hab
theorem joinQ_rise {a b : List Prt} (ha : RiseQ a) (hb : RiseQ b) (ka kb : List Int) : RiseQ (joinQ a b ka kb) := by
  refine isortQ_rise (List.pairwise_append.2 ⟨riseQ_ne (ha.filter _), riseQ_ne (hb.filter _), fun x hx y hy => ?_⟩)
  have hx := (List.mem_filter.1 hx).1
  have hy := (List.mem_filter.1 hy).2
  cases e : eqQ x y with
  | false => rfl
  | true =>
    unfold keepQ2 at hy
    rw [inQ_iff.2 ⟨x, hx, eqQ_iff.1 e⟩] at hy
    simp at hy
theorem mem_joinQ {a b : List Prt} {ka kb : List Int} {x : Prt} : x ∈ joinQ a b ka kb ↔ (x ∈ a ∧ (inQ b x = true ∨ hasV kb x.d = false)) ∨ (x ∈ b ∧ inQ a x = false ∧ hasV ka x.d = false) := by
  unfold joinQ keepQ keepQ2
  rw [(isortL_perm _).mem_iff, List.mem_append, List.mem_filter, List.mem_filter]
  simp
theorem joinQ_len (a b : List Prt) (x y : List Int) : (joinQ a b x y).length ≤ a.length + b.length := by
  unfold joinQ
  rw [isortL_length, List.length_append]
  have h1 := List.length_filter_le (keepQ b y) a
  have h2 := List.length_filter_le (keepQ2 a x) b
  omega
theorem joinQ_self {a : List Prt} (h : RiseQ a) (x y : List Int) : joinQ a a x y = a := by
  refine riseQ_unique (joinQ_rise h h _ _) h fun p => ?_
  rw [mem_joinQ]
  constructor
  · rintro (⟨hp, _⟩ | ⟨hp, _⟩) <;> exact hp
  · exact fun hp => .inl ⟨hp, .inl (inQ_mem hp)⟩

/-! ### Which cells may be -/
def okQ (p : Prt) : Bool := decide (p = bareP p.v p.d) && decide (p.v.k = 1) && rightV p.v && decide (1 ≤ p.d.dev ∧ p.d.dev ≤ 64) && decide (1 ≤ p.d.seq ∧ p.d.seq ≤ 1048576)
def rcQ (kd : Int) (cv : Val) (l : List Prt) : Bool := decide (kd = 3) && decide (cv = nilV) && l.all okQ && decide (RiseQ l)
structure RightQ (kd : Int) (cv : Val) (l : List Prt) : Prop where
  kind : kd = 3
  val : cv = nilV
  ok : ∀ p ∈ l, okQ p = true
  rise : RiseQ l
theorem rcQ_iff {kd : Int} {cv : Val} {l : List Prt} : rcQ kd cv l = true ↔ RightQ kd cv l := by
  unfold rcQ
  simp only [Bool.and_eq_true, decide_eq_true_eq, List.all_eq_true]
  exact ⟨fun h => ⟨h.1.1.1, h.1.1.2, h.1.2, h.2⟩, fun h => ⟨⟨⟨h.kind, h.val⟩, h.ok⟩, h.rise⟩⟩
/-- A part that may be is known by its place. -/
theorem okQ_num {p : Prt} (h : okQ p = true) : p = numP p.v.n p.d ∧ (1 ≤ p.d.dev ∧ p.d.dev ≤ 64) ∧ (1 ≤ p.d.seq ∧ p.d.seq ≤ 1048576) := by
  unfold okQ at h
  simp only [Bool.and_eq_true, decide_eq_true_eq] at h
  obtain ⟨⟨⟨⟨h1, h2⟩, h3⟩, h4⟩, h5⟩ := h
  refine ⟨?_, h4, h5⟩
  rw [h1]
  unfold rightV at h3
  obtain ⟨⟨k, n, s⟩, d, _⟩ := p
  simp only at h2
  subst h2
  simp at h3
  have hs : s = ⟨#[]⟩ := toList_inj (by rw [h3.1.1, ByteArray.toList_eq])
  subst hs
  rfl
end Go.Proofs.Ytnpciogpegmejaa
