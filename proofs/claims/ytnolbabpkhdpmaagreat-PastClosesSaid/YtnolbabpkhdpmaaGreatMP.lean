/-
  Layers 7 and 9, plain: dots, parts, what comes of writes and joins.
-/
import Derived.Test.YtnolbabpkhdpmaaGreatV
import Derived.Test.YtnolbabpkhdpmaaGreatSP
namespace Go.Proofs.YtnolbabpkhdpmaaGreat
open Go.RowKit Go.Sort

/-- A dot: a device, a number. -/
structure Dt where
  dev : Int
  seq : Int
  deriving DecidableEq

/-- A part of a cell. -/
structure Prt where
  v : Val
  d : Dt
  at_ : Int
  tm : Int
  aft : Dt
  aat : Int
  gone : Bool
  deriving DecidableEq

instance : Inhabited Val := ⟨⟨0, 0, ⟨#[]⟩⟩⟩
instance : Inhabited Dt := ⟨⟨0, 0⟩⟩
instance : Inhabited Prt := ⟨⟨⟨0, 0, ⟨#[]⟩⟩, ⟨0, 0⟩, 0, 0, ⟨0, 0⟩, 0, false⟩⟩

def nilV : Val := ⟨0, 0, ⟨#[]⟩⟩
/-- A part of a value and a dot alone. -/
def bareP (v : Val) (d : Dt) : Prt := ⟨v, d, 0, 0, ⟨0, 0⟩, 0, false⟩

def ltD (a b : Dt) : Bool := if a.dev = b.dev then decide (a.seq < b.seq) else decide (a.dev < b.dev)
def cmpI (x y : Int) : Int := if x < y then -1 else if y < x then 1 else 0
def cmpD (a b : Dt) : Int := if cmpI a.dev b.dev = 0 then cmpI a.seq b.seq else cmpI a.dev b.dev
def ltP (x y : Prt) : Bool := ltD x.d y.d

theorem ltD_irrefl (a : Dt) : ltD a a = false := by simp [ltD]
theorem ltD_trans {a b c : Dt} (h : ltD a b = true) (k : ltD b c = true) : ltD a c = true := by
  unfold ltD at *
  split at h <;> split at k <;> split <;> simp at * <;> omega
theorem ltD_asymm {a b : Dt} (h : ltD a b = true) : ltD b a = false := by
  cases k : ltD b a with
  | false => rfl
  | true => have := ltD_trans h k; rw [ltD_irrefl] at this; cases this
theorem ltD_tri {a b : Dt} (h : ltD a b = false) (k : ltD b a = false) : a = b := by
  obtain ⟨x, y⟩ := a
  obtain ⟨x', y'⟩ := b
  unfold ltD at *
  simp only [Dt.mk.injEq]
  split at h <;> split at k <;> simp at * <;> omega
theorem ltD_ne {a b : Dt} (h : ltD a b = true) : a ≠ b := by rintro rfl; rw [ltD_irrefl] at h; cases h
theorem cmpI_neg (x y : Int) : cmpI x y < 0 ↔ x < y := by unfold cmpI; split <;> (try split) <;> omega
theorem cmpI_pos (x y : Int) : 0 < cmpI x y ↔ y < x := by unfold cmpI; split <;> (try split) <;> omega
theorem cmpI_zero (x y : Int) : cmpI x y = 0 ↔ x = y := by unfold cmpI; split <;> (try split) <;> omega
theorem cmpD_neg (a b : Dt) : decide (cmpD a b < 0) = ltD a b := by
  unfold cmpD ltD
  by_cases h : a.dev = b.dev
  · rw [if_pos ((cmpI_zero _ _).2 h), if_pos h]; exact decide_eq_decide.2 (cmpI_neg _ _)
  · rw [if_neg (fun e => h ((cmpI_zero _ _).1 e)), if_neg h]; exact decide_eq_decide.2 (cmpI_neg _ _)
theorem cmpD_pos (a b : Dt) : decide (0 < cmpD a b) = ltD b a := by
  unfold cmpD ltD
  by_cases h : a.dev = b.dev
  · rw [if_pos ((cmpI_zero _ _).2 h), if_pos h.symm]; exact decide_eq_decide.2 (cmpI_pos _ _)
  · rw [if_neg (fun e => h ((cmpI_zero _ _).1 e)), if_neg (fun e => h e.symm)]; exact decide_eq_decide.2 (cmpI_pos _ _)
theorem cmpD_nonneg (a b : Dt) : decide (0 ≤ cmpD a b) = !ltD a b := by
  rw [← cmpD_neg]
  by_cases h : cmpD a b < 0
  · rw [decide_eq_true h, decide_eq_false (by omega)]; rfl
  · rw [decide_eq_false h, decide_eq_true (by omega)]; rfl

theorem swoP : SWO ltP where
  irrefl x := ltD_irrefl x.d
  trans x y z h k := ltD_trans h k
  ntrans x y z h k := by
    unfold ltP at *
    cases e : ltD x.d z.d with
    | false => rfl
    | true =>
      cases f : ltD y.d x.d with
      | true => have := ltD_trans f e; rw [k] at this; cases this
      | false => rw [ltD_tri h f] at e; rw [e] at k; cases k

/-- How many of a device are known. -/
def ofV (v : List Int) (dev : Int) : Int := if dev < 1 ∨ (v.length : Int) < dev then 0 else v.getD (dev - 1).toNat 0
def hasV (v : List Int) (d : Dt) : Bool := decide (1 ≤ d.seq) && decide (d.seq ≤ ofV v d.dev)

/-- A part put behind all those that are not above it. -/
def putD (p : Prt) (l : List Prt) : List Prt := l.takeWhile (fun y => !ltP p y) ++ p :: l.dropWhile (fun y => !ltP p y)
theorem putD_length (p : Prt) (l : List Prt) : (putD p l).length = l.length + 1 := by
  unfold putD
  rw [List.length_append, List.length_cons]
  have := congrArg List.length (List.takeWhile_append_dropWhile (p := fun y => !ltP p y) (l := l))
  rw [List.length_append] at this
  omega
theorem mem_putD {p x : Prt} {l : List Prt} : x ∈ putD p l ↔ x = p ∨ x ∈ l := by
  unfold putD
  have h : x ∈ l ↔ x ∈ l.takeWhile (fun y => !ltP p y) ∨ x ∈ l.dropWhile (fun y => !ltP p y) := by
    rw [← List.mem_append, List.takeWhile_append_dropWhile]
  rw [h, List.mem_append, List.mem_cons]
  constructor
  · rintro (h | h | h)
    · exact .inr (.inl h)
    · exact .inl h
    · exact .inr (.inr h)
  · rintro (h | h | h)
    · exact .inr (.inl h)
    · exact .inl h
    · exact .inr (.inr h)

theorem take_all {p : Prt → Bool} : ∀ (l : List Prt), ∀ x ∈ l.takeWhile p, p x = true
  | [], x, h => by cases h
  | y :: l, x, h => by
    rw [List.takeWhile_cons] at h
    split at h
    · rename_i hy
      rcases List.mem_cons.1 h with rfl | h
      · exact hy
      · exact take_all l x h
    · cases h

theorem drop_head {p : Prt → Bool} : ∀ (l : List Prt), ∀ x r, l.dropWhile p = x :: r → p x = false
  | [], x, r, h => by cases h
  | y :: l, x, r, h => by
    rw [List.dropWhile_cons] at h
    split at h
    · exact drop_head l x r h
    · rename_i hy
      cases h
      simpa using hy

theorem putD_asc {p : Prt} {l : List Prt} (ha : Asc ltP l) : (∀ y ∈ l.dropWhile (fun y => !ltP p y), ltP p y = true) := by
  intro y hy
  have he := List.takeWhile_append_dropWhile (p := fun y => !ltP p y) (l := l)
  rcases hd : l.dropWhile (fun y => !ltP p y) with _ | ⟨z, r⟩
  · rw [hd] at hy; cases hy
  · have hz := drop_head l z r hd
    rw [hd] at hy he
    simp only [Bool.not_eq_eq_eq_not, Bool.not_false] at hz
    rcases List.mem_cons.1 hy with rfl | hy
    · exact hz
    · rw [← he] at ha
      have hzy := (List.pairwise_cons.1 (List.pairwise_append.1 ha).2.1).1 y hy
      exact lt_of_lt_nlt swoP hz hzy

/-- Put one by one: the stable order. -/
theorem putD_isort (p : Prt) (u : List Prt) : putD p (isortL ltP u) = isortL ltP (u ++ [p]) := by
  refine (ins_end swoP (List.takeWhile_append_dropWhile (p := fun y => !ltP p y) (l := isortL ltP u)).symm (putD_asc (isortL_asc swoP u)) fun z hz => ?_).symm
  have := take_all (p := fun y => !ltP p y) (isortL ltP u) z (List.mem_of_getLast? hz)
  simpa using this

theorem putD_rise {p : Prt} {l : List Prt} (h : l.Pairwise fun x y => ltP x y = true) (hne : ∀ y ∈ l, y.d ≠ p.d) : (putD p l).Pairwise fun x y => ltP x y = true := by
  have ha : Asc ltP l := h.imp fun hab => ltD_asymm hab
  have he := List.takeWhile_append_dropWhile (p := fun y => !ltP p y) (l := l)
  have hd := putD_asc (p := p) ha
  have hlow : ∀ y ∈ l.takeWhile (fun y => !ltP p y), ltP y p = true := by
    intro y hy
    have h1 := take_all (p := fun y => !ltP p y) l y hy
    simp only [Bool.not_eq_eq_eq_not, Bool.not_true] at h1
    have hym : y ∈ l := by rw [← he]; exact List.mem_append_left _ hy
    cases h2 : ltP y p with
    | true => rfl
    | false => exact absurd (ltD_tri h2 h1) (hne y hym)
  rw [← he] at h
  obtain ⟨h1, h2, h3⟩ := List.pairwise_append.1 h
  unfold putD
  refine List.pairwise_append.2 ⟨h1, List.pairwise_cons.2 ⟨hd, h2⟩, fun x hx y hy => ?_⟩
  rcases List.mem_cons.1 hy with rfl | hy
  · exact hlow x hx
  · exact h3 x hx y hy

/-- Rising rows of the same parts are one. -/
theorem rise_unique : ∀ {l m : List Prt}, (l.Pairwise fun x y => ltP x y = true) → (m.Pairwise fun x y => ltP x y = true) → (∀ x, x ∈ l ↔ x ∈ m) → l = m
  | [], [], _, _, _ => rfl
  | [], y :: m, _, _, h => by have := (h y).2 (by simp); cases this
  | x :: l, [], _, _, h => by have := (h x).1 (by simp); cases this
  | x :: l, y :: m, hl, hm, h => by
    obtain ⟨l1, l2⟩ := List.pairwise_cons.1 hl
    obtain ⟨m1, m2⟩ := List.pairwise_cons.1 hm
    have hxy : x = y := by
      rcases List.mem_cons.1 ((h x).1 (by simp)) with e | hx
      · exact e
      · rcases List.mem_cons.1 ((h y).2 (by simp)) with e | hy
        · exact e.symm
        · have h1 := m1 x hx
          have h2 := l1 y hy
          rw [show ltP x y = false from ltD_asymm h1] at h2; cases h2
    subst hxy
    congr 1
    refine rise_unique l2 m2 fun z => ?_
    have hz := h z
    simp only [List.mem_cons] at hz
    constructor
    · intro hzl
      rcases hz.1 (.inr hzl) with rfl | h'
      · have := l1 z hzl; rw [show ltP z z = false from ltD_irrefl _] at this; cases this
      · exact h'
    · intro hzm
      rcases hz.2 (.inr hzm) with rfl | h'
      · have := m1 z hzm; rw [show ltP z z = false from ltD_irrefl _] at this; cases this
      · exact h'

/-- The stable order of parts whose dots are all unlike rises. -/
theorem isort_rise {l : List Prt} (h : l.Pairwise fun x y => x.d ≠ y.d) : (isortL ltP l).Pairwise fun x y => ltP x y = true := by
  have ha : Asc ltP (isortL ltP l) := isortL_asc swoP l
  have hp : (isortL ltP l).Perm l := isortL_perm l
  have hn : (isortL ltP l).Pairwise fun x y => x.d ≠ y.d := hp.symm.pairwise h fun hab e => hab e.symm
  refine (List.Pairwise.and ha hn).imp fun {a b} hab => ?_
  cases e : ltP a b with
  | true => rfl
  | false => exact absurd (ltD_tri e hab.1) hab.2

/-- A part has a dot. -/
def hasP (l : List Prt) (d : Dt) : Bool := l.any fun p => decide (p.d = d)
theorem hasP_iff {l : List Prt} {d : Dt} : hasP l d = true ↔ ∃ p ∈ l, p.d = d := by simp [hasP]

/-- A value written. -/
def keptW (l : List Prt) (d : Dt) (knew : List Int) : List Prt := l.filter fun p => !decide (p.d = d) && !hasV knew p.d
def writeL (l : List Prt) (v : Val) (d : Dt) (knew : List Int) : List Prt := putD (bareP v d) (keptW l d knew)
/-- Two copies joined. -/
def joinL (a b : List Prt) (ka kb : List Int) : List Prt := isortL ltP (a.filter (fun p => hasP b p.d || !hasV kb p.d) ++ b.filter (fun p => !hasP a p.d && !hasV ka p.d))

abbrev Rise (l : List Prt) : Prop := l.Pairwise fun x y => ltP x y = true
theorem mem_keptW {l : List Prt} {d : Dt} {knew : List Int} {x : Prt} : x ∈ keptW l d knew ↔ x ∈ l ∧ x.d ≠ d ∧ hasV knew x.d = false := by simp [keptW]
theorem mem_writeL {l : List Prt} {v : Val} {d : Dt} {knew : List Int} {x : Prt} : x ∈ writeL l v d knew ↔ x = bareP v d ∨ (x ∈ l ∧ x.d ≠ d ∧ hasV knew x.d = false) := by
  unfold writeL; rw [mem_putD, mem_keptW]
theorem writeL_rise {l : List Prt} (h : Rise l) (v : Val) (d : Dt) (knew : List Int) : Rise (writeL l v d knew) :=
  putD_rise (h.filter _) fun _ hy => (mem_keptW.1 hy).2.1
theorem rise_ne {l : List Prt} (h : Rise l) : l.Pairwise fun x y => x.d ≠ y.d := h.imp fun hab => ltD_ne hab
theorem joinL_rise {a b : List Prt} (ha : Rise a) (hb : Rise b) (ka kb : List Int) : Rise (joinL a b ka kb) := by
  refine isort_rise (List.pairwise_append.2 ⟨rise_ne (ha.filter _), rise_ne (hb.filter _), fun x hx y hy e => ?_⟩)
  have hx := (List.mem_filter.1 hx).1
  have hy := (List.mem_filter.1 hy).2
  rw [← e, hasP_iff.2 ⟨x, hx, rfl⟩] at hy
  simp at hy
theorem mem_joinL {a b : List Prt} {ka kb : List Int} {x : Prt} : x ∈ joinL a b ka kb ↔ (x ∈ a ∧ (hasP b x.d = true ∨ hasV kb x.d = false)) ∨ (x ∈ b ∧ hasP a x.d = false ∧ hasV ka x.d = false) := by
  unfold joinL
  rw [(isortL_perm _).mem_iff, List.mem_append, List.mem_filter, List.mem_filter]
  simp

/-- In a rising row a dot tells its part. -/
theorem rise_dot {l : List Prt} (h : Rise l) {x y : Prt} (hx : x ∈ l) (hy : y ∈ l) (e : x.d = y.d) : x = y := by
  induction l with
  | nil => cases hx
  | cons z l ih =>
    obtain ⟨h1, h2⟩ := List.pairwise_cons.1 h
    rcases List.mem_cons.1 hx with hx' | hx' <;> rcases List.mem_cons.1 hy with hy' | hy'
    · rw [hx', hy']
    · subst hx'; exact absurd e (ltD_ne (h1 y hy'))
    · subst hy'; exact absurd e.symm (ltD_ne (h1 x hx'))
    · exact ih h2 hx' hy'

/-- Written again by the same dot. -/
theorem write_again {l : List Prt} (h : Rise l) (v u : Val) (d : Dt) (k : List Int) : writeL (writeL l v d k) u d k = writeL l u d k := by
  refine rise_unique (writeL_rise (writeL_rise h _ _ _) _ _ _) (writeL_rise h _ _ _) fun x => ?_
  simp only [mem_writeL]
  constructor
  · rintro (e | ⟨e | ⟨hx, h1, h2⟩, h3, h4⟩)
    · exact .inl e
    · exact absurd (by rw [e]; rfl) h3
    · exact .inr ⟨hx, h1, h2⟩
  · rintro (e | ⟨hx, h1, h2⟩)
    · exact .inl e
    · exact .inr ⟨.inr ⟨hx, h1, h2⟩, h1, h2⟩

/-- Two writes, in whichever order. -/
theorem write_swap {l : List Prt} (h : Rise l) (v u : Val) {d e : Dt} {j k : List Int} (hne : d ≠ e) (h1 : hasV j e = false) (h2 : hasV k d = false) : writeL (writeL l v d j) u e k = writeL (writeL l u e k) v d j := by
  refine rise_unique (writeL_rise (writeL_rise h _ _ _) _ _ _) (writeL_rise (writeL_rise h _ _ _) _ _ _) fun x => ?_
  simp only [mem_writeL]
  constructor
  · rintro (rfl | ⟨rfl | ⟨hx, h3, h4⟩, h5, h6⟩)
    · exact .inr ⟨.inl rfl, fun e' => hne e'.symm, h1⟩
    · exact .inl rfl
    · exact .inr ⟨.inr ⟨hx, h5, h6⟩, h3, h4⟩
  · rintro (rfl | ⟨rfl | ⟨hx, h3, h4⟩, h5, h6⟩)
    · exact .inr ⟨.inl rfl, fun e' => hne e', h2⟩
    · exact .inl rfl
    · exact .inr ⟨.inr ⟨hx, h5, h6⟩, h3, h4⟩

theorem hasP_write {l : List Prt} {v : Val} {d e : Dt} {k : List Int} : hasP (writeL l v d k) e = true ↔ e = d ∨ (hasP l e = true ∧ e ≠ d ∧ hasV k e = false) := by
  rw [hasP_iff, hasP_iff]
  constructor
  · rintro ⟨p, hp, rfl⟩
    rcases mem_writeL.1 hp with rfl | ⟨h1, h2, h3⟩
    · exact .inl rfl
    · exact .inr ⟨⟨p, h1, rfl⟩, h2, h3⟩
  · rintro (rfl | ⟨⟨p, hp, rfl⟩, h1, h2⟩)
    · exact ⟨_, mem_writeL.2 (.inl rfl), rfl⟩
    · exact ⟨p, mem_writeL.2 (.inr ⟨hp, h1, h2⟩), rfl⟩

theorem joinL_self {a : List Prt} (h : Rise a) (x y : List Int) : joinL a a x y = a := by
  refine rise_unique (joinL_rise h h _ _) h fun p => ?_
  rw [mem_joinL]
  constructor
  · rintro (⟨hp, _⟩ | ⟨hp, _⟩) <;> exact hp
  · exact fun hp => .inl ⟨hp, .inl (hasP_iff.2 ⟨p, hp, rfl⟩)⟩

/-- What the meeting of two copies is asked. -/
structure Meet (c : List Prt) (k0 k1 k2 x y : List Int) (d e : Dt) : Prop where
  rise : Rise c
  known : ∀ p ∈ c, hasV k0 p.d = true
  le1 : ∀ u, hasV k1 u = true → hasV k0 u = true
  le2 : ∀ u, hasV k2 u = true → hasV k0 u = true
  ne : d ≠ e
  nd : hasV k0 d = false
  ne' : hasV k0 e = false
  hx : ∀ u, hasV x u = true ↔ u = d ∨ hasV k0 u = true
  hy : ∀ u, hasV y u = true ↔ u = e ∨ hasV k0 u = true

theorem not_true' {b : Bool} : b = false ↔ ¬ b = true := by cases b <;> simp

section
variable {c : List Prt} {k0 k1 k2 x y : List Int} {d e : Dt} (M : Meet c k0 k1 k2 x y d e) (v u : Val)
include M

theorem Meet.cd {p : Prt} (hp : p ∈ c) : p.d ≠ d ∧ p.d ≠ e :=
  ⟨fun h => (by have := M.known p hp; rw [h, M.nd] at this; cases this), fun h => (by have := M.known p hp; rw [h, M.ne'] at this; cases this)⟩

theorem Meet.swap : Meet c k0 k2 k1 y x e d := ⟨M.rise, M.known, M.le2, M.le1, M.ne.symm, M.ne', M.nd, M.hy, M.hx⟩

theorem Meet.mem {p : Prt} : p ∈ joinL (writeL c v d k1) (writeL c u e k2) x y ↔ p = bareP v d ∨ p = bareP u e ∨ (p ∈ c ∧ hasV k1 p.d = false ∧ hasV k2 p.d = false) := by
  have h2e : hasV k2 e = false := not_true'.2 fun h => by have := M.le2 _ h; rw [M.ne'] at this; cases this
  rw [mem_joinL]
  simp only [mem_writeL]
  constructor
  · rintro (⟨rfl | ⟨hp, h1, h2⟩, h3⟩ | ⟨rfl | ⟨hp, h1, h2⟩, h3, h4⟩)
    · exact .inl rfl
    · refine .inr (.inr ⟨hp, h2, ?_⟩)
      rcases h3 with h3 | h3
      · rcases hasP_write.1 h3 with h4 | ⟨_, _, h4⟩
        · exact absurd h4 (M.cd hp).2
        · exact h4
      · have := (M.hy p.d).2 (.inr (M.known p hp)); rw [h3] at this; cases this
    · exact .inr (.inl rfl)
    · have := (M.hx p.d).2 (.inr (M.known p hp)); rw [h4] at this; cases this
  · rintro (rfl | rfl | ⟨hp, h1, h2⟩)
    · refine .inl ⟨.inl rfl, .inr (not_true'.2 fun h => ?_)⟩
      rcases (M.hy _).1 h with h | h
      · exact M.ne h
      · have : hasV k0 d = true := h
        rw [M.nd] at this; cases this
    · refine .inr ⟨.inl rfl, not_true'.2 fun h => ?_, not_true'.2 fun h => ?_⟩
      · rcases hasP_write.1 h with h | ⟨h, _, _⟩
        · exact M.ne h.symm
        · obtain ⟨q, hq, hqe⟩ := hasP_iff.1 h
          exact (M.cd hq).2 hqe
      · rcases (M.hx _).1 h with h | h
        · exact M.ne h.symm
        · have : hasV k0 e = true := h
          rw [M.ne'] at this; cases this
    · exact .inl ⟨.inr ⟨hp, (M.cd hp).1, h1⟩, .inl (hasP_write.2 (.inr ⟨hasP_iff.2 ⟨p, hp, rfl⟩, (M.cd hp).2, h2⟩))⟩

theorem Meet.all : joinL (writeL c v d k1) (writeL c u e k2) x y = writeL (writeL c v d k1) u e k2 := by
  refine rise_unique (joinL_rise (writeL_rise M.rise _ _ _) (writeL_rise M.rise _ _ _) _ _) (writeL_rise (writeL_rise M.rise _ _ _) _ _ _) fun p => ?_
  rw [M.mem]
  simp only [mem_writeL]
  constructor
  · rintro (rfl | rfl | ⟨hp, h1, h2⟩)
    · refine .inr ⟨.inl rfl, M.ne, not_true'.2 fun h => ?_⟩
      have := M.le2 _ h
      have h' : hasV k0 d = true := this
      rw [M.nd] at h'; cases h'
    · exact .inl rfl
    · exact .inr ⟨.inr ⟨hp, (M.cd hp).1, h1⟩, (M.cd hp).2, h2⟩
  · rintro (rfl | ⟨rfl | ⟨hp, h1, h2⟩, h3, h4⟩)
    · exact .inr (.inl rfl)
    · exact .inl rfl
    · exact .inr (.inr ⟨hp, h2, h4⟩)

theorem Meet.all' : joinL (writeL c u e k2) (writeL c v d k1) y x = writeL (writeL c v d k1) u e k2 := by
  rw [← M.all v u]
  refine rise_unique (joinL_rise (writeL_rise M.rise _ _ _) (writeL_rise M.rise _ _ _) _ _) (joinL_rise (writeL_rise M.rise _ _ _) (writeL_rise M.rise _ _ _) _ _) fun p => ?_
  rw [M.mem, M.swap.mem]
  constructor
  · rintro (h | h | ⟨h, h1, h2⟩)
    · exact .inr (.inl h)
    · exact .inl h
    · exact .inr (.inr ⟨h, h2, h1⟩)
  · rintro (h | h | ⟨h, h1, h2⟩)
    · exact .inr (.inl h)
    · exact .inl h
    · exact .inr (.inr ⟨h, h2, h1⟩)

theorem Meet.got : joinL c (writeL c v d k1) k0 x = writeL c v d k1 := by
  refine rise_unique (joinL_rise M.rise (writeL_rise M.rise _ _ _) _ _) (writeL_rise M.rise _ _ _) fun p => ?_
  rw [mem_joinL]
  simp only [mem_writeL]
  constructor
  · rintro (⟨hp, h⟩ | ⟨h, _, _⟩)
    · refine .inr ⟨hp, (M.cd hp).1, ?_⟩
      rcases h with h | h
      · rcases hasP_write.1 h with h | ⟨_, _, h⟩
        · exact absurd h (M.cd hp).1
        · exact h
      · have := (M.hx p.d).2 (.inr (M.known p hp)); rw [h] at this; cases this
    · exact h
  · rintro (rfl | ⟨hp, h1, h2⟩)
    · refine .inr ⟨.inl rfl, not_true'.2 fun h => ?_, M.nd⟩
      obtain ⟨q, hq, hqe⟩ := hasP_iff.1 h
      exact (M.cd hq).1 hqe
    · exact .inl ⟨hp, .inl (hasP_write.2 (.inr ⟨hasP_iff.2 ⟨p, hp, rfl⟩, h1, h2⟩))⟩
end

/-! ### Values -/
/-- A value put among rising ones, once. -/
def addV (v : Val) : List Val → List Val
  | [] => [v]
  | u :: l => if lessV u v then u :: addV v l else if sameV u v then u :: l else v :: u :: l
def valsL (l : List Prt) : List Val := l.foldl (fun o p => addV p.v o) []

abbrev RiseV (l : List Val) : Prop := l.Pairwise fun x y => lessV x y = true
theorem mem_addV {v x : Val} : ∀ {l : List Val}, x ∈ addV v l ↔ x = v ∨ x ∈ l
  | [] => by simp [addV]
  | u :: l => by
    unfold addV
    split
    · rw [List.mem_cons, mem_addV, List.mem_cons]
      constructor
      · rintro (h | h | h)
        · exact .inr (.inl h)
        · exact .inl h
        · exact .inr (.inr h)
      · rintro (h | h | h)
        · exact .inr (.inl h)
        · exact .inl h
        · exact .inr (.inr h)
    · split
      · rename_i hs
        have := sameV_iff.1 hs
        subst this
        simp
      · simp
theorem addV_rise {v : Val} : ∀ {l : List Val}, RiseV l → RiseV (addV v l)
  | [], _ => List.pairwise_singleton _ _
  | u :: l, h => by
    obtain ⟨h1, h2⟩ := List.pairwise_cons.1 h
    unfold addV
    split
    · rename_i hl
      refine List.pairwise_cons.2 ⟨fun x hx => ?_, addV_rise h2⟩
      rcases mem_addV.1 hx with rfl | hx
      · exact hl
      · exact h1 x hx
    · split
      · exact h
      · rename_i hl hs
        have hvu : lessV v u = true := by
          cases e : lessV v u with
          | true => rfl
          | false => exact absurd (sameV_iff.2 (lessV_tri (by simpa using hl) e)) hs
        refine List.pairwise_cons.2 ⟨fun x hx => ?_, h⟩
        rcases List.mem_cons.1 hx with rfl | hx
        · exact hvu
        · exact lessV_trans hvu (h1 x hx)

theorem valsL_next (l : List Prt) (k : Nat) (hk : k < l.length) : valsL (l.take (k + 1)) = addV l[k].v (valsL (l.take k)) := by
  unfold valsL
  rw [List.take_succ_eq_append_getElem hk, List.foldl_append]; rfl
theorem valsL_take (l : List Prt) : ∀ k, k ≤ l.length → RiseV (valsL (l.take k)) ∧ (∀ x, x ∈ valsL (l.take k) ↔ ∃ p ∈ l.take k, p.v = x) ∧ (valsL (l.take k)).length ≤ k
  | 0, _ => by simp [valsL]
  | k + 1, hk => by
    obtain ⟨h1, h2, h3⟩ := valsL_take l k (by omega)
    have htk := List.take_succ_eq_append_getElem (l := l) (i := k) hk
    rw [valsL_next l k hk]
    refine ⟨addV_rise h1, fun x => ?_, ?_⟩
    · rw [mem_addV, h2, htk]
      constructor
      · rintro (rfl | ⟨p, hp, rfl⟩)
        · exact ⟨_, List.mem_append_right _ (List.mem_singleton.2 rfl), rfl⟩
        · exact ⟨p, List.mem_append_left _ hp, rfl⟩
      · rintro ⟨p, hp, rfl⟩
        rcases List.mem_append.1 hp with hp | hp
        · exact .inr ⟨p, hp, rfl⟩
        · rw [List.mem_singleton.1 hp]; exact .inl rfl
    · have : ∀ (v : Val) (m : List Val), (addV v m).length ≤ m.length + 1 := by
        intro v m
        induction m with
        | nil => simp [addV]
        | cons u m ih => unfold addV; split <;> (try split) <;> simp <;> omega
      have := this l[k].v (valsL (l.take k))
      omega
theorem valsL_rise (l : List Prt) : RiseV (valsL l) := by have := (valsL_take l l.length (Nat.le_refl _)).1; rwa [List.take_length] at this
theorem mem_valsL {l : List Prt} {x : Val} : x ∈ valsL l ↔ ∃ p ∈ l, p.v = x := by have := (valsL_take l l.length (Nat.le_refl _)).2.1 x; rwa [List.take_length] at this
theorem valsL_len (l : List Prt) : (valsL l).length ≤ l.length := by have := (valsL_take l l.length (Nat.le_refl _)).2.2; rwa [List.take_length] at this

/-- What is shown. -/
def showL (l : List Prt) : Val := (valsL l).getLast?.getD nilV

theorem show_max {l : List Prt} {x : Val} (hx : x ∈ valsL l) : lessV (showL l) x = false := by
  unfold showL
  rcases List.eq_nil_or_concat (valsL l) with h | ⟨u, z, h⟩
  · rw [h] at hx; cases hx
  · have hr := valsL_rise l
    rw [h, List.concat_eq_append] at hr hx ⊢
    rw [List.getLast?_append]
    simp only [List.getLast?_singleton, Option.some_or, Option.getD_some]
    rcases List.mem_append.1 hx with hx | hx
    · exact lessV_asymm ((List.pairwise_append.1 hr).2.2 x hx z (by simp))
    · rw [List.mem_singleton.1 hx]; exact lessV_irrefl _
theorem show_mem {l : List Prt} (h : l ≠ []) : showL l ∈ valsL l := by
  have hne : valsL l ≠ [] := by
    intro e
    cases l with
    | nil => exact h rfl
    | cons p l =>
      have : p.v ∈ valsL (p :: l) := mem_valsL.2 ⟨p, by simp, rfl⟩
      rw [e] at this; cases this
  unfold showL
  rw [List.getLast?_eq_some_getLast hne]
  exact List.getLast_mem hne

/-! ### Which cells may be -/
def okP (p : Prt) : Bool := decide (p = bareP p.v p.d) && rightV p.v && decide (1 ≤ p.d.dev ∧ p.d.dev ≤ 64) && decide (1 ≤ p.d.seq ∧ p.d.seq ≤ 1048576)
structure RightPs (l : List Prt) : Prop where
  ok : ∀ p ∈ l, okP p = true
  rise : Rise l

theorem right_write {l : List Prt} (h : RightPs l) {v : Val} {d : Dt} (hv : rightV v = true) (h1 : 1 ≤ d.dev ∧ d.dev ≤ 64) (h2 : 1 ≤ d.seq ∧ d.seq ≤ 1048576) (k : List Int) : RightPs (writeL l v d k) := by
  refine ⟨fun p hp => ?_, writeL_rise h.rise _ _ _⟩
  rcases mem_writeL.1 hp with rfl | ⟨hp, _, _⟩
  · show (decide (bareP v d = bareP v d) && rightV v && decide (1 ≤ d.dev ∧ d.dev ≤ 64) && decide (1 ≤ d.seq ∧ d.seq ≤ 1048576)) = true
    rw [hv, decide_eq_true h1, decide_eq_true h2, decide_eq_true rfl]
    rfl
  · exact h.ok p hp
end Go.Proofs.YtnolbabpkhdpmaaGreat
