/-
  Layer 20 (past), plain: the document's answer of what is closed, and that it is the program's.
-/
import Derived.Test.YtnolbabpkhdpmaaGreatN5
namespace Go.Proofs.YtnolbabpkhdpmaaGreat
open Go.RowKit Go.Sort

/-! ### Known -/
def rkStep (o : List Int) (x : TxS) : List Int := if inQ3 x.dev 1 64 = true ∧ inQ3 x.seq 1 1048576 = true then o.set (x.dev - 1).toNat (max (o.getD (x.dev - 1).toNat 0) x.seq) else o
def rk0 (line : List Int) (k : Nat) : List Int := (List.range k).map fun (j : Nat) => ofV line ((j : Int) + 1)
def rkL (line : List Int) (l : List TxS) : List Int := l.foldl rkStep (rk0 line 64)
def refKnownT (line : List Int) (l : List TxS) : List Int := trimL (rkL line l)
theorem rk0_succ (line : List Int) (k : Nat) : rk0 line (k + 1) = rk0 line k ++ [ofV line ((k : Int) + 1)] := by unfold rk0; rw [List.range_succ, List.map_append]; rfl
theorem rk0_len (line : List Int) (k : Nat) : (rk0 line k).length = k := by simp [rk0]
theorem rkStep_len (o : List Int) (x : TxS) : (rkStep o x).length = o.length := by unfold rkStep; split <;> simp
theorem rkFold_len (l : List TxS) : ∀ o : List Int, (l.foldl rkStep o).length = o.length := by
  induction l with
  | nil => intro o; rfl
  | cons a l ih => intro o; rw [List.foldl_cons, ih, rkStep_len]
theorem rkStep_of {o : List Int} (ho : o.length = 64) {x : TxS} {d : Int} (h1 : 1 ≤ d) (h2 : d ≤ 64) : ofV (rkStep o x) d = if x.dev = d then seqF (ofV o d) x else ofV o d := by
  obtain ⟨j, rfl⟩ : ∃ j : Nat, d = (j : Int) + 1 := ⟨(d - 1).toNat, by omega⟩
  have hj : j < 64 := by omega
  unfold rkStep seqF
  by_cases hs : inQ3 x.seq 1 1048576 = true
  · by_cases hd : inQ3 x.dev 1 64 = true
    · rw [if_pos ⟨hd, hs⟩, ofV_getD, ofV_getD]
      have hdv := inQ3_bd hd
      by_cases he : x.dev = (j : Int) + 1
      · rw [if_pos he, if_pos hs]
        have : (x.dev - 1).toNat = j := by omega
        rw [this, List.getD_eq_getElem?_getD, List.getElem?_set_self (by omega)]; rfl
      · rw [if_neg he, List.getD_eq_getElem?_getD, List.getElem?_set_ne (by omega), ← List.getD_eq_getElem?_getD]
    · rw [if_neg fun h => hd h.1]
      have he : ¬ x.dev = (j : Int) + 1 := fun e => hd (by unfold inQ3; rw [e]; simp; omega)
      rw [if_neg he]
  · rw [if_neg fun h => hs h.2]
    split <;> first | rfl | rw [if_neg hs]
theorem rkFold_of {d : Int} (h1 : 1 ≤ d) (h2 : d ≤ 64) : ∀ (l : List TxS) (o : List Int), o.length = 64 → ofV (l.foldl rkStep o) d = (devT d l).foldl seqF (ofV o d)
  | [], o, _ => rfl
  | x :: l, o, ho => by
    rw [List.foldl_cons, rkFold_of h1 h2 l _ ((rkStep_len o x).trans ho), rkStep_of ho h1 h2]
    unfold devT
    rw [List.filter_cons]
    by_cases he : x.dev = d
    · rw [if_pos he, if_pos (beq_iff_eq.2 he), List.foldl_cons]
    · rw [if_neg he, if_neg (by simpa using he)]
theorem refKnown_same (line : List Int) (l : List TxS) : SameV (refKnownT line l) (knownT line l) := by
  intro d
  unfold refKnownT rkL
  rw [ofV_trim]
  by_cases ho : d < 1 ∨ 64 < d
  · rw [ofV_known_out ho, ofV_out]
    rw [rkFold_len, rk0_len]
    exact ho
  · rw [ofV_known (by omega) (by omega), rkFold_of (by omega) (by omega) l _ (rk0_len _ _)]
    have : ofV (rk0 line 64) d = ofV line d := by
      obtain ⟨j, rfl⟩ : ∃ j : Nat, d = (j : Int) + 1 := ⟨(d - 1).toNat, by omega⟩
      rw [ofV_getD]
      unfold rk0
      rw [List.getD_eq_getElem?_getD, List.getElem?_map, List.getElem?_range (by omega)]; rfl
    rw [this]; rfl
theorem upto_refKnown (a line : List Int) (l : List TxS) : uptoB a (refKnownT line l) = uptoB a (knownT line l) := by
  rw [Bool.eq_iff_iff, uptoB_iff, uptoB_iff]
  exact ⟨fun h d => by rw [← refKnown_same]; exact h d, fun h d => by rw [refKnown_same]; exact h d⟩

/-! ### Time -/
def maxTime (l : List TxS) (k : Nat) : Int := (l.take k).foldl (fun n x => max n x.time) 0
def refTimeT (line : List Int) (last : Int) (l : List TxS) (deps : List Int) : Int := if uptoB line deps = true then max (maxTime (pastT l deps) (pastT l deps).length) last else maxTime (pastT l deps) (pastT l deps).length
theorem maxF_le {m : Int} : ∀ {l : List TxS} {n : Int}, l.foldl (fun n x => max n x.time) n ≤ m ↔ n ≤ m ∧ ∀ y ∈ l, y.time ≤ m
  | [], n => by simp
  | x :: l, n => by
    rw [List.foldl_cons, maxF_le]
    constructor
    · rintro ⟨h1, h2⟩
      exact ⟨by omega, fun y hy => by rcases List.mem_cons.1 hy with rfl | hy; omega; exact h2 y hy⟩
    · rintro ⟨h1, h2⟩
      have := h2 x List.mem_cons_self
      exact ⟨by omega, fun y hy => h2 y (List.mem_cons_of_mem _ hy)⟩
theorem refTime_same (line : List Int) (last : Int) (l : List TxS) (deps : List Int) : refTimeT line last l deps = timeT line last l deps := by
  have key : ∀ m, refTimeT line last l deps ≤ m ↔ timeT line last l deps ≤ m := by
    intro m
    have h0 : maxTime (pastT l deps) (pastT l deps).length ≤ m ↔ 0 ≤ m ∧ ∀ y ∈ l, hasV deps y.dot = true → y.time ≤ m := by
      unfold maxTime
      rw [List.take_of_length_le (Nat.le_refl _), maxF_le]
      exact and_congr Iff.rfl ⟨fun h y hy hq => h y (pastT_iff.2 ⟨hy, hq⟩), fun h y hy => h y (pastT_iff.1 hy).1 (pastT_iff.1 hy).2⟩
    rw [timeT_le]
    unfold refTimeT
    by_cases hu : uptoB line deps = true
    · rw [if_pos hu, if_pos hu]
      constructor
      · intro h
        have := h0.1 (by omega)
        exact ⟨by omega, this.2⟩
      · rintro ⟨h1, h2⟩
        have := h0.2 ⟨by omega, h2⟩
        omega
    · rw [if_neg hu, if_neg hu]
      exact h0
  exact Int.le_antisymm ((key _).2 (Int.le_refl _)) ((key _).1 (Int.le_refl _))

/-! ### Above -/
def refDep (line : List Int) (l : List TxS) (deps : List Int) (d : Int) : Bool := decide (ofV deps d ≤ ofV line d) || ((findD d (ofV deps d) l).map fun x => uptoB x.deps deps).getD false
def manyQ (dev f s : Int) (y : TxS) : Bool := (y.dev == dev) && (decide (f < y.seq) && decide (y.seq ≤ s))
def manyR (l : List TxS) (dev f s : Int) : Nat := (l.filter (manyQ dev f s)).length
def refAboveT (line : List Int) (last : Int) (l : List TxS) (dev seq time : Int) (deps : List Int) : Bool :=
  if uptoB line deps = false ∨ uptoB deps (refKnownT line l) = false ∨ ¬ rightT time (refTimeT line last l deps) = 0 then false
  else if (List.range 64).all (fun (j : Nat) => refDep line l deps ((j : Int) + 1)) = false then false else decide ((manyR l dev (ofV line dev) seq : Int) = seq - ofV line dev)
theorem filter_or {α : Type} (p q : α → Bool) (h : ∀ x, ¬ (p x = true ∧ q x = true)) : ∀ l : List α, (l.filter fun x => p x || q x).length = (l.filter p).length + (l.filter q).length
  | [] => rfl
  | x :: l => by
    have := filter_or p q h l
    have hx := h x
    rw [List.filter_cons, List.filter_cons, List.filter_cons]
    cases hp : p x <;> cases hq : q x <;> simp_all <;> omega
theorem one_le {l : List TxS} (hn : Nd l) (d n : Int) : (l.filter fun y => (y.dev == d) && (y.seq == n)).length ≤ 1 ∧ ((l.filter fun y => (y.dev == d) && (y.seq == n)).length = 1 ↔ ∃ y ∈ l, y.dev = d ∧ y.seq = n) := by
  have hf : Nd (l.filter fun y => (y.dev == d) && (y.seq == n)) := hn.sub List.filter_sublist
  have hm : ∀ y, y ∈ (l.filter fun y => (y.dev == d) && (y.seq == n)) ↔ y ∈ l ∧ y.dev = d ∧ y.seq = n := fun y => by rw [List.mem_filter]; simp
  generalize (l.filter fun y => (y.dev == d) && (y.seq == n)) = s at *
  match s, hf, hm with
  | [], _, hm => exact ⟨by simp, by simp; intro y hy h1 h2; have := (hm y).2 ⟨hy, h1, h2⟩; simp at this⟩
  | [a], _, hm => exact ⟨by simp, by simp; exact ⟨a, (hm a).1 (by simp)⟩⟩
  | a :: b :: t, hf, hm =>
    have ha := (hm a).1 (by simp)
    have hb := (hm b).1 (by simp)
    exact absurd ⟨ha.2.1.trans hb.2.1.symm, ha.2.2.trans hb.2.2.symm⟩ ((List.pairwise_cons.1 hf).1 b (by simp))
theorem many_all {l : List TxS} (hn : Nd l) (d f : Int) : ∀ k : Nat, (manyR l d f (f + (k : Int)) : Int) ≤ (k : Int) ∧ ((manyR l d f (f + (k : Int)) : Int) = (k : Int) ↔ ∀ n, f < n → n ≤ f + (k : Int) → ∃ y ∈ l, y.dev = d ∧ y.seq = n)
  | 0 => by
    have : manyR l d f (f + ((0 : Nat) : Int)) = 0 := by
      unfold manyR
      rw [List.length_eq_zero_iff, List.filter_eq_nil_iff]
      intro y _
      unfold manyQ
      simp
      try omega
    rw [this]
    exact ⟨by simp, ⟨fun _ n h1 h2 => by omega, fun _ => rfl⟩⟩
  | k + 1 => by
    obtain ⟨h1, h2⟩ := many_all hn d f k
    obtain ⟨h3, h4⟩ := one_le hn d (f + (k : Int) + 1)
    have hs : manyR l d f (f + ((k + 1 : Nat) : Int)) = manyR l d f (f + (k : Int)) + (l.filter fun y => (y.dev == d) && (y.seq == f + (k : Int) + 1)).length := by
      unfold manyR
      rw [← filter_or]
      · congr 1
        refine List.filter_congr fun y _ => ?_
        unfold manyQ
        rw [Bool.eq_iff_iff]
        simp
        omega
      · intro y
        unfold manyQ
        simp
        omega
    rw [hs]
    generalize manyR l d f (f + (k : Int)) = M at *
    generalize (l.filter fun y => (y.dev == d) && (y.seq == f + (k : Int) + 1)).length = O at *
    refine ⟨by omega, ⟨fun h n hn1 hn2 => ?_, fun h => ?_⟩⟩
    · by_cases he : n = f + (k : Int) + 1
      · rw [he]; exact h4.1 (by omega)
      · exact h2.1 (by omega) n hn1 (by omega)
    · have e1 := h2.2 fun n a b => h n a (by omega)
      have e2 := h4.2 (h _ (by omega) (by omega))
      omega
theorem refAbove_same {line : List Int} {last : Int} {l : List TxS} {x : TxS} (hn : Nd l) (hx : x ∈ l) (h0 : ∀ d, 0 ≤ ofV line d) (hr : rightVec x.deps = true) (hu : ofV line x.dev < x.seq) :
    refAboveT line last l x.dev x.seq x.time x.deps = aboveT line last l (knownT line l) x.dev x.seq x.time x.deps := by
  rw [Bool.eq_iff_iff, above_iff hn h0]
  unfold refAboveT
  rw [upto_refKnown, refTime_same]
  have hd := rightVec_bd hr
  have h3 : (List.range 64).all (fun (j : Nat) => refDep line l x.deps ((j : Int) + 1)) = true ↔ ∀ d, ofV line d < ofV x.deps d → ∃ y ∈ l, y.dev = d ∧ y.seq = ofV x.deps d ∧ UptoV y.deps x.deps := by
    rw [List.all_eq_true]
    constructor
    · intro h d hlt
      by_cases ho : d < 1 ∨ (x.deps.length : Int) < d
      · rw [ofV_out ho] at hlt; have := h0 d; omega
      · obtain ⟨j, rfl⟩ : ∃ j : Nat, d = (j : Int) + 1 := ⟨(d - 1).toNat, by omega⟩
        have := h j (List.mem_range.2 (by omega))
        unfold refDep at this
        rw [decide_eq_false (by omega), Bool.false_or] at this
        cases hf : findD ((j : Int) + 1) (ofV x.deps ((j : Int) + 1)) l with
        | none => rw [hf] at this; cases this
        | some y =>
          rw [hf] at this
          obtain ⟨e1, e2, e3⟩ := findD_some hf
          exact ⟨y, e1, e2, e3, uptoB_iff.1 this⟩
    · intro h j _
      unfold refDep
      by_cases hle : ofV x.deps ((j : Int) + 1) ≤ ofV line ((j : Int) + 1)
      · rw [decide_eq_true hle, Bool.true_or]
      · obtain ⟨y, e1, e2, e3, e4⟩ := h ((j : Int) + 1) (by omega)
        have := hn.find e1
        rw [e2, e3] at this
        rw [this, decide_eq_false hle, Bool.false_or]
        exact uptoB_iff.2 e4
  have h4 : (manyR l x.dev (ofV line x.dev) x.seq : Int) = x.seq - ofV line x.dev ↔ ∀ n, ofV line x.dev < n → n < x.seq → ∃ y ∈ l, y.dev = x.dev ∧ y.seq = n := by
    have := (many_all hn x.dev (ofV line x.dev) (x.seq - ofV line x.dev).toNat).2
    rw [show ofV line x.dev + (((x.seq - ofV line x.dev).toNat : Nat) : Int) = x.seq by omega, show (((x.seq - ofV line x.dev).toNat : Nat) : Int) = x.seq - ofV line x.dev by omega] at this
    rw [this]
    exact ⟨fun h n a b => h n a (by omega), fun h n a b => by
      by_cases he : n = x.seq
      · exact ⟨x, hx, rfl, he.symm⟩
      · exact h n a (by omega)⟩
  constructor
  · intro h
    by_cases hg : uptoB line x.deps = false ∨ uptoB x.deps (knownT line l) = false ∨ ¬ rightT x.time (timeT line last l x.deps) = 0
    · rw [if_pos hg] at h; cases h
    rw [if_neg hg] at h
    by_cases ha : (List.range 64).all (fun (j : Nat) => refDep line l x.deps ((j : Int) + 1)) = false
    · rw [if_pos ha] at h; cases h
    rw [if_neg ha, decide_eq_true_eq] at h
    refine ⟨uptoB_iff.1 (by simpa using fun e => hg (.inl e)), uptoB_iff.1 (by simpa using fun e => hg (.inr (.inl e))), h3.1 (by simpa using ha), h4.1 h, ?_⟩
    exact Decidable.byContradiction fun e => hg (.inr (.inr e))
  · intro h
    rw [if_neg, if_neg, decide_eq_true_eq]
    · exact h4.2 h.run
    · rw [h3.2 h.pl]; simp
    · rintro (e | e | e)
      · rw [uptoB_iff.2 h.lo] at e; cases e
      · rw [uptoB_iff.2 h.hi] at e; cases e
      · exact e h.tm

/-! ### Closed -/
def refOne (l : List TxS) (k : Nat) (x : TxS) : Bool :=
  if (findD x.dev x.seq (l.take k)).isSome = true then false else if inQ3 x.dev 1 64 = false then false else if inQ3 x.seq 1 1048576 = false then false else if rightVec x.deps = false then false else decide (ofV x.deps x.dev = x.seq - 1)
def refMay (line : List Int) (last : Int) (l : List TxS) (x : TxS) : Bool := if x.seq ≤ ofV line x.dev then uptoB x.deps line && !x.fm else refAboveT line last l x.dev x.seq x.time x.deps
def refClosedT (line : List Int) (last : Int) (l : List TxS) : Bool :=
  if rightVec line = false ∨ inQ3 last 0 1125899906842624 = false then false
  else if (List.range l.length).all (fun k => refOne l k (l.getD k default)) = false then false else l.all (refMay line last l)
theorem refOne_iff {l : List TxS} {k : Nat} {x : TxS} {line : List Int} : refOne l k x = true ↔ findD x.dev x.seq (l.take k) = none ∧ Tx1 line x := by
  unfold refOne
  cases hf : findD x.dev x.seq (l.take k) with
  | some y => simp
  | none =>
    simp only [Option.isSome_none, Bool.false_eq_true, if_false, true_and]
    by_cases h1 : inQ3 x.dev 1 64 = true
    case neg => rw [if_pos (by simpa using h1)]; exact ⟨fun h => (by cases h), fun h => absurd (by unfold inQ3; simp [h.dev1, h.dev2]) h1⟩
    rw [if_neg (by rw [h1]; simp)]
    by_cases h2 : inQ3 x.seq 1 1048576 = true
    case neg => rw [if_pos (by simpa using h2)]; exact ⟨fun h => (by cases h), fun h => absurd (by unfold inQ3; simp [h.seq1, h.seq2]) h2⟩
    rw [if_neg (by rw [h2]; simp)]
    by_cases h3 : rightVec x.deps = true
    case neg => rw [if_pos (by simpa using h3)]; exact ⟨fun h => (by cases h), fun h => absurd h.deps h3⟩
    rw [if_neg (by rw [h3]; simp), decide_eq_true_eq]
    exact ⟨fun h => ⟨(inQ3_bd h1).1, (inQ3_bd h1).2, (inQ3_bd h2).1, (inQ3_bd h2).2, h3, h⟩, fun h => h.own⟩
theorem refClosed_same (line : List Int) (last : Int) (l : List TxS) : refClosedT line last l = closedT line last l := by
  rw [Bool.eq_iff_iff, closed_iff]
  unfold refClosedT
  by_cases h1 : rightVec line = true
  case neg => rw [if_pos (.inl (by simpa using h1))]; exact ⟨fun h => (by cases h), fun h => absurd h.right h1⟩
  by_cases h2 : inQ3 last 0 1125899906842624 = true
  case neg => rw [if_pos (.inr (by simpa using h2))]; exact ⟨fun h => (by cases h), fun h => absurd h.last0 h2⟩
  rw [if_neg (by rw [h1, h2]; simp)]
  have h0 := fun d => ((rightVec_bd h1).2 d).1
  have h3 : (List.range l.length).all (fun k => refOne l k (l.getD k default)) = true ↔ Nd l ∧ ∀ x ∈ l, Tx1 line x := by
    rw [List.all_eq_true]
    constructor
    · intro h
      refine ⟨dotsOk_iff.1 (List.all_eq_true.2 fun k hk => ?_), fun x hx => ?_⟩
      · rw [((refOne_iff (line := line)).1 (h k hk)).1]; rfl
      · obtain ⟨k, hk, rfl⟩ := List.mem_iff_getElem.1 hx
        have := ((refOne_iff (line := line)).1 (h k (List.mem_range.2 hk))).2
        rwa [List.getD_eq_getElem?_getD, List.getElem?_eq_getElem hk] at this
    · rintro ⟨hn, ho⟩ k hk
      have hd := List.all_eq_true.1 (dotsOk_iff.2 hn) k hk
      have hk := List.mem_range.1 hk
      refine (refOne_iff (line := line)).2 ⟨Option.isNone_iff_eq_none.1 hd, ?_⟩
      rw [List.getD_eq_getElem?_getD, List.getElem?_eq_getElem hk]
      exact ho _ (List.getElem_mem hk)
  by_cases h4 : (List.range l.length).all (fun k => refOne l k (l.getD k default)) = true
  case neg => rw [if_pos (by simpa using h4)]; exact ⟨fun h => (by cases h), fun h => absurd (h3.2 ⟨h.nd, h.one⟩) h4⟩
  rw [if_neg (by rw [h4]; simp), List.all_eq_true]
  obtain ⟨hn, ho⟩ := h3.1 h4
  have hm : ∀ x ∈ l, (refMay line last l x = true ↔ (ofV line x.dev < x.seq → Ab line last l x) ∧ (¬ ofV line x.dev < x.seq → x.fm = false ∧ UptoV x.deps line)) := by
    intro x hx
    unfold refMay
    by_cases hu : ofV line x.dev < x.seq
    · rw [if_neg (by omega), refAbove_same hn hx h0 (ho x hx).deps hu, above_iff hn h0]
      exact ⟨fun h => ⟨fun _ => h, fun h' => absurd hu h'⟩, fun h => h.1 hu⟩
    · rw [if_pos (by omega), Bool.and_eq_true, Bool.not_eq_true', uptoB_iff]
      exact ⟨fun h => ⟨fun h' => absurd h' hu, fun _ => ⟨h.2, h.1⟩⟩, fun h => ⟨(h.2 hu).2, (h.2 hu).1⟩⟩
  exact ⟨fun h => ⟨hn, ho, fun x hx => ((hm x hx).1 (h x hx)).1, fun x hx => ((hm x hx).1 (h x hx)).2, h1, h2⟩, fun h x hx => (hm x hx).2 ⟨h.up x hx, h.down x hx⟩⟩
end Go.Proofs.YtnolbabpkhdpmaaGreat
