/-
  Layer 9 (bag), plain: what the laws say.
-/
import Derived.Test.YtnpciogpegmejaaG1
import Derived.Test.YtnpciogpegmejaaMO
namespace Go.Proofs.Ytnpciogpegmejaa
open Go.RowKit Go.Sort

theorem hasN_add_self (l : List Prt) (n : Int) (d : Dt) : hasN (addQ l n d) n = true := hasN_addQ.2 (.inl rfl)
theorem hasN_add_other (l : List Prt) {n m : Int} (d : Dt) (h : n ≠ m) : hasN (addQ l n d) m = hasN l m := by
  rw [Bool.eq_iff_iff, hasN_addQ]
  exact ⟨fun e => e.resolve_left (fun e => h e.symm), .inr⟩
/-- Of whom the taker did not know. -/
def stayN (l : List Prt) (n : Int) (d : Dt) (k : List Int) : Bool := l.any fun p => decide (p.v.n = n) && (!decide (p.d = d) && !hasV k p.d)
theorem hasN_take_self (l : List Prt) (n : Int) (d : Dt) (k : List Int) : hasN (takeQ l n d k) n = stayN l n d k := by
  rw [Bool.eq_iff_iff, hasN_takeQ]
  unfold stayN
  rw [List.any_eq_true]
  constructor
  · rintro ⟨p, hp, rfl, h | h⟩
    · exact absurd rfl h
    · exact ⟨p, hp, by simp [h]⟩
  · rintro ⟨p, hp, h⟩
    simp at h
    exact ⟨p, hp, h.1, .inr h.2⟩
theorem hasN_take_other (l : List Prt) {n m : Int} (d : Dt) (k : List Int) (h : n ≠ m) : hasN (takeQ l n d k) m = hasN l m := by
  rw [Bool.eq_iff_iff, hasN_takeQ, hasN_iff]
  constructor
  · rintro ⟨p, hp, e, _⟩; exact ⟨p, hp, e⟩
  · rintro ⟨p, hp, e⟩; exact ⟨p, hp, e, .inl fun e' => h (e'.symm.trans e)⟩
theorem rcQ_take {kd : Int} {cv : Val} {l : List Prt} (h : rcQ kd cv l = true) (n : Int) (d : Dt) (k : List Int) : rcQ kd cv (takeQ l n d k) = true := by
  have hr := rcQ_iff.1 h
  exact rcQ_iff.2 ⟨hr.kind, hr.val, fun p hp => hr.ok p (mem_takeQ.1 hp).1, takeQ_rise hr.rise n d k⟩

theorem stay_congr {n : Int} {d : Dt} {k : List Int} {x y : Prt} (h : eqQ x y = true) : stayQ n d k x = stayQ n d k y := by
  obtain ⟨h1, h2⟩ := eqQ_iff.1 h
  unfold stayQ
  rw [h1, h2]
/-- A put that outlasts a take. -/
theorem take_put {l : List Prt} (hr : RiseQ l) {n m : Int} {d e : Dt} {k : List Int} (hs : stayQ m e k (numP n d) = true) : takeQ (addQ l n d) m e k = addQ (takeQ l m e k) n d := by
  have hin : inQ (takeQ l m e k) (numP n d) = inQ l (numP n d) := by
    rw [Bool.eq_iff_iff, inQ_iff, inQ_iff]
    constructor
    · rintro ⟨q, hq, h⟩
      exact ⟨q, (List.mem_filter.1 hq).1, h⟩
    · rintro ⟨q, hq, h⟩
      exact ⟨q, List.mem_filter.2 ⟨hq, by rw [stay_congr (eqQ_iff.2 h)]; exact hs⟩, h⟩
  refine riseQ_unique (takeQ_rise (addQ_rise hr _ _) _ _ _) (addQ_rise (takeQ_rise hr _ _ _) _ _) fun x => ?_
  unfold takeQ at hin ⊢
  rw [List.mem_filter, mem_addQ, mem_addQ, hin, List.mem_filter]
  constructor
  · rintro ⟨⟨rfl, h⟩ | h, h'⟩
    · exact .inl ⟨rfl, h⟩
    · exact .inr ⟨h, h'⟩
  · rintro (⟨rfl, h⟩ | ⟨h, h'⟩)
    · exact ⟨.inl ⟨rfl, h⟩, hs⟩
    · exact ⟨.inr h, h'⟩
theorem stay_put {n m : Int} {d e : Dt} {k : List Int} (hne : d ≠ e) (h : n ≠ m ∨ hasV k d = false) : stayQ m e k (numP n d) = true := by
  unfold stayQ
  show (!decide (n = m) || (!decide (d = e) && !hasV k d)) = true
  rw [decide_eq_false hne]
  rcases h with h | h
  · rw [decide_eq_false h]; rfl
  · rw [h]; simp
theorem has_take_put {l : List Prt} {n m : Int} {d e : Dt} {k : List Int} (hs : stayQ m e k (numP n d) = true) : hasN (takeQ (addQ l n d) m e k) n = true := by
  obtain ⟨q, hq, h⟩ := inQ_iff.1 (addQ_in l n d)
  rw [hasN_iff]
  exact ⟨q, List.mem_filter.2 ⟨hq, by rw [stay_congr (eqQ_iff.2 h)]; exact hs⟩, h.1⟩
/-- The parts of a number. -/
def atN (l : List Prt) (n : Int) : List Prt := l.filter fun p => decide (p.v.n = n)
theorem at_taken (l : List Prt) {n : Int} {d e : Dt} {k : List Int} (hk : hasV k d = true) : hasP (atN (takeQ l n e k) n) d = false := by
  cases h : hasP (atN (takeQ l n e k) n) d with
  | false => rfl
  | true =>
    obtain ⟨p, hp, hd⟩ := hasP_iff.1 h
    obtain ⟨h1, h2⟩ := List.mem_filter.1 hp
    have h3 := of_decide_eq_true h2
    rcases (mem_takeQ.1 h1).2 with h4 | ⟨_, h4⟩
    · exact absurd h3 h4
    · rw [hd, hk] at h4; cases h4

/-- All that are known of parts. -/
def allV (l : List Prt) : List Int := l.foldl (fun v p => setL v p.d.dev (max (ofV v p.d.dev) p.d.seq)) []
theorem allV_snoc (l : List Prt) (p : Prt) : allV (l ++ [p]) = setL (allV l) p.d.dev (max (ofV (allV l) p.d.dev) p.d.seq) := by
  unfold allV
  rw [List.foldl_append]; rfl
theorem allV_next (l : List Prt) (k : Nat) (hk : k < l.length) : allV (l.take (k + 1)) = setL (allV (l.take k)) l[k].d.dev (max (ofV (allV (l.take k)) l[k].d.dev) l[k].d.seq) := by
  rw [List.take_succ_eq_append_getElem hk, allV_snoc]
theorem allV_take {l : List Prt} (h : ∀ p ∈ l, 1 ≤ p.d.dev ∧ p.d.dev ≤ 64) : ∀ k, k ≤ l.length → (allV (l.take k)).length ≤ 64 ∧ ∀ p ∈ l.take k, p.d.seq ≤ ofV (allV (l.take k)) p.d.dev
  | 0, _ => ⟨by rw [List.take_zero]; decide, fun p hp => by simp at hp⟩
  | k + 1, hk => by
    obtain ⟨h1, h2⟩ := allV_take h k (by omega)
    obtain ⟨d1, d2⟩ := h l[k] (List.getElem_mem (by omega))
    rw [allV_next l k (by omega)]
    refine ⟨?_, fun q hq => ?_⟩
    · refine Nat.le_trans (setL_len _ _ _) ?_
      omega
    · rw [ofV_setL _ _ d1]
      rw [List.take_succ_eq_append_getElem (show k < l.length by omega)] at hq
      rcases List.mem_append.1 hq with hq | hq
      · have := h2 q hq
        split
        · rename_i e; rw [← e]; omega
        · exact this
      · rw [List.mem_singleton.1 hq, if_pos rfl]
        omega
theorem allV_spec {l : List Prt} (h : ∀ p ∈ l, 1 ≤ p.d.dev ∧ p.d.dev ≤ 64) : (allV l).length ≤ 64 ∧ ∀ p ∈ l, p.d.seq ≤ ofV (allV l) p.d.dev := by
  have := allV_take h l.length (Nat.le_refl _)
  rwa [List.take_length] at this
theorem allV_has {l : List Prt} (h : ∀ p ∈ l, okQ p = true) {p : Prt} (hp : p ∈ l) : hasV (allV l) p.d = true := by
  have hs := (allV_spec fun q hq => (okQ_num (h q hq)).2.1).2 p hp
  have h1 := (okQ_num (h p hp)).2.2.1
  unfold hasV
  rw [decide_eq_true h1, decide_eq_true hs]; rfl
theorem count_put (l : List Prt) (n : Int) (d : Dt) : ((numsL (addQ l n d)).length : Int) = (numsL l).length + (if hasN l n = true then 0 else 1) := by
  cases h : hasN l n
  · rw [numsL_more h fun z => hasN_addQ]; simp
  · rw [if_pos rfl, numsL_same (l := addQ l n d) (m := l) fun z => by
      rw [hasN_addQ]
      exact ⟨fun e => e.elim (fun e => by rw [e]; exact h) id, .inr⟩]
    simp
theorem count_take {l : List Prt} (h : ∀ p ∈ l, okQ p = true) (n : Int) (d : Dt) : ((numsL (takeQ (addQ l n d) n d (allV l))).length : Int) = (numsL (addQ l n d)).length - 1 := by
  have hno : hasN (takeQ (addQ l n d) n d (allV l)) n = false := by
    cases e : hasN (takeQ (addQ l n d) n d (allV l)) n with
    | false => rfl
    | true =>
      obtain ⟨p, hp, h1, h2⟩ := hasN_takeQ.1 e
      rcases h2 with h2 | ⟨h2, h3⟩
      · exact absurd h1 h2
      · rcases mem_addQ.1 hp with ⟨rfl, _⟩ | hp
        · exact absurd rfl h2
        · rw [allV_has h hp] at h3; cases h3
  have := numsL_more (l := takeQ (addQ l n d) n d (allV l)) (m := addQ l n d) (n := n) hno fun z => by
    constructor
    · intro hz
      by_cases e : z = n
      · exact .inl e
      · rw [hasN_take_other _ _ _ (fun e' => e e'.symm)]; exact .inr hz
    · rintro (rfl | hz)
      · exact hasN_add_self _ _ _
      · obtain ⟨p, hp, h1, _⟩ := hasN_takeQ.1 hz
        exact hasN_iff.2 ⟨p, hp, h1⟩
  omega
end Go.Proofs.Ytnpciogpegmejaa
