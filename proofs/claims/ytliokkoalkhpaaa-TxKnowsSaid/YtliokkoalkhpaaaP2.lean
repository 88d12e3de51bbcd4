/-
  Rows of anything that has bytes: what is put and got. Plain Lean, no program in sight.
-/
import Derived.Test.YtliokkoalkhpaaaC1P
namespace Go.Proofs.Ytliokkoalkhpaaa

section
variable {α : Type} (d : List UInt8 → Option (α × Nat)) (enc : α → List UInt8)

def putL (l : List α) : List UInt8 := put l.length ++ l.flatMap enc
def getKd : Nat → List UInt8 → Option (List α × Nat)
  | 0, _ => some ([], 0)
  | k + 1, b => match d b with
    | none => none
    | some (n, i) => match getKd k (b.drop i) with
      | none => none
      | some (l, m) => some (n :: l, i + m)
def getL (b : List UInt8) : Option (List α × Nat) :=
  match get b with
  | none => none
  | some (many, k) => if many < 0 then none else match getKd d many.toNat (b.drop k) with
    | none => none
    | some (l, m) => some (l, k + m)

/-- A decoder takes a byte or more, and no more than there are. -/
def Takes : Prop := ∀ b x i, d b = some (x, i) → 1 ≤ i ∧ i ≤ b.length
/-- What is got is what was put; only what is right is got. -/
def Puts (ok : α → Prop) : Prop := (∀ x r, ok x → d (enc x ++ r) = some (x, (enc x).length)) ∧ ∀ b x i, d b = some (x, i) → ok x ∧ b = enc x ++ b.drop i ∧ i = (enc x).length

variable {d enc}

theorem getKd_le (ht : Takes d) : ∀ (m : Nat) (b : List UInt8) (l : List α) (t : Nat), getKd d m b = some (l, t) → l.length = m ∧ m ≤ t ∧ t ≤ b.length := by
  intro m
  induction m with
  | zero => intro b l t h; simp only [getKd, Option.some.injEq, Prod.mk.injEq] at h; obtain ⟨rfl, rfl⟩ := h; simp
  | succ m ih =>
    intro b l t h
    unfold getKd at h
    cases hg : d b with
    | none => rw [hg] at h; cases h
    | some p =>
      obtain ⟨n, i⟩ := p
      rw [hg] at h
      simp only at h
      cases hk : getKd d m (b.drop i) with
      | none => rw [hk] at h; cases h
      | some q =>
        obtain ⟨l', m'⟩ := q
        rw [hk] at h
        simp only [Option.some.injEq, Prod.mk.injEq] at h
        obtain ⟨rfl, rfl⟩ := h
        have h1 := ih _ _ _ hk
        have h2 := ht _ _ _ hg
        simp only [List.length_drop] at h1
        simp only [List.length_cons]
        omega

/-- After so many rounds: what is still to be got, and what was got. -/
def RoundsD (d : List UInt8 → Option (α × Nat)) (b : List UInt8) (left at_ : Nat) (outs : List α) : Prop := getL d b = (getKd d left (b.drop at_)).map fun p => (outs ++ p.1, at_ + p.2)

theorem roundsD_start {b : List UInt8} {many : Nat} {k : Nat} (h : get b = some ((many : Int), k)) : RoundsD d b many k [] := by
  unfold RoundsD getL
  rw [h]
  simp only [Int.toNat_natCast]
  rw [if_neg (by omega)]
  cases getKd d many (b.drop k) with
  | none => rfl
  | some p => rfl
theorem roundsD_fail {b : List UInt8} {left at_ : Nat} {outs : List α} (h : RoundsD d b (left + 1) at_ outs) (hg : d (b.drop at_) = none) : getL d b = none := by
  rw [h, getKd, hg]
  rfl
theorem roundsD_next {b : List UInt8} {left at_ i : Nat} {n : α} {outs : List α} (h : RoundsD d b (left + 1) at_ outs) (hg : d (b.drop at_) = some (n, i)) : RoundsD d b left (at_ + i) (outs ++ [n]) := by
  unfold RoundsD at *
  rw [h, getKd, hg]
  simp only [List.drop_drop]
  cases getKd d left (b.drop (at_ + i)) with
  | none => rfl
  | some p => simp [Nat.add_assoc]
theorem roundsD_end {b : List UInt8} {at_ : Nat} {outs : List α} (h : RoundsD d b 0 at_ outs) : getL d b = some (outs, at_) := by
  rw [h]
  simp [getKd]
theorem getL_no {b : List UInt8} (h : get b = none) : getL d b = none := by unfold getL; rw [h]
theorem getL_neg {b : List UInt8} {n : Int} {k : Nat} (h : get b = some (n, k)) (hn : n < 0) : getL d b = none := by unfold getL; rw [h]; simp [hn]
theorem getL_many (ht : Takes d) {b : List UInt8} {n : Int} {k : Nat} (h : get b = some (n, k)) (hn : (b.length : Int) < n) : getL d b = none := by
  obtain ⟨m, rfl⟩ := Int.eq_ofNat_of_zero_le (show 0 ≤ n by omega)
  rw [roundsD_start h]
  cases hk : getKd d m (b.drop k) with
  | none => rfl
  | some p =>
    have := getKd_le ht _ _ p.1 p.2 hk
    simp only [List.length_drop] at this
    omega

/-- What is put is got. -/
theorem getKd_put {ok : α → Prop} (hp : Puts d enc ok) : ∀ (l : List α) (r : List UInt8), (∀ x ∈ l, ok x) → getKd d l.length (l.flatMap enc ++ r) = some (l, (l.flatMap enc).length) := by
  intro l
  induction l with
  | nil => intro r _; simp [getKd]
  | cons x l ih =>
    intro r hr
    have hx := hr x (List.mem_cons_self ..)
    simp only [List.flatMap_cons, List.append_assoc, List.length_cons, getKd, hp.1 x _ hx]
    have : (enc x ++ (l.flatMap enc ++ r)).drop (enc x).length = l.flatMap enc ++ r := by simp
    rw [this, ih r (fun y hy => hr y (List.mem_cons_of_mem _ hy))]
    simp

theorem getL_putL {ok : α → Prop} (hp : Puts d enc ok) (l : List α) (r : List UInt8) (hl : l.length ≤ 9223372036854775807) (hr : ∀ x ∈ l, ok x) : getL d (putL enc l ++ r) = some (l, (putL enc l).length) := by
  have hg : get (putL enc l ++ r) = some ((l.length : Int), (put l.length).length) := by
    unfold putL
    rw [List.append_assoc, get_put _ (by omega) (by omega)]
  rw [roundsD_start hg]
  have : (putL enc l ++ r).drop (put (l.length : Int)).length = l.flatMap enc ++ r := by unfold putL; simp
  rw [this, getKd_put hp l r hr]
  simp [putL]

theorem getKd_some {ok : α → Prop} (hp : Puts d enc ok) : ∀ (m : Nat) (b : List UInt8) (l : List α) (t : Nat), getKd d m b = some (l, t) → (∀ x ∈ l, ok x) ∧ b = l.flatMap enc ++ b.drop t ∧ t = (l.flatMap enc).length ∧ l.length = m := by
  intro m
  induction m with
  | zero => intro b l t h; simp only [getKd, Option.some.injEq, Prod.mk.injEq] at h; obtain ⟨rfl, rfl⟩ := h; simp
  | succ m ih =>
    intro b l t h
    unfold getKd at h
    cases hg : d b with
    | none => rw [hg] at h; cases h
    | some p =>
      obtain ⟨n, i⟩ := p
      rw [hg] at h
      simp only at h
      cases hk : getKd d m (b.drop i) with
      | none => rw [hk] at h; cases h
      | some q =>
        obtain ⟨l', m'⟩ := q
        rw [hk] at h
        simp only [Option.some.injEq, Prod.mk.injEq] at h
        obtain ⟨rfl, rfl⟩ := h
        obtain ⟨a1, a2, a3, a4⟩ := ih _ _ _ hk
        obtain ⟨b1, b2, b3⟩ := hp.2 _ _ _ hg
        refine ⟨?_, ?_, ?_, by simp [a4]⟩
        · intro x hx
          rcases List.mem_cons.1 hx with rfl | hx
          · exact b1
          · exact a1 x hx
        · rw [List.flatMap_cons, List.append_assoc]
          rw [List.drop_drop] at a2
          rw [← a2]; exact b2
        · rw [List.flatMap_cons, List.length_append, ← b3, ← a3]

theorem getL_some {ok : α → Prop} (hp : Puts d enc ok) {b : List UInt8} {l : List α} {t : Nat} (h : getL d b = some (l, t)) : (∀ x ∈ l, ok x) ∧ b = putL enc l ++ b.drop t ∧ t = (putL enc l).length := by
  unfold getL at h
  cases hg : get b with
  | none => rw [hg] at h; cases h
  | some p =>
    obtain ⟨n, k⟩ := p
    rw [hg] at h
    simp only at h
    split at h
    · cases h
    · rename_i hn
      obtain ⟨m, rfl⟩ := Int.eq_ofNat_of_zero_le (show 0 ≤ n by omega)
      cases hk : getKd d (m : Int).toNat (b.drop k) with
      | none => rw [hk] at h; cases h
      | some q =>
        obtain ⟨l', m'⟩ := q
        rw [hk] at h
        simp only [Option.some.injEq, Prod.mk.injEq] at h
        obtain ⟨rfl, rfl⟩ := h
        obtain ⟨a1, a2, a3, a4⟩ := getKd_some hp _ _ _ _ hk
        obtain ⟨_, _, b2, b3⟩ := get_some hg
        simp only [Int.toNat_natCast] at a4
        refine ⟨a1, ?_, ?_⟩
        · unfold putL
          rw [a4, List.append_assoc, ← List.drop_drop, ← a2]; exact b2
        · unfold putL
          rw [a4, List.length_append, ← b3, ← a3]

theorem getL_le (ht : Takes d) {b : List UInt8} {l : List α} {k : Nat} (h : getL d b = some (l, k)) : 1 ≤ k ∧ k ≤ b.length ∧ l.length ≤ b.length := by
  unfold getL at h
  cases hg : get b with
  | none => rw [hg] at h; cases h
  | some p =>
    obtain ⟨n, i⟩ := p
    rw [hg] at h
    have hl := get_le hg
    simp only at h
    split at h
    · cases h
    · cases hk : getKd d n.toNat (b.drop i) with
      | none => rw [hk] at h; cases h
      | some q =>
        obtain ⟨l', m'⟩ := q
        rw [hk] at h
        simp only [Option.some.injEq, Prod.mk.injEq] at h
        obtain ⟨rfl, rfl⟩ := h
        have := getKd_le ht _ _ _ _ hk
        simp only [List.length_drop] at this
        omega
end
end Go.Proofs.Ytliokkoalkhpaaa
