/-
  Layer 17 (tx), plain: codecs put together; what a transaction's bytes are, and what is got back.
-/
import Derived.Test.YtliokkoalkhpaaaRP
namespace Go.Proofs.Ytliokkoalkhpaaa

section
variable {α β : Type} {d : List UInt8 → Option (α × Nat)} {f : α → List UInt8} {ok : α → Prop} {e : List UInt8 → Option (β × Nat)} {g : β → List UInt8} {ok2 : β → Prop}

/-- One behind the other. -/
def seqD (d : List UInt8 → Option (α × Nat)) (e : List UInt8 → Option (β × Nat)) (b : List UInt8) : Option ((α × β) × Nat) :=
  match d b with
  | none => none
  | some (x, i) => match e (b.drop i) with
    | none => none
    | some (y, k) => some ((x, y), i + k)
theorem seqD_puts (hd : Puts d f ok) (he : Puts e g ok2) : Puts (seqD d e) (fun p => f p.1 ++ g p.2) (fun p => ok p.1 ∧ ok2 p.2) := by
  refine ⟨fun x r h => ?_, fun b x i h => ?_⟩
  · unfold seqD
    rw [List.append_assoc, hd.1 x.1 _ h.1]
    simp only [List.drop_left]
    rw [he.1 x.2 r h.2, List.length_append]
  · unfold seqD at h
    cases h1 : d b with
    | none => rw [h1] at h; cases h
    | some p =>
      obtain ⟨u, j⟩ := p
      rw [h1] at h
      simp only at h
      cases h2 : e (b.drop j) with
      | none => rw [h2] at h; cases h
      | some q =>
        obtain ⟨v, k⟩ := q
        rw [h2] at h
        cases h
        obtain ⟨a1, a2, a3⟩ := hd.2 _ _ _ h1
        obtain ⟨b1, b2, b3⟩ := he.2 _ _ _ h2
        refine ⟨⟨a1, b1⟩, ?_, by rw [List.length_append, ← a3, ← b3]⟩
        show b = (f u ++ g v) ++ b.drop (j + k)
        rw [← List.drop_drop, List.append_assoc, ← b2]
        exact a2
/-- Only what is so. -/
def onlyD (p : α → Bool) (d : List UInt8 → Option (α × Nat)) (b : List UInt8) : Option (α × Nat) :=
  match d b with
  | none => none
  | some q => if p q.1 then some q else none
theorem onlyD_puts (p : α → Bool) (hd : Puts d f ok) : Puts (onlyD p d) f (fun x => ok x ∧ p x = true) := by
  refine ⟨fun x r h => ?_, fun b x i h => ?_⟩
  · unfold onlyD
    rw [hd.1 x r h.1]
    simp only
    rw [if_pos h.2]
  · unfold onlyD at h
    cases h1 : d b with
    | none => rw [h1] at h; cases h
    | some q =>
      rw [h1] at h
      simp only at h
      split at h
      · rename_i hp
        cases h
        obtain ⟨a1, a2, a3⟩ := hd.2 _ _ _ h1
        exact ⟨⟨a1, hp⟩, a2, a3⟩
      · cases h
/-- In another shape. -/
def mapD (u : α → β) (d : List UInt8 → Option (α × Nat)) (b : List UInt8) : Option (β × Nat) := (d b).map fun q => (u q.1, q.2)
theorem mapD_puts (u : α → β) (v : β → α) (hd : Puts d f ok) (hv : ∀ x, ok x → v (u x) = x) (hu : ∀ y, ok (v y) → u (v y) = y) : Puts (mapD u d) (fun y => f (v y)) (fun y => ok (v y)) := by
  refine ⟨fun x r h => ?_, fun b x i h => ?_⟩
  · unfold mapD
    rw [hd.1 (v x) r h]
    simp only [Option.map_some, hu x h]
  · unfold mapD at h
    cases h1 : d b with
    | none => rw [h1] at h; cases h
    | some q =>
      obtain ⟨a, j⟩ := q
      rw [h1] at h
      cases h
      obtain ⟨a1, a2, a3⟩ := hd.2 _ _ _ h1
      simp only [hv a a1]
      exact ⟨a1, a2, a3⟩
theorem puts_mono {ok' : α → Prop} (hd : Puts d f ok) (h1 : ∀ x, ok x ↔ ok' x) : Puts d f ok' := by
  refine ⟨fun x r h => hd.1 x r ((h1 x).2 h), fun b x i h => ?_⟩
  obtain ⟨a1, a2, a3⟩ := hd.2 _ _ _ h
  exact ⟨(h1 x).1 a1, a2, a3⟩
/-- So many at most. -/
theorem listD_puts (m : Nat) (hm : m ≤ 9223372036854775807) (hd : Puts d f ok) : Puts (onlyD (fun l : List α => decide (l.length ≤ m)) (getL d)) (putL f) (fun l => l.length ≤ m ∧ ∀ x ∈ l, ok x) := by
  refine ⟨fun x r h => ?_, fun b x i h => ?_⟩
  · unfold onlyD
    rw [getL_putL hd x r (by omega) h.2]
    simp only
    rw [if_pos (by simpa using h.1)]
  · unfold onlyD at h
    cases h1 : getL d b with
    | none => rw [h1] at h; cases h
    | some q =>
      rw [h1] at h
      simp only at h
      split at h
      · rename_i hp
        cases h
        obtain ⟨a1, a2, a3⟩ := getL_some hd h1
        exact ⟨⟨by simpa using hp, a1⟩, a2, a3⟩
      · cases h
theorem getL_puts (ht : Takes d) (hd : Puts d f ok) : Puts (getL d) (putL f) (fun l => l.length ≤ 9223372036854775807 ∧ ∀ x ∈ l, ok x) := by
  refine ⟨fun x r h => getL_putL hd x r h.1 h.2, fun b l i h => ?_⟩
  obtain ⟨a1, a2, a3⟩ := getL_some hd h
  refine ⟨⟨?_, a1⟩, a2, a3⟩
  unfold getL at h
  cases hg : get b with
  | none => rw [hg] at h; cases h
  | some q =>
    obtain ⟨n, k⟩ := q
    rw [hg] at h
    simp only at h
    split at h
    · cases h
    · cases hk : getKd d n.toNat (b.drop k) with
      | none => rw [hk] at h; cases h
      | some r =>
        obtain ⟨l', m⟩ := r
        rw [hk] at h
        cases h
        have h1 := (getKd_le ht _ _ _ _ hk).1
        have h2 := (get_some hg).2.1
        omega

/-- Read whole. -/
def wholeD (d : List UInt8 → Option (α × Nat)) (b : List UInt8) : Option α :=
  match d b with
  | none => none
  | some q => if q.2 = b.length then some q.1 else none
theorem wholeD_put (hd : Puts d f ok) {x : α} (h : ok x) : wholeD d (f x) = some x := by
  unfold wholeD
  have := hd.1 x [] h
  rw [List.append_nil] at this
  rw [this]
  simp
theorem wholeD_some (hd : Puts d f ok) {b : List UInt8} {x : α} (h : wholeD d b = some x) : ok x ∧ b = f x := by
  unfold wholeD at h
  cases h1 : d b with
  | none => rw [h1] at h; cases h
  | some q =>
    obtain ⟨y, i⟩ := q
    rw [h1] at h
    simp only at h
    split at h
    · rename_i hi
      cases h
      obtain ⟨a1, a2, a3⟩ := hd.2 _ _ _ h1
      refine ⟨a1, ?_⟩
      rw [hi, List.drop_length, List.append_nil] at a2
      exact a2
    · cases h
/-- Nothing that is shorter is read. -/
theorem wholeD_short (hd : Puts d f ok) {x : α} (h : ok x) {k : Nat} (hk : k < (f x).length) : wholeD d ((f x).take k) = none := by
  cases h1 : wholeD d ((f x).take k) with
  | none => rfl
  | some y =>
    obtain ⟨a1, a2⟩ := wholeD_some hd h1
    have h2 := hd.1 y ((f x).drop k) a1
    rw [← a2, List.take_append_drop] at h2
    have h3 := hd.1 x [] h
    rw [List.append_nil, h2] at h3
    simp only [Option.some.injEq, Prod.mk.injEq] at h3
    have h5 := h3.2
    rw [List.length_take] at h5
    omega
/-- Nothing that is longer is read. -/
theorem wholeD_long (hd : Puts d f ok) {x : α} (h : ok x) {r : List UInt8} (hr : r ≠ []) : wholeD d (f x ++ r) = none := by
  unfold wholeD
  rw [hd.1 x r h]
  simp only
  rw [if_neg]
  rw [List.length_append]
  have := List.length_pos_iff.2 hr
  omega
theorem puts_inj (hd : Puts d f ok) {x y : α} (hx : ok x) (hy : ok y) : f x = f y ↔ x = y := by
  refine ⟨fun h => ?_, fun h => by rw [h]⟩
  have h1 := wholeD_put hd hx
  rw [h, wholeD_put hd hy] at h1
  exact (Option.some.inj h1).symm
end

/-! ### Numbers -/
abbrev okI (x : Int) : Prop := -9223372036854775808 ≤ x ∧ x ≤ 9223372036854775807
theorem get_puts : Puts get put okI := by
  refine ⟨fun x r h => get_put x h.1 h.2 r, fun b x i h => ?_⟩
  obtain ⟨h1, h2, h3, h4⟩ := get_some h
  exact ⟨⟨h1, h2⟩, h3, h4⟩
theorem get_takes : Takes get := fun _ _ _ h => ⟨(get_le h).1, (get_le h).2.2⟩
theorem getK_eq : ∀ (k : Nat) (b : List UInt8), getK k b = getKd get k b
  | 0, _ => rfl
  | k + 1, b => by
    unfold getK getKd
    cases get b with
    | none => rfl
    | some p =>
      obtain ⟨n, i⟩ := p
      simp only [getK_eq k]
      cases getKd get k (b.drop i) <;> rfl
theorem getNums_eq (b : List UInt8) : getNums b = getL get b := by
  unfold getNums getL
  cases get b with
  | none => rfl
  | some p =>
    obtain ⟨n, k⟩ := p
    simp only [getK_eq]
    by_cases h : n < 0
    · simp [h]
    · simp only [h, if_false]
      cases getKd get n.toNat (b.drop k) <;> rfl
/-- Seven numbers. -/
def sevenD : List UInt8 → Option (List Int × Nat) := onlyD (fun l => decide (l.length = 7)) getNums
theorem sevenD_puts : Puts sevenD nums (fun l => l.length = 7 ∧ ∀ x ∈ l, okI x) := by
  have h := onlyD_puts (fun l : List Int => decide (l.length = 7)) (listD_puts 7 (by decide) get_puts)
  have he : onlyD (fun l : List Int => decide (l.length = 7)) (onlyD (fun l : List Int => decide (l.length ≤ 7)) (getL get)) = sevenD := by
    funext b
    unfold sevenD onlyD
    rw [getNums_eq]
    cases getL get b with
    | none => rfl
    | some q =>
      by_cases h1 : q.1.length = 7
      · simp [h1]
      · by_cases h2 : q.1.length ≤ 7 <;> simp [h1, h2]
  rw [he] at h
  refine puts_mono h fun x => ?_
  simp only [decide_eq_true_eq]
  exact ⟨fun h => ⟨h.2, h.1.2⟩, fun h => ⟨⟨by omega, h.2⟩, h.1⟩⟩

/-! ### Operations, hand-overs, transactions -/
structure OpT where
  kind : Int
  table : Int
  key : Int
  col : Int
  row : List Val
  val : Val
  after : Int × Int
  at_ : Int
structure HandT where
  to : Int
  kind : Int
  table : Int
  col : Int
  lo : Int
  hi : Int
  amt : Int
def OpT.nums (o : OpT) : List Int := [o.kind, o.table, o.key, o.col, o.after.1, o.after.2, o.at_]
def HandT.nums (h : HandT) : List Int := [h.to, h.kind, h.table, h.col, h.lo, h.hi, h.amt]
def opOf (p : List Int × (List Val × Val)) : OpT :=
  ⟨p.1.getD 0 0, p.1.getD 1 0, p.1.getD 2 0, p.1.getD 3 0, p.2.1, p.2.2, (p.1.getD 4 0, p.1.getD 5 0), p.1.getD 6 0⟩
def handOf (l : List Int) : HandT := ⟨l.getD 0 0, l.getD 1 0, l.getD 2 0, l.getD 3 0, l.getD 4 0, l.getD 5 0, l.getD 6 0⟩
theorem seven_of {l : List Int} (h : l.length = 7) : ∃ a b c d e f g, l = [a, b, c, d, e, f, g] := by
  match l, h with
  | [a, b, c, d, e, f, g], _ => exact ⟨a, b, c, d, e, f, g, rfl⟩
abbrev okRow (l : List Val) : Prop := l.length ≤ 9223372036854775807 ∧ ∀ v ∈ l, rightV v = true
def OpT.ok (o : OpT) : Prop := (∀ x ∈ o.nums, okI x) ∧ okRow o.row ∧ rightV o.val = true
def HandT.ok (h : HandT) : Prop := ∀ x ∈ h.nums, okI x
def bytesOp (o : OpT) : List UInt8 := nums o.nums ++ (bytesR o.row ++ bytesV o.val)
def bytesHand (h : HandT) : List UInt8 := nums h.nums
def opD : List UInt8 → Option (OpT × Nat) := mapD opOf (seqD sevenD (seqD getR getVal))
def handD : List UInt8 → Option (HandT × Nat) := mapD handOf sevenD
theorem opD_puts : Puts opD bytesOp OpT.ok := by
  have h := mapD_puts opOf (fun o : OpT => (o.nums, (o.row, o.val))) (seqD_puts sevenD_puts (seqD_puts (getL_puts getVal_takes getVal_puts) getVal_puts)) (fun x h => by
    obtain ⟨l, r, v⟩ := x
    obtain ⟨a, b, c, d, e, f, g, rfl⟩ := seven_of h.1.1
    rfl) (fun y _ => rfl)
  exact puts_mono h fun o => ⟨fun h => ⟨h.1.2, h.2.1, h.2.2⟩, fun h => ⟨⟨rfl, h.1⟩, h.2.1, h.2.2⟩⟩
theorem handD_puts : Puts handD bytesHand HandT.ok := by
  have h := mapD_puts handOf HandT.nums sevenD_puts (fun l h => by
    obtain ⟨a, b, c, d, e, f, g, rfl⟩ := seven_of h.1
    rfl) (fun y _ => rfl)
  exact puts_mono h fun o => ⟨fun h => h.2, fun h => ⟨rfl, h⟩⟩

structure TxT where
  dev : Int
  seq : Int
  time : Int
  deps : List Int
  ops : List OpT
  els : List OpT
  firm : Bool
  hands : List HandT
  note : Int
  whom : Int
  upto : Int
def firmI (b : Bool) : Int := if b then 1 else 0
def TxT.head (t : TxT) : List Int := [t.dev, t.seq, t.time, firmI t.firm, t.note, t.whom, t.upto]
def txOf (p : List Int × (List Int × (List OpT × (List OpT × List HandT)))) : TxT :=
  ⟨p.1.getD 0 0, p.1.getD 1 0, p.1.getD 2 0, p.2.1, p.2.2.1, p.2.2.2.1, decide (p.1.getD 3 0 = 1), p.2.2.2.2, p.1.getD 4 0, p.1.getD 5 0, p.1.getD 6 0⟩
def headD : List UInt8 → Option (List Int × Nat) := onlyD (fun l => decide (0 ≤ l.getD 3 0 ∧ l.getD 3 0 ≤ 1)) sevenD
def depsD : List UInt8 → Option (List Int × Nat) := onlyD (fun l => decide (l.getLast? ≠ some 0)) getNums
def opsD : List UInt8 → Option (List OpT × Nat) := onlyD (fun l => decide (l.length ≤ 2000)) (getL opD)
def handsD : List UInt8 → Option (List HandT × Nat) := onlyD (fun l => decide (l.length ≤ 2000)) (getL handD)
def txD : List UInt8 → Option (TxT × Nat) := mapD txOf (seqD headD (seqD depsD (seqD opsD (seqD opsD handsD))))
def bytesT (t : TxT) : List UInt8 := nums t.head ++ (nums t.deps ++ (putL bytesOp t.ops ++ (putL bytesOp t.els ++ putL bytesHand t.hands)))
/-- Which transactions are read back as they were written. -/
structure TxT.ok (t : TxT) : Prop where
  head : ∀ x ∈ t.head, okI x
  deps : t.deps.length ≤ 9223372036854775807 ∧ ∀ x ∈ t.deps, okI x
  last : t.deps.getLast? ≠ some 0
  ops : t.ops.length ≤ 2000 ∧ ∀ o ∈ t.ops, o.ok
  els : t.els.length ≤ 2000 ∧ ∀ o ∈ t.els, o.ok
  hands : t.hands.length ≤ 2000 ∧ ∀ h ∈ t.hands, h.ok
theorem getNums_puts : Puts getNums nums (fun l => l.length ≤ 9223372036854775807 ∧ ∀ x ∈ l, okI x) := by
  have h := getL_puts get_takes get_puts
  have he : getL get = getNums := by funext b; rw [getNums_eq]
  rw [he] at h
  exact h
theorem firmI_bd (b : Bool) : 0 ≤ firmI b ∧ firmI b ≤ 1 := by cases b <;> decide
theorem txD_puts : Puts txD bytesT TxT.ok := by
  have h := mapD_puts txOf (fun t : TxT => (t.head, (t.deps, (t.ops, (t.els, t.hands)))))
    (seqD_puts (onlyD_puts (fun l : List Int => decide (0 ≤ l.getD 3 0 ∧ l.getD 3 0 ≤ 1)) sevenD_puts)
      (seqD_puts (onlyD_puts (fun l : List Int => decide (l.getLast? ≠ some 0)) getNums_puts)
        (seqD_puts (listD_puts 2000 (by decide) opD_puts) (seqD_puts (listD_puts 2000 (by decide) opD_puts) (listD_puts 2000 (by decide) handD_puts)))))
    (fun x h => by
      obtain ⟨l, ds, os, es, hs⟩ := x
      obtain ⟨⟨⟨h7, -⟩, hf⟩, -⟩ := h
      obtain ⟨a, b, c, d, e, f, g, rfl⟩ := seven_of h7
      have hd : 0 ≤ d ∧ d ≤ 1 := of_decide_eq_true hf
      have hfi : firmI (decide (d = 1)) = d := by
        by_cases h1 : d = 1
        · subst h1; rfl
        · have : d = 0 := by omega
          subst this; rfl
      show ([a, b, c, firmI (decide (d = 1)), e, f, g], (ds, (os, (es, hs)))) = ([a, b, c, d, e, f, g], (ds, (os, (es, hs))))
      rw [hfi]) (fun y _ => by
      obtain ⟨_, _, _, _, _, _, fm, _, _, _, _⟩ := y
      cases fm <;> rfl)
  refine puts_mono h fun t => ⟨fun h => ?_, fun h => ?_⟩
  · obtain ⟨⟨⟨-, h1⟩, -⟩, ⟨h2, h3⟩, h4, h5, h6⟩ := h
    exact ⟨h1, h2, by simpa using h3, h4, h5, h6⟩
  · refine ⟨⟨⟨rfl, h.head⟩, ?_⟩, ⟨h.deps, by simpa using h.last⟩, h.ops, h.els, h.hands⟩
    have := firmI_bd t.firm
    simpa [TxT.head] using this

/-- What a reader answers. -/
def parseT (b : List UInt8) : Option TxT := wholeD txD b
theorem parseT_bytes {t : TxT} (h : t.ok) : parseT (bytesT t) = some t := wholeD_put txD_puts h
theorem parseT_some {b : List UInt8} {t : TxT} (h : parseT b = some t) : t.ok ∧ b = bytesT t := wholeD_some txD_puts h
theorem parseT_short {t : TxT} (h : t.ok) {k : Nat} (hk : k < (bytesT t).length) : parseT ((bytesT t).take k) = none := wholeD_short txD_puts h hk
theorem parseT_long {t : TxT} (h : t.ok) (x : UInt8) : parseT (bytesT t ++ [x]) = none := wholeD_long txD_puts h (by simp)
theorem bytesT_inj {t u : TxT} (ht : t.ok) (hu : u.ok) : bytesT t = bytesT u ↔ t = u := puts_inj txD_puts ht hu
end Go.Proofs.Ytliokkoalkhpaaa
