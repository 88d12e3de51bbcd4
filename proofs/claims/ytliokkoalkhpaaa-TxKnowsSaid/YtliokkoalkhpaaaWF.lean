/-
  Layer 17 (tx): contracts in the laws' spelling; what Few says.
-/
import Derived.Test.YtliokkoalkhpaaaWE
namespace Go.Proofs.Ytliokkoalkhpaaa
open Go.ChangeShapes Go.WideShapes Go.RowKit Go.Sort Go.BigFrame

section
variable {H : Type} {enc : TypeId × Value → H} {W : World} {base : Nat} {v : Value} {d : DataW H} {p : List MemPlace}
set_option maxRecDepth 100000 in
theorem open_dotT (hok : Value.okWide Try.prog W .any base 29 v) (h : DataW.Trod enc Try.prog W 0 (fun _ => true) true 29 v d p) : ∃ a b : Int, v = .agg #[.int .i64 a, .int .i64 b] := by
  obtain ⟨cs, rfl, hl, hcs⟩ := opn_agg (.inl ⟨_, Try.underlying29⟩) hok
  obtain ⟨n, h⟩ := h
  rw [hcs] at h
  rw [txDot] at hl
  obtain ⟨a, b, rfl, -, -⟩ := opn_dotT h hl
  exact ⟨a, b, rfl⟩
end

section
variable {dev seq time note whom upto : Int} {fm : Bool} {ad ao ae ah : Option Addr} {nd cd no co ne ce nh ch : Nat} {deps : List Int} {ops els : List OpM} {w : World}
theorem few_b (b : Bool) (hb : fewQ nd nh ops els = b) (hno : ops.length = no) (hne : els.length = ne) (ho : ORd w (.slice ao no co) ops) (he : ORd w (.slice ae ne ce) els) :
    Calls Try.prog 10 #[.agg #[.int .i64 dev, .int .i64 seq, .int .i64 time, .slice ad nd cd, .slice ao no co, .slice ae ne ce, .bool fm, .slice ah nh ch, .int .i64 note, .int .i64 whom, .int .i64 upto]] w fun e w' => e = .returned (.bool b) ∧ Below w.heap.size w w' := by
  subst hno hne
  rw [← hb]
  exact fewT_any ops els w ho he
theorem knew_b {d q : Int} (r : Bool) (hr : (decide (d = dev ∧ q = seq) || hasV deps ⟨d, q⟩) = r) (hnd : deps.length = nd) (hd : Rd w (.slice ad nd cd) deps.length (deps.map ic)) :
    Calls Try.prog 16 #[.agg #[.int .i64 dev, .int .i64 seq, .int .i64 time, .slice ad nd cd, .slice ao no co, .slice ae ne ce, .bool fm, .slice ah nh ch, .int .i64 note, .int .i64 whom, .int .i64 upto], .agg #[.int .i64 d, .int .i64 q]] w fun e w' => e = .returned (.bool r) ∧ Below w.heap.size w w' := by
  subst hnd
  rw [← hr]
  exact knew_any deps d q w hd
theorem knew_self (hnd : deps.length = nd) (hd : Rd w (.slice ad nd cd) deps.length (deps.map ic)) :
    Calls Try.prog 16 #[.agg #[.int .i64 dev, .int .i64 seq, .int .i64 time, .slice ad nd cd, .slice ao no co, .slice ae ne ce, .bool fm, .slice ah nh ch, .int .i64 note, .int .i64 whom, .int .i64 upto], .agg #[.int .i64 dev, .int .i64 seq]] w fun e w' => e = .returned (.bool true) ∧ Below w.heap.size w w' := knew_b true (by simp) hnd hd
theorem refKnew_b {d q : Int} (r : Bool) (hr : (decide (d = dev ∧ q = seq) || hasV deps ⟨d, q⟩) = r) (hnd : deps.length = nd) (hd : Rd w (.slice ad nd cd) deps.length (deps.map ic)) :
    Calls Try.prog 17 #[.agg #[.int .i64 dev, .int .i64 seq, .int .i64 time, .slice ad nd cd, .slice ao no co, .slice ae ne ce, .bool fm, .slice ah nh ch, .int .i64 note, .int .i64 whom, .int .i64 upto], .agg #[.int .i64 d, .int .i64 q]] w fun e w' => e = .returned (.bool r) ∧ Below w.heap.size w w' := by
  subst hnd
  rw [← hr]
  exact refKnew_any deps d q w hd
end

theorem valuesQ_iff {l : List OpM} (h : valuesQ l = true) : (∀ a ∈ l, opQ a.op = true) ∧ l.length ≤ 60 := by
  unfold valuesQ at h
  rw [Bool.and_eq_true, List.all_eq_true, decide_eq_true_eq] at h
  exact h
theorem fit_of {o : OpT} (h : opQ o = true) (hn : ∀ x ∈ o.nums, okI x) : o.fit := by
  unfold opQ at h
  rw [Bool.and_eq_true, Bool.and_eq_true, decide_eq_true_eq] at h
  obtain ⟨⟨h1, h2⟩, h3⟩ := h
  exact ⟨⟨hn, ⟨by omega, fun v hv => List.all_eq_true.1 h3 v hv⟩, h2⟩, by omega⟩
/-- What Few says of a transaction that came in. -/
structure FewF (nd nh : Nat) (ops els : List OpM) : Prop where
  fd : nd ≤ 80
  fh : nh ≤ 60
  fo : ops.length ≤ 60
  fe : els.length ≤ 60
  fof : ∀ a ∈ ops, a.op.fit
  fef : ∀ a ∈ els, a.op.fit
theorem few_facts {nd nh : Nat} {ops els : List OpM} (h : fewQ nd nh ops els = true) (ho : ∀ o ∈ ops, ∀ x ∈ o.op.nums, okI x) (he : ∀ o ∈ els, ∀ x ∈ o.op.nums, okI x) : FewF nd nh ops els := by
  unfold fewQ at h
  rw [Bool.and_eq_true, Bool.and_eq_true, Bool.and_eq_true, decide_eq_true_eq, decide_eq_true_eq] at h
  obtain ⟨h1, h2, h3, h4⟩ := h
  obtain ⟨a1, a2⟩ := valuesQ_iff h3
  obtain ⟨b1, b2⟩ := valuesQ_iff h4
  exact ⟨by omega, by omega, a2, b2, fun a ha => fit_of (a1 a ha) (ho a ha), fun a ha => fit_of (b1 a ha) (he a ha)⟩

/-! ### The same, but for noughts -/
theorem trimL_last (l : List Int) : (trimL l).getLast? ≠ some 0 := by
  unfold trimL
  rw [List.getLast?_reverse]
  intro h
  have h1 := List.head?_dropWhile_not (fun x : Int => decide (x = 0)) l.reverse
  rw [h] at h1
  simp at h1
theorem sameV_trim {a b : List Int} : SameV a b ↔ trimL a = trimL b := by
  refine ⟨fun h => ?_, fun h d => by rw [← ofV_trim a, ← ofV_trim b, h]⟩
  have hs : ∀ j : Nat, (trimL a).getD j 0 = (trimL b).getD j 0 := fun j => by
    have := h ((j : Int) + 1)
    rw [ofV_getD, ofV_getD] at this
    rw [trimL_getD, trimL_getD]; exact this
  have key : ∀ x y : List Int, (∀ j : Nat, (trimL x).getD j 0 = (trimL y).getD j 0) → (trimL x).length ≤ (trimL y).length := fun x y hxy => by
    rcases Nat.lt_or_ge (trimL y).length (trimL x).length with h2 | h2
    · have hx := hxy ((trimL x).length - 1)
      have hlt : (trimL x).length - 1 < (trimL x).length := by omega
      rw [List.getD_eq_getElem?_getD, List.getD_eq_getElem?_getD, List.getElem?_eq_none (l := trimL y) (by omega), List.getElem?_eq_getElem hlt] at hx
      have hl := trimL_last x
      rw [List.getLast?_eq_getElem?, List.getElem?_eq_getElem hlt] at hl
      simp only [Option.getD_some, Option.getD_none] at hx
      exact absurd (by rw [hx]) hl
    · exact h2
  have hl := Nat.le_antisymm (key a b hs) (key b a fun j => (hs j).symm)
  refine List.ext_getElem hl fun j h1 h2 => ?_
  have := hs j
  rw [List.getD_eq_getElem?_getD, List.getD_eq_getElem?_getD, List.getElem?_eq_getElem h1, List.getElem?_eq_getElem h2] at this
  exact this
theorem sameTx_iff {t u : TxT} : SameTx t u ↔ t.trim = u.trim := by
  obtain ⟨a1, a2, a3, a4, a5, a6, a7, a8, a9, a10, a11⟩ := t
  obtain ⟨b1, b2, b3, b4, b5, b6, b7, b8, b9, b10, b11⟩ := u
  simp only [TxT.trim, TxT.mk.injEq]
  constructor
  · rintro ⟨h1, h2, h3, h4, h5, h6, h7, h8, h9, h10, h11⟩
    exact ⟨h1, h2, h3, sameV_trim.1 h9, h10, h11, h4, h8, h5, h6, h7⟩
  · rintro ⟨h1, h2, h3, h4, h5, h6, h7, h8, h9, h10, h11⟩
    exact ⟨h1, h2, h3, h7, h9, h10, h11, h8, sameV_trim.2 h4, h5, h6⟩
end Go.Proofs.Ytliokkoalkhpaaa
