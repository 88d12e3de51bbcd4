/-
  A region that draws its order, walked once, in the text's order: calls that make memory let in (what they hand back is told by what stays true while memory grows), what ends it (stores, appends) walked behind.
-/
import Derived.Test.YtnolbabpkhdpmaaGreatRI
namespace Go.Proofs.YtnolbabpkhdpmaaGreat
open Go.RowKit Go.Sort

/-- What is told of an operation that may make memory: of what it yields, and of it in each later world; the blocks that it made are from one number to less than another one. -/
structure FlowSpec where
  S : Value → Prop
  R : Value → Nat → Nat → World → Prop

abbrev Ext (w w' : World) : Prop := Below w.heap.size w w'
abbrev Cls (w0 : World) (w : World) : Prop := ∃ p : Regrown, w = grow (redrawn w0 p.d) p.os
theorem cls_ext {w0 w : World} (h : Cls w0 w) : Ext w0 w := by obtain ⟨p, rfl⟩ := h; exact below_regrown _ _ _
theorem ext_cls {w0 w : World} (h : Ext w0 w) : Cls w0 w := regrown_of_below h

def dstOf (l : List Oper) (j : Nat) : Option Tmp := (l[j]?).bind (·.dst)
/-- The slots that an operation looks at. -/
def seesOf (l : List Oper) (o : Oper) : List Tmp :=
  (o.op.operands.toList.filterMap fun | .tmp t => some t | _ => none) ++ (match o.guard with | some (g, _) => (dstOf l g).toList | none => [])
def maskOf (acc : List Nat) (o : Oper) : Nat := o.after.toList.foldl (fun s e => if Region.binds .any e then s ||| (2 ^ e.on ||| acc.getD e.on 0) else s) 0
/-- Which operations stand ahead of each, through others too. -/
def masksFrom : List Oper → List Nat → List Nat
  | [], acc => acc
  | o :: r, acc => masksFrom r (acc ++ [maskOf acc o])
def masks (l : List Oper) : List Nat := masksFrom l []
def ahead (l : List Oper) (j i : Nat) : Bool := ((masks l).getD i 0).testBit j

def plainOp : Op → Bool
  | .move _ | .assign _ | .pick .. | .build .. | .load .. | .binOp .. | .unOp .. | .convert .. | .field .. | .fieldAddr .. | .indexAddr .. | .index .. | .slice .. | .extract .. => true
  | .call { callee := .builtin .len, .. } | .call { callee := .builtin .cap, .. } | .call { callee := .builtin .max, .. } | .call { callee := .builtin .min, .. } => true
  | _ => false
def isSelect : Op → Bool
  | .select .. => true
  | _ => false

/-- May a region be walked so: its first m operations flow, the others stand behind all those ahead of them? -/
def flowB (l : List Oper) (m : Nat) (R : Nat → Bool) : Bool :=
  backB l && decide (m ≤ l.length) && l.all (fun o => !isSelect o.op) &&
  (List.range l.length).all (fun i => (List.range l.length).all fun j => i == j ||
    (match l[i]?, dstOf l j with
      | some o, some t => (!((seesOf l o).contains t) && dstOf l i != some t) || ahead l j i || ahead l i j
      | _, _ => true)) &&
  (List.range l.length).all (fun i => decide (i < m) || (List.range i).all fun j => ahead l j i) &&
  (List.range l.length).all (fun i => R i || !decide (i < m) || ((l[i]?).map fun o => plainOp o.op).getD true)

/-! ### Masks -/
theorem masksFrom_get : ∀ (r : List Oper) (acc : List Nat) (i : Nat), i < acc.length → (masksFrom r acc).getD i 0 = acc.getD i 0
  | [], _, _, _ => rfl
  | o :: r, acc, i, h => by
    unfold masksFrom
    rw [masksFrom_get r _ i (by simp; omega)]
    simp only [List.getD_eq_getElem?_getD]
    rw [List.getElem?_append_left h]

theorem foldl_bit (acc : List Nat) (j : Nat) : ∀ (es : List Edge) (s : Nat), (es.foldl (fun s e => if Region.binds .any e then s ||| (2 ^ e.on ||| acc.getD e.on 0) else s) s).testBit j = true →
    s.testBit j = true ∨ ∃ e ∈ es, Region.binds .any e = true ∧ (e.on = j ∨ (acc.getD e.on 0).testBit j = true)
  | [], s, h => .inl h
  | e :: es, s, h => by
    rw [List.foldl_cons] at h
    rcases foldl_bit acc j es _ h with h | ⟨e', he', h⟩
    · by_cases hb : Region.binds .any e = true
      · rw [if_pos hb] at h
        simp only [Nat.testBit_or, Bool.or_eq_true, Nat.testBit_two_pow, decide_eq_true_eq] at h
        rcases h with h | h | h
        · exact .inl h
        · exact .inr ⟨e, by simp, hb, .inl h⟩
        · exact .inr ⟨e, by simp, hb, .inr h⟩
      · rw [if_neg hb] at h; exact .inl h
    · exact .inr ⟨e', by simp [he'], h⟩

theorem foldl_bit_mono (acc : List Nat) (j : Nat) : ∀ (es : List Edge) (s : Nat), s.testBit j = true → (es.foldl (fun s e => if Region.binds .any e then s ||| (2 ^ e.on ||| acc.getD e.on 0) else s) s).testBit j = true
  | [], s, h => h
  | e :: es, s, h => by
    rw [List.foldl_cons]
    refine foldl_bit_mono acc j es _ ?_
    split
    · simp [Nat.testBit_or, h]
    · exact h
theorem foldl_bit_mem (acc : List Nat) : ∀ (es : List Edge) (s : Nat) (e : Edge), e ∈ es → Region.binds .any e = true → (es.foldl (fun s e => if Region.binds .any e then s ||| (2 ^ e.on ||| acc.getD e.on 0) else s) s).testBit e.on = true
  | x :: es, s, e, he, hb => by
    rw [List.foldl_cons]
    rcases List.mem_cons.1 he with rfl | he
    · refine foldl_bit_mono acc _ es _ ?_
      rw [if_pos hb]
      simp [Nat.testBit_or]
    · exact foldl_bit_mem acc es _ e he hb

/-- What a closed set holds. -/
theorem masks_spec (l : List Oper) : ∀ (r : List Oper) (acc : List Nat) (pre : List Oper), l = pre ++ r → acc.length = pre.length →
    (∀ i o, pre[i]? = some o → acc.getD i 0 = maskOf acc o ∨ ∃ a', acc.getD i 0 = maskOf a' o ∧ ∀ k, k < i → a'.getD k 0 = acc.getD k 0) → backB l = true →
    ∀ i o, l[i]? = some o → ∃ a', (masksFrom r acc).getD i 0 = maskOf a' o ∧ ∀ k, k < i → a'.getD k 0 = (masksFrom r acc).getD k 0
  | [], acc, pre, hl, hlen, h, hB, i, o, ho => by
    have hp : pre[i]? = some o := by rw [hl] at ho; simpa using ho
    rcases h i o hp with h | ⟨a', h, h'⟩
    · exact ⟨acc, h, fun _ _ => rfl⟩
    · exact ⟨a', h, h'⟩
  | x :: r, acc, pre, hl, hlen, h, hB, i, o, ho => by
    unfold masksFrom
    refine masks_spec l r (acc ++ [maskOf acc x]) (pre ++ [x]) (by simp [hl]) (by simp [hlen]) (fun i o hi => ?_) hB i o ho
    rcases Nat.lt_or_ge i pre.length with hip | hip
    · rw [List.getElem?_append_left hip] at hi
      have hg : (acc ++ [maskOf acc x]).getD i 0 = acc.getD i 0 := by simp only [List.getD_eq_getElem?_getD]; rw [List.getElem?_append_left (by omega)]
      rw [hg]
      rcases h i o hi with h | ⟨a', h, h'⟩
      · exact .inr ⟨acc, h, fun k hk => by simp only [List.getD_eq_getElem?_getD]; rw [List.getElem?_append_left (by omega)]⟩
      · exact .inr ⟨a', h, fun k hk => by rw [h' k hk]; simp only [List.getD_eq_getElem?_getD]; rw [List.getElem?_append_left (by omega)]⟩
    · have hie : i = pre.length := by
        rcases Nat.lt_or_ge pre.length i with h1 | h1
        · rw [List.getElem?_eq_none (by simp; omega)] at hi; cases hi
        · omega
      subst hie
      have hx : x = o := by simpa using hi
      subst hx
      refine .inr ⟨acc, ?_, fun k hk => ?_⟩
      · simp only [List.getD_eq_getElem?_getD]
        rw [← hlen]
        simp
      · simp only [List.getD_eq_getElem?_getD]; rw [List.getElem?_append_left (by omega)]

section
variable {l : List Oper} (hB : backB l = true)
include hB

theorem back_lt {i : Nat} {o : Oper} (ho : l[i]? = some o) {e : Edge} (he : e ∈ o.after.toList) : e.on < i := by
  have hi : i < l.length := by
    rcases Nat.lt_or_ge i l.length with h | h
    · exact h
    · rw [List.getElem?_eq_none h] at ho; cases ho
  have hb := (List.all_eq_true.1 hB) i (by simpa using hi)
  rw [ho] at hb
  simp only [Option.map_some, Option.getD_some, Array.all_eq_true'] at hb
  simpa using hb e (by simpa using he)

theorem ahead_step {j i : Nat} (h : ahead l j i = true) : ∃ o e, l[i]? = some o ∧ e ∈ o.after.toList ∧ Region.binds .any e = true ∧ (e.on = j ∨ ahead l j e.on = true) := by
  unfold ahead masks at h
  rcases Nat.lt_or_ge i l.length with hi | hi
  · obtain ⟨a', h1, h2⟩ := masks_spec l l [] [] rfl rfl (fun i o h => by simp at h) hB i l[i] (List.getElem?_eq_getElem hi)
    rw [h1] at h
    unfold maskOf at h
    rcases foldl_bit a' j _ 0 h with h | ⟨e, he, hb, h⟩
    · simp at h
    · refine ⟨l[i], e, List.getElem?_eq_getElem hi, he, hb, ?_⟩
      rcases h with h | h
      · exact .inl h
      · refine .inr ?_
        unfold ahead masks
        rw [← h2 _ (back_lt hB (List.getElem?_eq_getElem hi) he)]
        exact h
  · have : (masksFrom l []).getD i 0 = 0 := by
      have hlen : ∀ (r : List Oper) (acc : List Nat), (masksFrom r acc).length = acc.length + r.length := by
        intro r
        induction r with
        | nil => intro acc; simp [masksFrom]
        | cons o r ih => intro acc; unfold masksFrom; rw [ih]; simp; omega
      rw [List.getD_eq_getElem?_getD, List.getElem?_eq_none (by rw [hlen]; simpa using hi)]; rfl
    rw [this] at h
    simp at h

theorem ahead_lt : ∀ {i j : Nat}, ahead l j i = true → j < i := by
  intro i
  induction i using Nat.strongRecOn with
  | _ i ih =>
    intro j h
    obtain ⟨o, e, ho, he, _, h⟩ := ahead_step hB h
    have := back_lt hB ho he
    rcases h with h | h
    · omega
    · have := ih _ this h; omega

theorem closed_ahead {d : Nat → Bool} (hd : Closed l d) : ∀ {i j : Nat}, d i = true → ahead l j i = true → d j = true := by
  intro i
  induction i using Nat.strongRecOn with
  | _ i ih =>
    intro j hi h
    obtain ⟨o, e, ho, he, hb, h⟩ := ahead_step hB h
    have h1 := hd i o ho hi e he hb
    rcases h with h | h
    · rw [← h]; exact h1
    · exact ih _ (back_lt hB ho he) h1 h

theorem after_ahead {d : Nat → Bool} (hd : Closed l d) {i : Nat} {o : Oper} (ho : l[i]? = some o) (hdep : ∀ e ∈ o.after.toList, Region.binds .any e = true → d e.on = true) {j : Nat} (h : ahead l j i = true) : d j = true := by
  obtain ⟨o', e, ho', he, hb, h⟩ := ahead_step hB h
  rw [ho] at ho'
  cases ho'
  have h1 := hdep e he hb
  rcases h with h | h
  · rw [← h]; exact h1
  · exact closed_ahead hB hd h1 h
end

/-! ### Frames -/
/-- The frame once the operations of d have been done, and have yielded v. -/
structure FrameOf (l : List Oper) (a0 : Act) (d : Nat → Bool) (v : Nat → Value) (a : Act) : Prop where
  defers : a.defers = a0.defers
  size : a.tmps.size = a0.tmps.size
  wrote : ∀ j t, d j = true → dstOf l j = some t → (∀ k, j < k → d k = true → dstOf l k ≠ some t) → t < a0.tmps.size → a.tmps[t]? = some (v j)
  kept : ∀ t, (∀ j, d j = true → dstOf l j ≠ some t) → a.tmps[t]? = a0.tmps[t]?

theorem dst_lt {l : List Oper} {j : Nat} {t : Tmp} (h : dstOf l j = some t) : j < l.length := by
  rcases Nat.lt_or_ge j l.length with h' | h'
  · exact h'
  · unfold dstOf at h; rw [List.getElem?_eq_none h'] at h; cases h

/-- The last of some below a bound. -/
theorem last_of (p : Nat → Prop) [DecidablePred p] : ∀ n : Nat, (∃ j, j < n ∧ p j) → ∃ j, j < n ∧ p j ∧ ∀ k, j < k → k < n → ¬ p k
  | 0, ⟨j, h, _⟩ => by omega
  | n + 1, ⟨j, h, hp⟩ => by
    by_cases hn : p n
    · exact ⟨n, by omega, hn, fun k h1 h2 => by omega⟩
    · have hjn : j ≠ n := fun e => hn (e ▸ hp)
      obtain ⟨i, h1, h2, h3⟩ := last_of p n ⟨j, by omega, hp⟩
      refine ⟨i, by omega, h2, fun k h4 h5 => ?_⟩
      rcases Nat.lt_or_ge k n with h6 | h6
      · exact h3 k h4 h6
      · have : k = n := by omega
        rw [this]; exact hn

theorem last_writer (l : List Oper) (d : Nat → Bool) (t : Tmp) : (∃ j, d j = true ∧ dstOf l j = some t ∧ ∀ k, j < k → d k = true → dstOf l k ≠ some t) ∨ ∀ j, d j = true → dstOf l j ≠ some t := by
  by_cases h : ∃ j, j < l.length ∧ (d j = true ∧ dstOf l j = some t)
  · obtain ⟨j, _, ⟨h1, h2⟩, h3⟩ := last_of (fun j => d j = true ∧ dstOf l j = some t) l.length h
    exact .inl ⟨j, h1, h2, fun k hk hd he => h3 k hk (dst_lt he) ⟨hd, he⟩⟩
  · exact .inr fun j hd he => h ⟨j, dst_lt he, hd, he⟩

theorem act_ext {a b : Act} (h1 : a.tmps = b.tmps) (h2 : a.defers = b.defers) : a = b := by cases a; cases b; simp_all

theorem FrameOf.ext {l : List Oper} {a0 : Act} {d : Nat → Bool} {v : Nat → Value} {a b : Act} (ha : FrameOf l a0 d v a) (hb : FrameOf l a0 d v b) : a = b := by
  refine act_ext (Array.ext_getElem? fun t => ?_) (ha.defers.trans hb.defers.symm)
  rcases Nat.lt_or_ge t a0.tmps.size with ht | ht
  · rcases last_writer l d t with ⟨j, h1, h2, h3⟩ | h
    · rw [ha.wrote j t h1 h2 h3 ht, hb.wrote j t h1 h2 h3 ht]
    · rw [ha.kept t h, hb.kept t h]
  · rw [Array.getElem?_eq_none (by rw [ha.size]; exact ht), Array.getElem?_eq_none (by rw [hb.size]; exact ht)]

theorem FrameOf.congr {l : List Oper} {a0 : Act} {d : Nat → Bool} {v u : Nat → Value} {a : Act} (ha : FrameOf l a0 d v a) (h : ∀ j, d j = true → v j = u j) : FrameOf l a0 d u a :=
  ⟨ha.defers, ha.size, fun j t h1 h2 h3 h4 => by rw [ha.wrote j t h1 h2 h3 h4, h j h1], ha.kept⟩

theorem put_get {a : Act} {o : Option Tmp} {x : Value} {t : Tmp} : (a.put o x).tmps[t]? = if o = some t ∧ t < a.tmps.size then some x else a.tmps[t]? := by
  cases o with
  | none => simp [Act.put]
  | some s =>
    simp only [Act.put, Option.some.injEq]
    by_cases h : s = t
    · subst h
      by_cases h2 : s < a.tmps.size
      · simp [h2]
      · rw [if_neg (fun h => h2 h.2), Array.getElem?_eq_none (by simpa using Nat.le_of_not_lt h2), Array.getElem?_eq_none (Nat.le_of_not_lt h2)]
    · rw [if_neg (fun h' => h h'.1), Array.getElem?_setIfInBounds_ne h]
theorem put_size {a : Act} {o : Option Tmp} {x : Value} : (a.put o x).tmps.size = a.tmps.size := by cases o <;> simp [Act.put]
theorem put_defers {a : Act} {o : Option Tmp} {x : Value} : (a.put o x).defers = a.defers := by cases o <;> simp [Act.put]

theorem FrameOf.put {l : List Oper} {a0 : Act} {d : Nat → Bool} {v : Nat → Value} {a : Act} (ha : FrameOf l a0 d v a) {i : Nat} (hi : d i = false) (hlast : ∀ k t, i < k → d k = true → dstOf l i = some t → dstOf l k ≠ some t) {x : Value} (hx : v i = x) :
    FrameOf l a0 (fun j => j == i || d j) v (a.put (dstOf l i) x) := by
  refine ⟨by rw [put_defers]; exact ha.defers, by rw [put_size]; exact ha.size, fun j t hj ht hl hlt => ?_, fun t h => ?_⟩
  · rw [put_get]
    by_cases hij : j = i
    · subst hij
      rw [if_pos ⟨ht, by rw [ha.size]; exact hlt⟩, hx]
    · have hdj : d j = true := by simpa [hij] using hj
      have hne : dstOf l i ≠ some t := by
        intro e
        rcases Nat.lt_or_ge i j with h | h
        · exact hlast j t h hdj e ht
        · exact hl i (by omega) (by simp) e
      rw [if_neg (fun h => hne h.1)]
      exact ha.wrote j t hdj ht (fun k hk hd => hl k hk (by simp [hd])) hlt
  · rw [put_get, if_neg (fun h' => h i (by simp) h'.1)]
    exact ha.kept t fun j hd => h j (by simp [hd])

/-! ### An operation depends on what it looks at alone -/
theorem eval_of_get {a b : Act} {x : Operand} (h : ∀ t, x = .tmp t → a.tmps[t]? = b.tmps[t]?) : a.eval x = b.eval x := by
  cases x with
  | tmp t =>
    have := h t rfl
    simp only [Act.eval, Array.getD_eq_getD_getElem?, this]
  | _ => rfl
theorem same_run {l : List Oper} {o : Oper} (hs : isSelect o.op = false) {a b : Act} (h : ∀ t ∈ seesOf l o, a.tmps[t]? = b.tmps[t]?) : execOp a.eval o = execOp b.eval o := by
  refine execOp_congr o (fun cs bl e => by rw [e] at hs; cases hs) fun x hx => eval_of_get fun t ht => h t ?_
  subst ht
  exact List.mem_append_left _ (List.mem_filterMap.2 ⟨.tmp t, by simpa using hx, rfl⟩)
theorem same_wanted {l : List Oper} {o : Oper} {a b : Act} (h : ∀ t ∈ seesOf l o, a.tmps[t]? = b.tmps[t]?) : Region.wanted o (yielded l.toArray a.tmps) = Region.wanted o (yielded l.toArray b.tmps) := by
  unfold Region.wanted
  cases hg : o.guard with
  | none => rfl
  | some gw =>
    obtain ⟨g, want⟩ := gw
    have hy : yielded l.toArray a.tmps g = yielded l.toArray b.tmps g := by
      unfold yielded
      cases ht : (l.toArray[g]?).bind (·.dst) with
      | none => rfl
      | some t =>
        have hd : dstOf l g = some t := by simpa [dstOf] using ht
        have := h t (List.mem_append_right _ (by rw [hg]; simp [hd]))
        simp [this]
    simp only [hy]

section
variable {l : List Oper} {a0 : Act} {m : Nat} {R : Nat → Bool}

theorem flowB_back (h : flowB l m R = true) : backB l = true := by simp only [flowB, Bool.and_eq_true] at h; exact h.1.1.1.1.1
theorem flowB_len (h : flowB l m R = true) : m ≤ l.length := by simp only [flowB, Bool.and_eq_true, decide_eq_true_eq] at h; exact h.1.1.1.1.2
theorem flowB_sel (h : flowB l m R = true) {i : Nat} {o : Oper} (ho : l[i]? = some o) : isSelect o.op = false := by
  simp only [flowB, Bool.and_eq_true, List.all_eq_true] at h
  simpa using h.1.1.1.2 o (List.mem_of_getElem? ho)
theorem get_lt {i : Nat} {o : Oper} (ho : l[i]? = some o) : i < l.length := by
  rcases Nat.lt_or_ge i l.length with h | h
  · exact h
  · rw [List.getElem?_eq_none h] at ho; cases ho
theorem flowB_pair (h : flowB l m R = true) {i j : Nat} {o : Oper} {t : Tmp} (ho : l[i]? = some o) (hj : dstOf l j = some t) (hne : i ≠ j) (hs : t ∈ seesOf l o ∨ dstOf l i = some t) : ahead l j i = true ∨ ahead l i j = true := by
  simp only [flowB, Bool.and_eq_true, List.all_eq_true] at h
  have := h.1.1.2 i (by simpa using get_lt ho) j (by simpa using dst_lt hj)
  rw [ho, hj] at this
  simp only [Bool.or_eq_true, beq_iff_eq, Bool.and_eq_true, Bool.not_eq_true'] at this
  rcases this with h1 | (⟨h1, h2⟩ | h1) | h1
  · exact absurd h1 hne
  · rcases hs with hs | hs
    · rw [List.contains_iff_mem.2 hs] at h1; cases h1
    · rw [hs] at h2; simp at h2
  · exact .inl h1
  · exact .inr h1
theorem flowB_tail (h : flowB l m R = true) {i j : Nat} (hi : i < l.length) (hm : m ≤ i) (hj : j < i) : ahead l j i = true := by
  simp only [flowB, Bool.and_eq_true, List.all_eq_true] at h
  have := h.1.2 i (by simpa using hi)
  simp only [Bool.or_eq_true, decide_eq_true_eq, List.all_eq_true] at this
  rcases this with h1 | h1
  · omega
  · exact h1 j (by simpa using hj)
theorem flowB_plain (h : flowB l m R = true) {i : Nat} {o : Oper} (ho : l[i]? = some o) (hm : i < m) (hR : R i = false) : plainOp o.op = true := by
  simp only [flowB, Bool.and_eq_true, List.all_eq_true] at h
  have := h.2 i (by simpa using get_lt ho)
  rw [ho] at this
  simp only [Bool.or_eq_true, Bool.not_eq_true', decide_eq_false_iff_not, Option.map_some, Option.getD_some] at this
  rcases this with (h1 | h1) | h1
  · rw [hR] at h1; cases h1
  · exact absurd hm h1
  · exact h1

/-- What an operation that may come up sees is what it sees in the text's order. -/
theorem sees_same (hF : flowB l m R = true) {d : Nat → Bool} (hd : Closed l d) {i : Nat} {o : Oper} (ho : l[i]? = some o) (hdep : ∀ e ∈ o.after.toList, Region.binds .any e = true → d e.on = true) (hi : d i = false) {v u : Nat → Value} {a b : Act}
    (ha : FrameOf l a0 d v a) (hb : FrameOf l a0 (fun j => decide (j < i)) u b) (hvu : ∀ j, d j = true → ahead l j i = true → v j = u j) : ∀ t ∈ seesOf l o, a.tmps[t]? = b.tmps[t]? := by
  intro t ht
  have hB := flowB_back hF
  have before : ∀ j, j < i → dstOf l j = some t → d j = true := fun j hj hw => by
    rcases flowB_pair hF ho hw (by omega) (.inl ht) with h | h
    · exact after_ahead hB hd ho hdep h
    · have := ahead_lt hB h; omega
  have after : ∀ j, d j = true → dstOf l j = some t → ahead l j i = true := fun j hj hw => by
    have hne : i ≠ j := fun h => by rw [← h, hi] at hj; cases hj
    rcases flowB_pair hF ho hw hne (.inl ht) with h' | h'
    · exact h'
    · have := closed_ahead hB hd hj h'; rw [hi] at this; cases this
  rcases Nat.lt_or_ge t a0.tmps.size with hlt | hge
  · rcases last_writer l d t with ⟨j, h1, h2, h3⟩ | h
    · have hji := after j h1 h2
      rw [ha.wrote j t h1 h2 h3 hlt, hb.wrote j t (by simpa using ahead_lt hB hji) h2 (fun k hk hki hw => h3 k hk (before k (by simpa using hki) hw) hw) hlt, hvu j h1 hji]
    · rw [ha.kept t h, hb.kept t fun j hj hw => h j (before j (by simpa using hj) hw) hw]
  · rw [Array.getElem?_eq_none (by rw [ha.size]; exact hge), Array.getElem?_eq_none (by rw [hb.size]; exact hge)]

theorem last_ok (hF : flowB l m R = true) {d : Nat → Bool} (hd : Closed l d) {i : Nat} {o : Oper} (ho : l[i]? = some o) (hi : d i = false) : ∀ k t, i < k → d k = true → dstOf l i = some t → dstOf l k ≠ some t := by
  intro k t hik hdk hit hkt
  have hB := flowB_back hF
  rcases flowB_pair hF ho hkt (by omega) (.inr hit) with h | h
  · have := ahead_lt hB h; omega
  · have := closed_ahead hB hd hdk h; rw [hi] at this; cases this
end

/-! ### The text's order -/
section
variable (P : Program) (l : List Oper) (w0 : World) (sp : List (Nat × FlowSpec)) (a0 : Act)

def quietVal (o : Oper) (a : Act) : Value := match (execOp a.eval o).run P w0 with
  | .ok (.value v) _ => v
  | _ => undef
def lexVal (k : Nat) (a : Act) (fv : Nat → Value) : Value := match l[k]? with
  | none => undef
  | some o => if Region.wanted o (yielded l.toArray a.tmps) = true then (match sp.lookup k with | some _ => fv k | none => quietVal P w0 o a) else undef
def lexA (fv : Nat → Value) : Nat → Act
  | 0 => a0
  | k + 1 => (lexA fv k).put (dstOf l k) (lexVal P l w0 sp k (lexA fv k) fv)
def lexV (fv : Nat → Value) (k : Nat) : Value := lexVal P l w0 sp k (lexA P l w0 sp a0 fv k) fv

/-- One way out alone: to the end. -/
def onlyN (K : Act → World → Prop) : Exit → Act → World → Prop
  | .normal, a, w => K a w
  | _, _, _ => False

/-- What was made by one is not what was made by another one. -/
def Apart (sp : List (Nat × FlowSpec)) (lo hi : Nat → Nat) : Prop := ∀ i j, i ≠ j → (sp.lookup i).isSome = true → (sp.lookup j).isSome = true → hi i ≤ lo j ∨ hi j ≤ lo i
/-- THE WALK, in the text's order. -/
def FlowW (lo hi : Nat → Nat) (T : Act → World → Prop) : List Oper → Nat → Act → (Nat → World → Prop) → Prop
  | [], _, a, F => ∀ w, Ext w0 w → (∀ j, F j w) → Apart sp lo hi → T a w
  | o :: rest, k, a, F =>
    if Region.wanted o (yielded l.toArray a.tmps) = true then
      match sp.lookup k with
      | none => o.quiet P a (Cls w0) (fun a' => FlowW lo hi T rest (k + 1) a' F)
      | some s => (∀ w, Ext w0 w → (∀ j, ahead l j k = true → F j w) → ∀ K : Act → World → Prop, (∀ v w', s.S v → s.R v w.heap.size w'.heap.size w' → Ext w w' → K (a.put o.dst v) w') → wpList P l.toArray (onlyN K) [o] a w) ∧
          ∀ v, s.S v → FlowW lo hi T rest (k + 1) (a.put o.dst v) (fun j w => if j = k then s.R v (lo k) (hi k) w else F j w)
    else FlowW lo hi T rest (k + 1) (a.put o.dst undef) F
end

section
variable {P : Program} {l : List Oper} {w0 : World} {sp : List (Nat × FlowSpec)} {a0 : Act} {m : Nat}

theorem lexA_frame (hF : flowB l m (fun k => (sp.lookup k).isSome) = true) (fv : Nat → Value) : ∀ k, FrameOf l a0 (fun j => decide (j < k)) (lexV P l w0 sp a0 fv) (lexA P l w0 sp a0 fv k)
  | 0 => ⟨rfl, rfl, fun j t h => by simp at h, fun t _ => rfl⟩
  | k + 1 => by
    have h := (lexA_frame hF fv k).put (i := k) (by simp) (fun j t h1 h2 => by have h3 : j < k := of_decide_eq_true h2; exact absurd h3 (by omega)) (x := lexVal P l w0 sp k (lexA P l w0 sp a0 fv k) fv) rfl
    have he : (fun j => j == k || decide (j < k)) = (fun j => decide (j < k + 1)) := by
      funext j
      rw [Bool.eq_iff_iff]
      simp only [Bool.or_eq_true, beq_iff_eq, decide_eq_true_eq]
      omega
    rw [he] at h
    exact h

theorem closed_lt (hB : backB l = true) (i : Nat) : Closed l (fun j => decide (j < i)) := fun j o ho hj e he _ => by
  have h1 := back_lt hB ho he
  have h2 : j < i := of_decide_eq_true hj
  exact decide_eq_true (by omega)

/-- What is done does not hang on what is not. -/
theorem lex_both (hF : flowB l m (fun k => (sp.lookup k).isSome) = true) {d : Nat → Bool} (hd : Closed l d) {fv gv : Nat → Value} (h : ∀ j, d j = true → fv j = gv j) : ∀ j, d j = true →
    lexV P l w0 sp a0 fv j = lexV P l w0 sp a0 gv j ∧ ∀ o, l[j]? = some o → ∀ t ∈ seesOf l o, (lexA P l w0 sp a0 fv j).tmps[t]? = (lexA P l w0 sp a0 gv j).tmps[t]? := by
  have hB := flowB_back hF
  intro j
  induction j using Nat.strongRecOn with
  | _ j ih =>
    intro hj
    have hs : ∀ o, l[j]? = some o → ∀ t ∈ seesOf l o, (lexA P l w0 sp a0 fv j).tmps[t]? = (lexA P l w0 sp a0 gv j).tmps[t]? := fun o ho =>
      sees_same (a0 := a0) hF (closed_lt hB j) ho (fun e he _ => by have := back_lt hB ho he; simpa using this) (by simp) (lexA_frame (P := P) (w0 := w0) hF fv j) (lexA_frame (P := P) (w0 := w0) hF gv j)
        (fun k _ hk => (ih k (ahead_lt hB hk) (closed_ahead hB hd hj hk)).1)
    refine ⟨?_, hs⟩
    unfold lexV lexVal
    cases ho : l[j]? with
    | none => rfl
    | some o =>
      have hw := same_wanted (l := l) (hs o ho)
      have hr := same_run (flowB_sel hF ho) (hs o ho)
      simp only [hw]
      unfold quietVal
      rw [hr, h j hj]

theorem onlyN_out {K : Act → World → Prop} : ¬ LetsOut (onlyN K) := fun ⟨_, _, h⟩ => h

theorem actPut_inj {a b : Act} {o : Option Tmp} {v u : Value} (hs : a.tmps.size = b.tmps.size) (h : a.put o v = a.put o u) : b.put o v = b.put o u := by
  cases o with
  | none => rfl
  | some t =>
    by_cases ht : t < a.tmps.size
    · have := congrArg (fun c => c.tmps[t]?) h
      simp only [put_get, ht, and_self, if_true, Option.some.injEq] at this
      rw [this]
    · have e : ∀ x, b.put (some t) x = b := fun x => act_ext (by
        simp only [Act.put]
        exact Array.setIfInBounds_eq_of_size_le (by rw [← hs]; exact Nat.le_of_not_lt ht)) rfl
      rw [e, e]

theorem upon_move {o : Oper} {a b : Act} {K : Act → World → Prop} {K' : Act → World → Prop} {Q' : Exit → Act → World → Prop} (hK : ∀ v w', K (a.put o.dst v) w' → K' (b.put o.dst v) w') (hd : ∀ d w', ¬ K ({ a with defers := d :: a.defers }.put o.dst undef) w') :
    ∀ r, o.upon P a K (onlyN K) r → o.upon P b K' Q' r := by
  intro r h
  cases r with
  | ok n w' =>
    cases n with
    | value v => exact hK v w' h
    | skip => exact hK undef w' h
    | defer d => exact (hd d w' h).elim
    | enter f args =>
      refine Calls.mono h fun e w'' he => ?_
      cases e with
      | returned v => exact hK v w'' he
      | panicked c => exact (he : False).elim
      | outgrown => exact (onlyN_out he).elim
    | row row args => exact Rows.mono h fun v w'' he => hK v w'' he
    | _ => exact h.elim
  | halt x w' =>
    cases x with
    | panic v => exact (h : False).elim
    | _ => exact h.elim

theorem plain_enter {o : Oper} (h : plainOp o.op = true) (a : Act) (w : World) (f : FuncId) (args : Array Value) (w' : World) : (execOp a.eval o).run P w ≠ .ok (.enter f args) w' := by
  intro e
  obtain ⟨dst, op, type, pos, after, guard⟩ := o
  have key : ∀ (s : Sem Value), ((do let x ← s; pure (Next.value x)) : Sem Next).run P w ≠ .ok (.enter f args) w' := by
    intro s hs
    simp only [Sem.run_bind] at hs
    cases hr : s.run P w <;> simp [hr, Result.andThen] at hs
  cases op
  case call c =>
    obtain ⟨callee, cargs, ts⟩ := c
    cases callee
    case builtin b =>
      cases b <;> simp [plainOp] at h <;> simp only [execOp, resolve, invoke, builtin, Sem.run_bind, Sem.run_pure, Result.andThen] at e <;> first | exact key _ e | (cases hr : (Sem.run P _ w) <;> simp [hr] at e) | (split at e <;> simp at e)
    all_goals simp [plainOp] at h
  all_goals first | (simp [plainOp] at h; done) | exact key _ e | (simp [execOp] at e; done) | skip
  case pick c x y =>
    simp only [execOp, Sem.run_bind] at e
    cases hr : (asBool (a.eval c)).run P w <;> simp [hr, Result.andThen] at e

theorem plain_quiet {o : Oper} (h : plainOp o.op = true) {a : Act} {C : World → Prop} {w : World} {v : Value} (hq : o.quietAt P a C w v) :
    (execOp a.eval o).run P w = .ok (.value v) w ∨ ((execOp a.eval o).run P w = .ok .skip w ∧ v = undef) := by
  have hn := plain_enter (P := P) h a w
  unfold Oper.quietAt at hq
  generalize (execOp a.eval o).run P w = r at *
  cases r with
  | ok n w' =>
    cases n with
    | value u => obtain ⟨rfl, rfl⟩ := (hq : w' = w ∧ u = v); exact .inl rfl
    | skip => obtain ⟨rfl, rfl⟩ := (hq : w' = w ∧ v = undef); exact .inr ⟨rfl, rfl⟩
    | enter f args => exact absurd rfl (hn f args w')
    | _ => exact (hq : False).elim
  | halt x w' => exact (hq : False).elim

/-- What is known of an operation that has been done. -/
def Fact (P : Program) (l : List Oper) (w0 : World) (sp : List (Nat × FlowSpec)) (a0 : Act) (fv : Nat → Value) (lo hi : Nat → Nat) (j : Nat) (w : World) : Prop :=
  ∀ o s, l[j]? = some o → Region.wanted o (yielded l.toArray (lexA P l w0 sp a0 fv j).tmps) = true → sp.lookup j = some s → s.R (fv j) (lo j) (hi j) w

theorem take_drop_cons {m k : Nat} {o : Oper} (hk : k < m) (ho : l[k]? = some o) : (l.take m).drop k = o :: (l.take m).drop (k + 1) := by
  have hg : (l.take m)[k]? = some o := by rw [List.getElem?_take, if_pos hk]; exact ho
  have hlt := get_lt hg
  rw [List.drop_eq_getElem_cons hlt]
  congr 1
  rw [List.getElem?_eq_getElem hlt] at hg
  exact Option.some.inj hg

theorem flow_at (hF : flowB l m (fun k => (sp.lookup k).isSome) = true) {lo hi : Nat → Nat} {T : Act → World → Prop} (H : FlowW P l w0 sp lo hi T (l.take m) 0 a0 (fun _ _ => True)) (fv : Nat → Value) (hS : ∀ k s, sp.lookup k = some s → s.S (fv k)) :
    ∀ k, k ≤ m → ∃ F, FlowW P l w0 sp lo hi T ((l.take m).drop k) k (lexA P l w0 sp a0 fv k) F ∧ ∀ j w, (j < k → Fact P l w0 sp a0 fv lo hi j w) → F j w
  | 0, _ => ⟨_, H, fun _ _ _ => trivial⟩
  | k + 1, hk => by
    obtain ⟨F, h, hFF⟩ := flow_at hF H fv hS k (by omega)
    have hlt : k < l.length := by have := flowB_len hF; omega
    have ho : l[k]? = some l[k] := List.getElem?_eq_getElem hlt
    rw [take_drop_cons (by omega) ho] at h
    unfold FlowW at h
    have hA : lexA P l w0 sp a0 fv (k + 1) = (lexA P l w0 sp a0 fv k).put l[k].dst (lexVal P l w0 sp k (lexA P l w0 sp a0 fv k) fv) := by
      show (lexA P l w0 sp a0 fv k).put (dstOf l k) _ = _
      unfold dstOf; rw [ho]; rfl
    have hup : ∀ j w, (j < k + 1 → Fact P l w0 sp a0 fv lo hi j w) → F j w := fun j w hj => hFF j w fun h1 => hj (by omega)
    rw [hA]
    unfold lexVal
    rw [ho]
    by_cases hw : Region.wanted l[k] (yielded l.toArray (lexA P l w0 sp a0 fv k).tmps) = true
    · rw [if_pos hw] at h
      simp only [hw, if_true]
      cases hl : sp.lookup k with
      | none =>
        rw [hl] at h
        obtain ⟨v, hq, hn⟩ := h
        have hq0 := plain_quiet (flowB_plain hF ho (by omega) (by rw [hl]; rfl)) (hq w0 (ext_cls (Below.refl _ _)))
        have hv : quietVal P w0 l[k] (lexA P l w0 sp a0 fv k) = v := by
          unfold quietVal
          rcases hq0 with h1 | ⟨h1, h2⟩
          · rw [h1]
          · rw [h1, h2]
        exact ⟨F, by simp only [hv]; exact hn, hup⟩
      | some s =>
        rw [hl] at h
        refine ⟨_, h.2 (fv k) (hS k s hl), fun j w hj => ?_⟩
        show if j = k then s.R (fv k) (lo k) (hi k) w else F j w
        split
        · rename_i e
          subst e
          exact hj (by omega) l[j] s ho hw hl
        · exact hup j w hj
    · rw [if_neg hw] at h
      simp only [hw, if_false, Bool.false_eq_true]
      exact ⟨F, h, hup⟩

/-- A region that draws its order: what holds whatever has been done; an operation may ask for room. -/
theorem wpAny_inv2 {Q : Exit → Act → World → Prop} (hB : backB l = true) (I : (Nat → Bool) → Act → World → Prop)
    (hstep : ∀ (d : Nat → Bool) (a : Act) (w : World) (i : Nat) (o : Oper), l[i]? = some o → (∀ e ∈ o.after.toList, Region.binds .any e = true → d e.on = true) → d i = false → I d a w → ∀ K : Act → World → Prop, (∀ a' w', I (fun j => j == i || d j) a' w' → K a' w') →
      if Region.wanted o (yielded l.toArray a.tmps) = true then (o.wp P a w K Q ∨ (o.asks P a w ∧ LetsOut Q)) else K (a.put o.dst undef) w)
    (hend : ∀ (d : Nat → Bool) (a : Act) (w : World), I d a w → (∀ i, i < l.length → d i = true) → Q .normal a w) :
    ∀ (fuel : Nat) (L : Array Bool) (a : Act) (w : World), L.size = l.length → undone l.length L ≤ fuel → I (fun j => L.getD j false) a w → wpAny P .any l.toArray Q fuel L a w
  | 0, L, a, w, hL, hf, hI => by
    have hall : ∀ i, i < l.length → L.getD i false = true := by
      intro i hi
      cases h : L.getD i false with
      | true => rfl
      | false =>
        have hs : i < L.size := by omega
        have hp : (fun i => !L.getD i true) i = true := by
          have : L.getD i true = false := by simpa [Array.getD, hs] using h
          simp [this]
        have : 0 < undone l.length L := List.countP_pos_iff.2 ⟨i, by simpa using hi, hp⟩
        omega
    refine ⟨?_, hend _ a w hI hall⟩
    unfold Region.ready
    rw [List.filter_eq_nil_iff]
    intro i hi
    have hi' : i < l.length := by simpa using hi
    have hs : i < L.size := by omega
    have := hall i hi'
    have : L.getD i true = true := by simpa [Array.getD, hs] using this
    simp [this]
  | fuel + 1, L, a, w, hL, hf, hI => by
    refine ⟨fun hr => hend _ a w hI (all_listed hB L hL hr), fun i hi => ?_⟩
    unfold Region.ready at hi
    rw [List.mem_filter] at hi
    obtain ⟨h1, h2⟩ := hi
    have hi' : i < l.length := by simpa using h1
    have hs : i < L.size := by omega
    have hg : l.toArray[i]? = some l[i] := by simp [hi']
    rw [hg] at h2
    simp only [Option.map_some, Option.getD_some, Bool.and_eq_true, Bool.not_eq_true'] at h2
    obtain ⟨h2, h3⟩ := h2
    have hd : L.getD i false = false := by simpa [Array.getD, hs] using h2
    rw [Array.all_eq_true'] at h3
    unfold wpOp
    rw [hg]
    have key := hstep (fun j => L.getD j false) a w i l[i] (List.getElem?_eq_getElem hi') (fun e he hb => by
      have := h3 e (by simpa using he)
      simpa [hb] using this) hd hI (wpAny P .any l.toArray Q fuel (L.setIfInBounds i true)) (fun a' w' hI' => by
        refine wpAny_inv2 hB I hstep hend fuel _ a' w' (by simpa using hL) ?_ ?_
        · have : undone l.length (L.setIfInBounds i true) < undone l.length L := by
            unfold undone
            refine countP_lt (i := i) (fun x hx => ?_) h1 (by simp [h2]) (by simp [getD_set L i i true hs])
            by_cases e : i = x
            · subst e; simp [getD_set L i i true hs] at hx
            · simpa [getD_set L i x true hs, e] using hx
          omega
        · have : (fun j => (L.setIfInBounds i true).getD j false) = (fun j => j == i || L.getD j false) := by
            funext j
            rw [getD_set L i j false hs]
            by_cases e : i = j
            · subst e; simp
            · have : (j == i) = false := by simp; omega
              simp [e, this]
          rw [this]
          exact hI')
    simp only
    split
    · rename_i hw
      rw [if_pos hw] at key
      exact key
    · rename_i hw
      rw [if_neg hw] at key
      exact key

/-- What holds whatever has been done of a region that is walked in the text's order. -/
def FlowI (P : Program) (Q : Exit → Act → World → Prop) (l : List Oper) (w0 : World) (sp : List (Nat × FlowSpec)) (a0 : Act) (m : Nat) (d : Nat → Bool) (a : Act) (w : World) : Prop :=
  Closed l d ∧ ((Ext w0 w ∧ (∀ j, d j = true → j < m) ∧ ∃ (fv : Nat → Value) (lo hi : Nat → Nat), (∀ k s, sp.lookup k = some s → s.S (fv k)) ∧ FrameOf l a0 d (lexV P l w0 sp a0 fv) a ∧ (∀ j, d j = true → Fact P l w0 sp a0 fv lo hi j w) ∧ (∀ j, hi j ≤ w.heap.size) ∧ (∀ j, d j = false → hi j = 0) ∧ Apart sp lo hi) ∨
    ∃ k, m < k ∧ k ≤ l.length ∧ (∀ j, j < l.length → (d j = true ↔ j < k)) ∧ wpList P l.toArray Q (l.drop k) a w)

theorem closed_add {d : Nat → Bool} (hd : Closed l d) {i : Nat} {o : Oper} (ho : l[i]? = some o) (hdep : ∀ e ∈ o.after.toList, Region.binds .any e = true → d e.on = true) : Closed l (fun j => j == i || d j) := by
  intro j o' ho' hj e he hb
  by_cases hji : j = i
  · subst hji
    rw [ho] at ho'
    cases ho'
    simp [hdep e he hb]
  · have : d j = true := by simpa [hji] using hj
    simp [hd j o' ho' this e he hb]

theorem flow_step {Q : Exit → Act → World → Prop} (hF : flowB l m (fun k => (sp.lookup k).isSome) = true) (hst : ∀ k s, sp.lookup k = some s → ∀ v a b w w', s.R v a b w → Ext w w' → s.R v a b w')
    (H : ∀ lo hi, FlowW P l w0 sp lo hi (fun a' w' => wpList P l.toArray Q (l.drop m) a' w') (l.take m) 0 a0 (fun _ _ => True))
    (d : Nat → Bool) (a : Act) (w : World) (i : Nat) (o : Oper) (ho : l[i]? = some o) (hdep : ∀ e ∈ o.after.toList, Region.binds .any e = true → d e.on = true) (hi : d i = false) (hI : FlowI P Q l w0 sp a0 m d a w) (K : Act → World → Prop) (hK : ∀ a' w', FlowI P Q l w0 sp a0 m (fun j => j == i || d j) a' w' → K a' w') :
    if Region.wanted o (yielded l.toArray a.tmps) = true then (o.wp P a w K Q ∨ (o.asks P a w ∧ LetsOut Q)) else K (a.put o.dst undef) w := by
  have hB := flowB_back hF
  obtain ⟨hd, hI⟩ := hI
  have hd' := closed_add hd ho hdep
  have hil := get_lt ho
  have hdst : dstOf l i = o.dst := by unfold dstOf; rw [ho]; rfl
  -- the tail's step
  have tail : ∀ a w, i ≥ m → (∀ j, j < l.length → (d j = true ↔ j < i)) → wpList P l.toArray Q (l.drop i) a w →
      if Region.wanted o (yielded l.toArray a.tmps) = true then (o.wp P a w K Q ∨ (o.asks P a w ∧ LetsOut Q)) else K (a.put o.dst undef) w := by
    intro a w him hall hw
    have hdr : l.drop i = o :: l.drop (i + 1) := by
      rw [List.drop_eq_getElem_cons hil]
      congr 1
      rw [List.getElem?_eq_getElem hil] at ho
      exact Option.some.inj ho
    rw [hdr] at hw
    unfold wpList at hw
    have hnext : ∀ a' w', wpList P l.toArray Q (l.drop (i + 1)) a' w' → K a' w' := fun a' w' h => hK a' w' ⟨hd', .inr ⟨i + 1, by omega, by omega, fun j hj => by
      simp only [Bool.or_eq_true, beq_iff_eq]
      rw [hall j hj]; omega, h⟩⟩
    split
    · rename_i hwt
      rw [if_pos hwt] at hw
      exact hw.imp (Oper.wp_mono hnext) id
    · rename_i hwt
      rw [if_neg hwt] at hw
      exact hnext _ _ hw
  rcases hI with ⟨hext, hlt, fv, lo, hi', hS, hfr, hfact, hhi, hz, hap⟩ | ⟨k, hmk, hkl, hall, hw⟩
  · rcases Nat.lt_or_ge i m with him | him
    · obtain ⟨F, hFl, hFF⟩ := flow_at hF (H lo hi') fv hS i (by omega)
      rw [take_drop_cons him ho] at hFl
      unfold FlowW at hFl
      have hs := sees_same (a0 := a0) hF hd ho hdep hi hfr (lexA_frame (P := P) (w0 := w0) hF fv i) (fun _ _ _ => rfl)
      have hwt := same_wanted (l := l) hs
      have hrun := same_run (flowB_sel hF ho) hs
      have hls := last_ok hF hd ho hi
      -- the state behind it
      have next : ∀ (gv : Nat → Value) (x : Value) (w' : World), (∀ j, d j = true → fv j = gv j) → (∀ k s, sp.lookup k = some s → s.S (gv k)) → lexV P l w0 sp a0 gv i = x → Ext w w' →
          Fact P l w0 sp a0 gv (fun j => if j = i then w.heap.size else lo j) (fun j => if j = i then w'.heap.size else hi' j) i w' → K (a.put o.dst x) w' := by
        intro gv x w' hag hSg hx hww hfi
        have hws := hww.size
        refine hK _ _ ⟨hd', .inl ⟨Below.trans hext (Below.mono hww hext.size), fun j hj => ?_, gv, fun j => if j = i then w.heap.size else lo j, fun j => if j = i then w'.heap.size else hi' j, hSg, ?_, fun j hj => ?_, fun j => ?_, fun j hj => ?_, fun j k hjk h1 h2 => ?_⟩⟩
        · by_cases hji : j = i
          · omega
          · exact hlt j (by simpa [hji] using hj)
        · rw [← hdst]
          exact (hfr.congr fun j hj => (lex_both hF hd hag j hj).1).put hi hls hx
        · by_cases hji : j = i
          · rw [hji]; exact hfi
          · have hdj : d j = true := by simpa [hji] using hj
            intro o' s ho' hw' hl
            have hsee := (lex_both (P := P) (w0 := w0) (a0 := a0) hF hd hag j hdj).2 o' ho'
            have := hfact j hdj o' s ho' (by rw [same_wanted (l := l) hsee]; exact hw') hl
            rw [hag j hdj] at this
            show s.R (gv j) (if j = i then w.heap.size else lo j) (if j = i then w'.heap.size else hi' j) w'
            rw [if_neg hji, if_neg hji]
            exact hst j s hl _ _ _ _ _ this hww
        · show (if j = i then w'.heap.size else hi' j) ≤ w'.heap.size
          split
          · exact Nat.le_refl _
          · exact Nat.le_trans (hhi j) hws
        · have hji : j ≠ i := fun e => by rw [e] at hj; simp at hj
          show (if j = i then w'.heap.size else hi' j) = 0
          rw [if_neg hji]
          exact hz j (by simpa [hji] using hj)
        · show (if j = i then w'.heap.size else hi' j) ≤ (if k = i then w.heap.size else lo k) ∨ (if k = i then w'.heap.size else hi' k) ≤ (if j = i then w.heap.size else lo j)
          by_cases hji : j = i
          · subst hji
            rw [if_pos rfl, if_pos rfl, if_neg (fun e => hjk e.symm), if_neg (fun e => hjk e.symm)]
            exact .inr (hhi k)
          · by_cases hki : k = i
            · subst hki
              rw [if_neg hji, if_neg hji, if_pos rfl, if_pos rfl]
              exact .inl (hhi j)
            · rw [if_neg hji, if_neg hji, if_neg hki, if_neg hki]
              exact hap j k hjk h1 h2
      by_cases hwant : Region.wanted o (yielded l.toArray a.tmps) = true
      · rw [if_pos hwant]
        have hwant' := hwant
        rw [hwt] at hwant'
        rw [if_pos hwant'] at hFl
        refine .inl ?_
        cases hl : sp.lookup i with
        | none =>
          rw [hl] at hFl
          obtain ⟨v, hq, _⟩ := hFl
          have hp := flowB_plain hF ho him (by rw [hl]; rfl)
          have h1 := plain_quiet hp (hq w (ext_cls hext))
          have h0 := plain_quiet hp (hq w0 (ext_cls (Below.refl _ _)))
          have hx : lexV P l w0 sp a0 fv i = v := by
            unfold lexV lexVal
            simp only [ho, hwant', if_true, hl]
            unfold quietVal
            rcases h0 with h0 | ⟨h0, h2⟩
            · rw [h0]
            · rw [h0, h2]
          have hn := next fv v w (fun _ _ => rfl) hS hx (Below.refl _ _) (fun o' s _ _ hl' => by rw [hl] at hl'; cases hl')
          unfold Oper.wp
          rw [hrun]
          rcases h1 with h1 | ⟨h1, h2⟩
          · rw [h1]; exact hn
          · rw [h1]; rw [h2] at hn; exact hn
        | some s =>
          rw [hl] at hFl
          have hob := hFl.1 w hext (fun j hj => hFF j w fun _ => hfact j (after_ahead hB hd ho hdep hj)) (fun a' w' => ∃ v, a' = (lexA P l w0 sp a0 fv i).put o.dst v ∧ s.S v ∧ s.R v w.heap.size w'.heap.size w' ∧ Ext w w') (fun v w' h1 h2 h3 => ⟨v, rfl, h1, h2, h3⟩)
          unfold wpList at hob
          rw [if_pos hwant'] at hob
          rcases hob with hob | ⟨_, hob⟩
          · unfold Oper.wp at hob ⊢
            rw [hrun]
            refine upon_move (fun v w' hv => ?_) (fun dd w' hv => ?_) _ hob
            · obtain ⟨u, he, h1, h2, h3⟩ := (hv : ∃ u, _)
              have hsz : (lexA P l w0 sp a0 fv i).tmps.size = a.tmps.size := (lexA_frame (P := P) (w0 := w0) hF fv i).size.trans hfr.size.symm
              rw [actPut_inj hsz he]
              have hag : ∀ j, d j = true → fv j = (fun j => if j = i then u else fv j) j := fun j hj => by
                show fv j = if j = i then u else fv j
                rw [if_neg (fun e => by rw [e, hi] at hj; cases hj)]
              have hsg := sees_same (a0 := a0) hF hd ho hdep hi hfr (lexA_frame (P := P) (w0 := w0) (sp := sp) hF (fun j => if j = i then u else fv j) i) (fun j hj _ => (lex_both hF hd hag j hj).1)
              refine next (fun j => if j = i then u else fv j) u w' hag (fun k s' hk => ?_) ?_ h3 (fun o' s' ho' _ hl' => ?_)
              · show s'.S (if k = i then u else fv k)
                split
                · rename_i e; rw [e, hl] at hk; cases hk; exact h1
                · exact hS k s' hk
              · unfold lexV lexVal
                rw [ho]
                simp only [← same_wanted (l := l) hsg, hwant, if_true, hl]
              · rw [hl] at hl'
                cases hl'
                show s.R (if i = i then u else fv i) (if i = i then w.heap.size else lo i) (if i = i then w'.heap.size else hi' i) w'
                rw [if_pos rfl, if_pos rfl, if_pos rfl]; exact h2
            · obtain ⟨u, he, _⟩ := (hv : ∃ u, _)
              have := congrArg Act.defers he
              rw [put_defers, put_defers] at this
              exact absurd this (by simp)
          · exact absurd hob onlyN_out
      · rw [if_neg hwant]
        refine next fv undef w (fun _ _ => rfl) hS ?_ (Below.refl _ _) (fun o' s ho' hw' _ => ?_)
        · unfold lexV lexVal
          rw [ho]
          rw [hwt] at hwant
          simp only [hwant, if_false, Bool.false_eq_true]
        · rw [ho] at ho'
          cases ho'
          rw [hwt] at hwant
          exact absurd hw' hwant
    · have hlow : ∀ j, j < i → d j = true := fun j hj => after_ahead hB hd ho hdep (flowB_tail hF hil him hj)
      have hie : i = m := by
        rcases Nat.lt_or_ge m i with h | h
        · have := hlt m (hlow m h); omega
        · omega
      subst hie
      have hall : ∀ j, d j = decide (j < i) := fun j => by
        rw [Bool.eq_iff_iff, decide_eq_true_eq]
        exact ⟨hlt j, hlow j⟩
      have hde : d = fun j => decide (j < i) := funext hall
      obtain ⟨F, hFl, hFF⟩ := flow_at hF (H lo hi') fv hS i (Nat.le_refl _)
      have hnil : (l.take i).drop i = [] := List.drop_of_length_le (by rw [List.length_take]; omega)
      rw [hnil] at hFl
      have hT := hFl w hext (fun j => hFF j w fun hj => hfact j (by rw [hall]; exact decide_eq_true hj)) hap
      rw [hde] at hfr
      have hae := hfr.ext (lexA_frame (P := P) (w0 := w0) hF fv i)
      rw [← hae] at hT
      exact tail a w (Nat.le_refl _) (fun j hj => by rw [hall]; simp) hT
  · have hik : i = k := by
      rcases Nat.lt_trichotomy i k with h | h | h
      · have := (hall i hil).2 h; rw [hi] at this; cases this
      · exact h
      · have hkd := (hall k (by omega)).1 (after_ahead hB hd ho hdep (flowB_tail hF hil (by omega) h))
        omega
    subst hik
    exact tail a w (by omega) hall hw

/-- A REGION THAT DRAWS ITS ORDER, WALKED IN THE TEXT'S. -/
theorem wp_region_flow {Q : Exit → Act → World → Prop} {id : Nat} {a : Act} {w : World} (hm : P.follows .mixedOrders = true) (m : Nat) (sp : List (Nat × FlowSpec)) (hF : flowB l m (fun k => (sp.lookup k).isSome) = true)
    (hin : ∀ x ∈ sp, ∃ v, x.2.S v) (hst : ∀ x ∈ sp, ∀ v a b w w', x.2.R v a b w → Ext w w' → x.2.R v a b w')
    (H : ∀ lo hi, FlowW P l w sp lo hi (fun a' w' => wpList P l.toArray Q (l.drop m) a' w') (l.take m) 0 a (fun _ _ => True)) : (Code.region id l.toArray true).wp P Q a w := by
  have mem : ∀ {sp : List (Nat × FlowSpec)} {k : Nat} {s : FlowSpec}, sp.lookup k = some s → (k, s) ∈ sp := by
    intro sp
    induction sp with
    | nil => intro k s h; cases h
    | cons x sp ih =>
      intro k s h
      obtain ⟨i, t⟩ := x
      rw [List.lookup_cons] at h
      by_cases hk : k = i
      · subst hk
        simp at h
        subst h
        simp
      · have : (k == i) = false := by simpa using hk
        rw [this] at h
        exact List.mem_cons_of_mem _ (ih h)
  refine wp_region_any hm ?_
  refine wpAny_inv2 (flowB_back hF) (FlowI P Q l w sp a m) (fun d a' w' i o ho hdep hi hI K hK => flow_step hF (fun k s hk => hst _ (mem hk)) H d a' w' i o ho hdep hi hI K hK) (fun d a' w' hI hall => ?_) _ _ a _ (by simp) ?_ ?_
  · obtain ⟨hd, hI⟩ := hI
    rcases hI with ⟨hext, hlt, fv, lo, hi', hS, hfr, hfact, hhi, hz, hap⟩ | ⟨k, hmk, hkl, hk, hw⟩
    · have hml : m = l.length := by
        have := flowB_len hF
        rcases Nat.lt_or_ge m l.length with h | h
        · have := hlt m (hall m h); omega
        · omega
      obtain ⟨F, hFl, hFF⟩ := flow_at hF (H lo hi') fv hS m (Nat.le_refl _)
      have hnil : (l.take m).drop m = [] := List.drop_of_length_le (by rw [List.length_take]; omega)
      rw [hnil] at hFl
      have hT := hFl w' hext (fun j => hFF j w' fun hj => hfact j (hall j (by omega))) hap
      have hde : d = fun j => decide (j < m) := funext fun j => by
        rw [Bool.eq_iff_iff, decide_eq_true_eq]
        exact ⟨hlt j, fun h => hall j (by omega)⟩
      rw [hde] at hfr
      rw [← hfr.ext (lexA_frame (P := P) (w0 := w) hF fv m), List.drop_of_length_le (by omega)] at hT
      exact hT
    · have : l.length ≤ k := by
        rcases Nat.lt_or_ge k l.length with h | h
        · have := (hk k h).1 (hall k h); omega
        · exact h
      rw [List.drop_of_length_le this] at hw
      exact hw
  · unfold undone
    refine Nat.le_trans List.countP_le_length ?_
    simp
  · have : (fun j => (Array.replicate l.toArray.size false).getD j false) = (fun _ => false) := by
      funext j
      by_cases h : j < l.length <;> simp [Array.getD, h]
    rw [this]
    refine ⟨(fun i o _ h => nomatch h), .inl ⟨(Below.refl _ w).drew, (fun j h => nomatch h), ?_⟩⟩
    refine ⟨fun k => match h : sp.lookup k with | none => undef | some s => (hin _ (mem h)).choose, fun _ => 0, fun _ => 0, fun k s hk => ?_, ⟨rfl, rfl, (fun j t h => nomatch h), fun t _ => rfl⟩, (fun j h => nomatch h), fun _ => Nat.zero_le _, fun _ _ => rfl, fun _ _ _ _ _ => .inl (Nat.zero_le _)⟩
    have hspec : ∀ (h : sp.lookup k = some s), s.S ((hin _ (mem h)).choose) := fun h => (hin _ (mem h)).choose_spec
    show s.S (match h : sp.lookup k with | none => undef | some s => (hin _ (mem h)).choose)
    split
    · rename_i h; rw [h] at hk; cases hk
    · rename_i s' h
      rw [h] at hk
      cases hk
      exact hspec h

/-! ### Steps -/
theorem flowW_plain {lo hi : Nat → Nat} {T : Act → World → Prop} {o : Oper} {rest : List Oper} {k : Nat} {a : Act} {F : Nat → World → Prop} (hl : sp.lookup k = none) (h : wpQuiet P l.toArray (fun w' => ∃ p : Regrown, w' = grow (redrawn w0 p.d) p.os) (fun a' => FlowW P l w0 sp lo hi T rest (k + 1) a' F) [o] a) :
    FlowW P l w0 sp lo hi T (o :: rest) k a F := by
  unfold FlowW
  unfold wpQuiet at h
  split
  · rename_i hw
    rw [if_pos hw] at h
    rw [hl]
    exact h
  · rename_i hw
    rw [if_neg hw] at h
    exact h
theorem flowW_skip {lo hi : Nat → Nat} {T : Act → World → Prop} {o : Oper} {rest : List Oper} {k : Nat} {a : Act} {F : Nat → World → Prop} (hw : Region.wanted o (yielded l.toArray a.tmps) = false) (h : wpQuiet P l.toArray (fun w' => ∃ p : Regrown, w' = grow (redrawn w0 p.d) p.os) (fun a' => FlowW P l w0 sp lo hi T rest (k + 1) a' F) [o] a) :
    FlowW P l w0 sp lo hi T (o :: rest) k a F := by
  unfold FlowW
  unfold wpQuiet at h
  rw [hw] at h
  rw [hw]
  exact h
theorem flowW_call {lo hi : Nat → Nat} {T : Act → World → Prop} {o : Oper} {rest : List Oper} {k : Nat} {a : Act} {F : Nat → World → Prop} {s : FlowSpec} (hl : sp.lookup k = some s) (hw : Region.wanted o (yielded l.toArray a.tmps) = true)
    (h1 : ∀ w, Ext w0 w → (∀ j, ahead l j k = true → F j w) → ∀ K : Act → World → Prop, (∀ v w', s.S v → s.R v w.heap.size w'.heap.size w' → Ext w w' → K (a.put o.dst v) w') → wpList P l.toArray (onlyN K) [o] a w)
    (h2 : ∀ v, s.S v → ∀ K : Act → Prop, (∀ a', FlowW P l w0 sp lo hi T rest (k + 1) a' (fun j w => if j = k then s.R v (lo k) (hi k) w else F j w) → K a') → K (a.put o.dst v)) : FlowW P l w0 sp lo hi T (o :: rest) k a F := by
  unfold FlowW
  rw [if_pos hw, hl]
  exact ⟨h1, fun v hv => h2 v hv _ fun _ h => h⟩
theorem flowW_end {lo hi : Nat → Nat} {T : Act → World → Prop} {k : Nat} {a : Act} {F : Nat → World → Prop} (h : ∀ w, Ext w0 w → (∀ j, F j w) → Apart sp lo hi → T a w) : FlowW P l w0 sp lo hi T [] k a F := h
end
end Go.Proofs.YtnolbabpkhdpmaaGreat
