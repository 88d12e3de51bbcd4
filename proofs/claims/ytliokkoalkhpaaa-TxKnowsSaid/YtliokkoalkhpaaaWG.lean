/-
  Layer 17 (tx): what is known of what was read, and of what comes in, for the laws.
-/
import Derived.Test.YtliokkoalkhpaaaWF
namespace Go.Proofs.Ytliokkoalkhpaaa
open Go.RowKit Go.Sort Go.BigFrame

theorem wf_u16T {x : Int} (h : (Lit.int .u16 x).wf = true) : 0 ≤ x ∧ x ≤ 65535 := by
  simpa [Lit.wf, IntKind.min, IntKind.max, IntKind.signed, IntKind.bits] using h
theorem wf_u8T {x : Int} (h : (Lit.int .u8 x).wf = true) : 0 ≤ x ∧ x ≤ 255 := by
  simpa [Lit.wf, IntKind.min, IntKind.max, IntKind.signed, IntKind.bits] using h
theorem byte_of {x : Int} (h : 0 ≤ x ∧ x ≤ 255) : ∃ y : UInt8, Value.int .u8 x = bc y := by
  obtain ⟨k, rfl⟩ := Int.eq_ofNat_of_zero_le h.1
  exact ⟨UInt8.ofNat k, (bc_ofNat (by omega)).symm⟩
theorem bytesT_pos (t : TxT) : 1 ≤ (bytesT t).length := by
  unfold bytesT nums
  simp only [List.length_append]
  have := (put_len (t.head.length : Int)).1
  omega
theorem rem_of {c : Int} {n : Nat} (h : 0 ≤ c ∧ c ≤ 65535) (hn : 1 ≤ n) : ∃ k : Nat, c.tmod (n : Int) = (k : Int) ∧ k < n := by
  obtain ⟨m, rfl⟩ := Int.eq_ofNat_of_zero_le h.1
  exact ⟨m % n, by rw [Int.tmod_eq_emod_of_nonneg (by omega)]; rfl, Nat.mod_lt _ (by omega)⟩
theorem bytesT_len {dev seq time note whom upto : Int} {fm : Bool} {deps : List Int} {ops els : List OpM} {hands : List HandT} (h1 : deps.length ≤ 1000000) (h4 : ops.length ≤ 60) (h5 : ∀ a ∈ ops, a.op.fit) (h6 : els.length ≤ 60) (h7 : ∀ a ∈ els, a.op.fit) (h8 : hands.length ≤ 2000) :
    (bytesT ⟨dev, seq, time, trimL deps, ops.map OpM.op, els.map OpM.op, fm, hands, note, whom, upto⟩).length ≤ 900000000 := by
  have a1 := numsL_len [dev, seq, time, firmI fm, note, whom, upto]
  have a2 := numsL_len (trimL deps)
  have a3 := trimL_len deps
  have a4 := putL_ops_len h5
  have a5 := putL_ops_len h7
  have a6 := bytesHs_len hands
  have a7 := put_len (hands.length : Int)
  have a8 : (putL bytesHand hands).length = (put (hands.length : Int)).length + (bytesHs hands).length := by unfold putL bytesHs; rw [List.length_append]
  unfold bytesT
  simp only [List.length_append]
  show (nums [dev, seq, time, firmI fm, note, whom, upto]).length + ((nums (trimL deps)).length + ((putL bytesOp (ops.map OpM.op)).length + ((putL bytesOp (els.map OpM.op)).length + (putL bytesHand hands).length))) ≤ _
  simp only [List.length_cons, List.length_nil] at a1
  omega
theorem refTrim_b {v : Value} {l : List Int} {w : World} (h : Rd w v l.length (l.map ic)) :
    Calls Try.prog 25 #[v] w fun e w' => ∃ v', e = .returned v' ∧ Rd w' v' (trimL l).length ((trimL l).map ic) ∧ Below w.heap.size w w' :=
  (refTrim_any _ v l w rfl h).mono fun _ _ ⟨v', h1, h2, h3⟩ => ⟨v', h1, h3 ▸ h2, h3 ▸ Below.refl _ _⟩
theorem refEqual_t {va vb : Value} {a b : List Int} {w : World} (ha : Rd w va a.length (a.map ic)) (hb : Rd w vb b.length (b.map ic)) (hl : a.length ≤ 1000000) (hab : a = b) :
    Calls Try.prog 24 #[va, vb] w fun e w' => e = .returned (.bool true) ∧ Below w.heap.size w w' :=
  (refEqualV_any va vb a b w ha hb (by omega) (by rw [← hab]; omega)).mono fun _ _ ⟨r, h1, h2, h3⟩ => ⟨by rw [h1, h2.2 hab], h3 ▸ Below.refl _ _⟩
theorem mem_flat_len {α : Type} (f : α → List UInt8) {l : List α} {a : α} (h : a ∈ l) : (f a).length ≤ (l.flatMap f).length := by
  induction l with
  | nil => cases h
  | cons b l ih =>
    rw [List.flatMap_cons, List.length_append]
    rcases List.mem_cons.1 h with rfl | h
    · omega
    · have := ih h; omega
theorem len_flat {α : Type} (f : α → List UInt8) {l : List α} (h : ∀ a ∈ l, 1 ≤ (f a).length) : l.length ≤ (l.flatMap f).length := by
  induction l with
  | nil => simp
  | cons b l ih =>
    rw [List.flatMap_cons, List.length_append, List.length_cons]
    have := h b List.mem_cons_self
    have := ih fun a ha => h a (List.mem_cons_of_mem _ ha)
    omega
theorem row_le {l : List Val} (h : ∀ v ∈ l, rightV v = true) : l.length ≤ (bytesR l).length := by
  unfold bytesR putL
  rw [List.length_append]
  have := len_flat bytesV (l := l) fun v hv => (bytesV_len (h v hv)).1
  omega
theorem trimL_id {l : List Int} (h : l.getLast? ≠ some 0) : trimL l = l := by
  rcases List.eq_nil_or_concat l with rfl | ⟨m, x, e⟩
  · rfl
  · rw [List.concat_eq_append] at e
    subst e
    exact trimL_snoc (fun e => h (by rw [e]; simp))
theorem fit_read {l : List OpT} {o : OpT} {n : Nat} (ho : o ∈ l) (hk : o.ok) (hn : (putL bytesOp l).length ≤ n) (h3 : n ≤ 3000) : o.fit := by
  refine ⟨hk, ?_⟩
  have h1 := row_le hk.2.1.2
  have h2 := mem_flat_len bytesOp ho
  have h4 : (bytesR o.row).length ≤ (bytesOp o).length := by unfold bytesOp; simp only [List.length_append]; omega
  unfold putL at hn
  rw [List.length_append] at hn
  omega
/-- What is known of what was read. -/
structure ReadF (t : TxM) (b : List UInt8) : Prop where
  head : ∀ x ∈ [t.dev, t.seq, t.time, firmI t.firm, t.note, t.whom, t.upto], okI x
  deps : t.deps.length ≤ 1000000 ∧ ∀ x ∈ t.deps, okI x
  trim : trimL t.deps = t.deps
  ops : t.ops.length ≤ 2000 ∧ ∀ a ∈ t.ops, a.op.fit
  els : t.els.length ≤ 2000 ∧ ∀ a ∈ t.els, a.op.fit
  hands : t.hands.length ≤ 2000 ∧ ∀ h ∈ t.hands, ∀ x ∈ h.nums, okI x
  bytes : b = bytesT t.tx
theorem read_facts {t : TxM} {b : List UInt8} (h : parseT b = some t.tx) (hl : b.length ≤ 3000) : ReadF t b := by
  obtain ⟨⟨h1, h2, h3, h4, h5, h6⟩, hb⟩ := parseT_some h
  have hlen : (bytesT t.tx).length ≤ 3000 := by rw [← hb]; exact hl
  have hd : t.deps.length ≤ (nums t.deps).length := by
    unfold nums
    rw [List.length_append]
    have := len_flat put (l := t.deps) fun x _ => (put_len x).1
    omega
  have hb0 := hlen
  unfold bytesT at hb0
  simp only [List.length_append] at hb0
  have hb1 : (nums t.deps).length ≤ 3000 := by have : (nums t.tx.deps).length ≤ 3000 := by omega
                                               exact this
  have ho : (putL bytesOp t.tx.ops).length ≤ 3000 := by omega
  have he : (putL bytesOp t.tx.els).length ≤ 3000 := by omega
  refine ⟨h1, ⟨by omega, h2.2⟩, trimL_id h3, ⟨by simpa [TxM.tx] using h4.1, fun a ha => ?_⟩, ⟨by simpa [TxM.tx] using h5.1, fun a ha => ?_⟩, h6, hb⟩
  · have hm : a.op ∈ t.tx.ops := List.mem_map_of_mem ha
    exact fit_read hm (h4.2 _ hm) ho (Nat.le_refl _)
  · have hm : a.op ∈ t.tx.els := List.mem_map_of_mem ha
    exact fit_read hm (h5.2 _ hm) he (Nat.le_refl _)
theorem parse_none {v : Value} {b : List UInt8} {n : Nat} {w : World} (h : Rd w v n (b.map bc)) (hn : b.length = n) (hl : n ≤ 1000000000) (hp : parseT b = none) :
    Calls Try.prog 21 #[v] w fun e w' => e = .returned (.tuple #[.agg #[.int .i64 0, .int .i64 0, .int .i64 0, .slice none 0 0, .slice none 0 0, .slice none 0 0, .bool false, .slice none 0 0, .int .i64 0, .int .i64 0, .int .i64 0], .int .i64 3]) ∧ Below w.heap.size w w' := by
  subst hn
  refine (parse_any v b w h hl).mono ?_
  rintro e w' ⟨hb, ⟨_, rfl⟩ | ⟨t, ht, _⟩⟩
  · exact ⟨rfl, hb⟩
  · rw [hp] at ht; cases ht
theorem parse_some {v : Value} {b : List UInt8} {n : Nat} {w : World} {t0 : TxT} (h : Rd w v n (b.map bc)) (hn : b.length = n) (hl : n ≤ 1000000000) (hp : parseT b = some t0) :
    Calls Try.prog 21 #[v] w fun e w' => ∃ t : TxM, t.tx = t0 ∧ e = .returned (.tuple #[t.agg, .int .i64 0]) ∧ t.Reads w' ∧ Below w.heap.size w w' := by
  subst hn
  refine (parse_any v b w h hl).mono ?_
  rintro e w' ⟨hb, ⟨hq, _⟩ | ⟨t, ht, he, hr⟩⟩
  · rw [hp] at hq; cases hq
  · rw [hp] at ht
    exact ⟨t, (Option.some.inj ht).symm, he, hr, hb⟩
theorem same_b {va vb : Value} {na nb : Nat} {la lb : List UInt8} {w : World} (s : Bool) (h : s = true ↔ la = lb) (ha : Rd w va na (la.map bc)) (hna : na = la.length) (hb : Rd w vb nb (lb.map bc)) (hnb : nb = lb.length) :
    Calls Try.prog 18 #[va, vb] w fun e w' => e = .returned (.bool s) ∧ Below w.heap.size w w' := by
  have h1 := same_at ha hna hb hnb
  have h2 : (la == lb) = s := by
    cases s with
    | true => simpa using h
    | false => simpa using h
  rw [h2] at h1
  exact h1
/-- What is written is read back. -/
theorem trim_ok {dev seq time note whom upto : Int} {fm : Bool} {deps : List Int} {ops els : List OpM} {hands : List HandT} (h1 : ∀ x ∈ [dev, seq, time, firmI fm, note, whom, upto], okI x) (h2 : deps.length ≤ 1000000) (h3 : ∀ x ∈ deps, okI x) (h4 : ops.length ≤ 2000) (h5 : ∀ a ∈ ops, a.op.fit) (h6 : els.length ≤ 2000) (h7 : ∀ a ∈ els, a.op.fit) (h8 : hands.length ≤ 2000) (h9 : ∀ h ∈ hands, ∀ x ∈ h.nums, okI x) :
    TxT.ok ⟨dev, seq, time, trimL deps, ops.map OpM.op, els.map OpM.op, fm, hands, note, whom, upto⟩ := by
  refine ⟨h1, ⟨?_, fun x hx => h3 x (trimL_mem hx)⟩, trimL_last deps, ⟨by simpa using h4, fun o ho => ?_⟩, ⟨by simpa using h6, fun o ho => ?_⟩, ⟨h8, h9⟩⟩
  · have := trimL_len deps
    show (trimL deps).length ≤ _
    omega
  · obtain ⟨a, ha, rfl⟩ := List.mem_map.1 ho
    exact (h5 a ha).1
  · obtain ⟨a, ha, rfl⟩ := List.mem_map.1 ho
    exact (h7 a ha).1
end Go.Proofs.Ytliokkoalkhpaaa
