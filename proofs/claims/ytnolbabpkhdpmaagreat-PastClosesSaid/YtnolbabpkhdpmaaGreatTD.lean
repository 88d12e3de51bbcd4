/-
  Layer 17 (tx): transactions in memory, and as they come in.
-/
import Derived.Test.YtnolbabpkhdpmaaGreatUP
import Derived.Test.YtnolbabpkhdpmaaGreatOG
import Derived.Test.YtnolbabpkhdpmaaGreatVC
namespace Go.Proofs.YtnolbabpkhdpmaaGreat
open Go.ChangeShapes Go.WideShapes Go.RowKit

instance : Inhabited Val := ⟨⟨0, 0, ⟨#[]⟩⟩⟩
/-- An operation, and the slice that is its row. -/
structure OpM where
  op : OpT
  rv : Value
instance : Inhabited OpM := ⟨⟨⟨0, 0, 0, 0, [], default, (0, 0), 0⟩, .slice none 0 0⟩⟩
instance : Inhabited HandT := ⟨⟨0, 0, 0, 0, 0, 0, 0⟩⟩
def OpM.cs (a : OpM) : List Value := [.int .i64 a.op.kind, .int .i64 a.op.table, .int .i64 a.op.key, .int .i64 a.op.col, a.rv, .int .i64 a.op.val.k, .int .i64 a.op.val.n, .string a.op.val.s, .int .i64 a.op.after.1, .int .i64 a.op.after.2, .int .i64 a.op.at_]
def HandT.cs (h : HandT) : List Value := [.int .i64 h.to, .int .i64 h.kind, .int .i64 h.table, .int .i64 h.col, .int .i64 h.lo, .int .i64 h.hi, .int .i64 h.amt]
def OpM.Reads (W : World) (a : OpM) : Prop := Rd W a.rv a.op.row.length (rowCs a.op.row)
/-- A slice of operations. -/
def ORd (W : World) (v : Value) (l : List OpM) : Prop := Rd W v l.length (l.flatMap OpM.cs) ∧ ∀ a ∈ l, a.Reads W
theorem OpM.Reads.later {W W' : World} {a : OpM} (h : a.Reads W) (hb : Below W.heap.size W W') : a.Reads W' := Rd.later h hb
theorem ORd.later {W W' : World} {v : Value} {l : List OpM} (h : ORd W v l) (hb : Below W.heap.size W W') : ORd W' v l := ⟨h.1.later hb, fun a ha => (h.2 a ha).later hb⟩
structure TxM where
  dev : Int
  seq : Int
  time : Int
  deps : List Int
  ops : List OpM
  els : List OpM
  firm : Bool
  hands : List HandT
  note : Int
  whom : Int
  upto : Int
  vd : Value
  vo : Value
  ve : Value
  vh : Value
def TxM.tx (t : TxM) : TxT := ⟨t.dev, t.seq, t.time, t.deps, t.ops.map OpM.op, t.els.map OpM.op, t.firm, t.hands, t.note, t.whom, t.upto⟩
def TxM.agg (t : TxM) : Value := .agg #[.int .i64 t.dev, .int .i64 t.seq, .int .i64 t.time, t.vd, t.vo, t.ve, .bool t.firm, t.vh, .int .i64 t.note, .int .i64 t.whom, .int .i64 t.upto]
structure TxM.Reads (W : World) (t : TxM) : Prop where
  deps : Rd W t.vd t.deps.length (t.deps.map ic)
  ops : ORd W t.vo t.ops
  els : ORd W t.ve t.els
  hands : Rd W t.vh t.hands.length (t.hands.flatMap HandT.cs)
theorem TxM.Reads.later {W W' : World} {t : TxM} (h : t.Reads W) (hb : Below W.heap.size W W') : t.Reads W' := ⟨h.deps.later hb, h.ops.later hb, h.els.later hb, h.hands.later hb⟩
/-- Numbers that are int's. -/
structure TxM.Bd (t : TxM) : Prop where
  head : ∀ x ∈ t.tx.head, okI x
  deps : ∀ x ∈ t.deps, okI x
  ops : ∀ o ∈ t.ops, ∀ x ∈ o.op.nums, okI x
  els : ∀ o ∈ t.els, ∀ x ∈ o.op.nums, okI x
  hands : ∀ h ∈ t.hands, ∀ x ∈ h.nums, okI x

theorem txInt : Tryz.prog.cellsOf 3 = 1 := by kernel_rfl
theorem txStr : Tryz.prog.cellsOf 9 = 1 := by kernel_rfl
theorem txBool : Tryz.prog.cellsOf 4 = 1 := by kernel_rfl
theorem txVal : Tryz.prog.cellsOf 119 = 3 := by kernel_rfl
theorem txRow : Tryz.prog.cellsOf 117 = 1 := by kernel_rfl
theorem txDot : Tryz.prog.cellsOf 51 = 2 := by kernel_rfl
theorem txOp : Tryz.prog.cellsOf 121 = 11 := by kernel_rfl
theorem txRight : Tryz.prog.cellsOf 73 = 6 := by kernel_rfl
theorem txHand : Tryz.prog.cellsOf 75 = 7 := by kernel_rfl
theorem txVec : Tryz.prog.cellsOf 23 = 1 := by kernel_rfl
theorem txOps : Tryz.prog.cellsOf 28 = 1 := by kernel_rfl
theorem txHands : Tryz.prog.cellsOf 29 = 1 := by kernel_rfl
theorem txTx : Tryz.prog.cellsOf 31 = 11 := by kernel_rfl

section
variable {H : Type} {enc : TypeId × Value → H} {W : World} {n : Nat} {cs : List Value} {x : DataW H × List MemPlace}

theorem opn_valT (h : DataW.trod enc Tryz.prog W 0 (fun _ => true) true n 119 cs = some x) (hl : cs.length = 3) : ∃ a : Val, cs = a.cs := by
  match cs, hl with
  | [c0, c1, c2], _ =>
    obtain ⟨m, hf⟩ := opn_fields Tryz.underlying119 h
    obtain ⟨_, h0⟩ := hf 0 3 0 1 rfl txInt
    obtain ⟨_, h1⟩ := hf 1 3 1 1 rfl txInt
    obtain ⟨_, h2⟩ := hf 2 9 2 1 rfl txStr
    obtain ⟨k, e0, _⟩ := opn_int Tryz.underlying3 h0
    obtain ⟨q, e1, _⟩ := opn_int Tryz.underlying3 h1
    obtain ⟨s, e2, _⟩ := opn_string Tryz.underlying9 h2
    simp at e0 e1 e2
    exact ⟨⟨k, q, s⟩, by rw [e0, e1, e2]; rfl⟩
theorem opn_dotT (h : DataW.trod enc Tryz.prog W 0 (fun _ => true) true n 51 cs = some x) (hl : cs.length = 2) : ∃ a b : Int, cs = [.int .i64 a, .int .i64 b] ∧ okI a ∧ okI b := by
  match cs, hl with
  | [c0, c1], _ =>
    obtain ⟨m, hf⟩ := opn_fields Tryz.underlying51 h
    obtain ⟨_, h0⟩ := hf 0 3 0 1 rfl txInt
    obtain ⟨_, h1⟩ := hf 1 3 1 1 rfl txInt
    obtain ⟨a, e0, b0⟩ := opn_int Tryz.underlying3 h0
    obtain ⟨b, e1, b1⟩ := opn_int Tryz.underlying3 h1
    simp at e0 e1
    exact ⟨a, b, by rw [e0, e1], b0, b1⟩
set_option maxRecDepth 100000 in
theorem opn_opM (h : DataW.trod enc Tryz.prog W 0 (fun _ => true) true n 121 cs = some x) (hl : cs.length = 11) : ∃ a : OpM, cs = a.cs ∧ (a.Reads W ∧ ∀ y ∈ a.op.nums, okI y) := by
  match cs, hl with
  | [c0, c1, c2, c3, c4, c5, c6, c7, c8, c9, c10], _ =>
    obtain ⟨m, hf⟩ := opn_fields Tryz.underlying121 h
    obtain ⟨_, h0⟩ := hf 0 3 0 1 rfl txInt
    obtain ⟨_, h1⟩ := hf 1 3 1 1 rfl txInt
    obtain ⟨_, h2⟩ := hf 2 3 2 1 rfl txInt
    obtain ⟨_, h3⟩ := hf 3 3 3 1 rfl txInt
    obtain ⟨_, h4⟩ := hf 4 117 4 1 rfl txRow
    obtain ⟨_, h5⟩ := hf 5 119 5 3 rfl txVal
    obtain ⟨_, h6⟩ := hf 6 51 8 2 rfl txDot
    obtain ⟨_, h7⟩ := hf 7 3 10 1 rfl txInt
    obtain ⟨k0, e0, b0⟩ := opn_int Tryz.underlying3 h0
    obtain ⟨k1, e1, b1⟩ := opn_int Tryz.underlying3 h1
    obtain ⟨k2, e2, b2⟩ := opn_int Tryz.underlying3 h2
    obtain ⟨k3, e3, b3⟩ := opn_int Tryz.underlying3 h3
    obtain ⟨rv, rl, e4, hr, _⟩ := opn_list Val.cs (fun _ => True) 3 (fun _ => rfl) (by decide) elR.ty txVal (fun _ _ _ h hl => (opn_valT h hl).imp fun _ h => ⟨h, trivial⟩) h4
    obtain ⟨v, e5⟩ := opn_valT h5 rfl
    obtain ⟨d0, d1, e6, b6, b7⟩ := opn_dotT h6 rfl
    obtain ⟨k7, e7, b8⟩ := opn_int Tryz.underlying3 h7
    simp [Val.cs] at e0 e1 e2 e3 e4 e5 e6 e7
    refine ⟨⟨⟨k0, k1, k2, k3, rl, v, (d0, d1), k7⟩, rv⟩, ?_, hr, ?_⟩
    · rw [e0, e1, e2, e3, e4, e5.1, e5.2.1, e5.2.2, e6.1, e6.2, e7]; rfl
    · intro y hy
      simp only [OpT.nums, List.mem_cons, List.not_mem_nil, or_false] at hy
      rcases hy with rfl | rfl | rfl | rfl | rfl | rfl | rfl <;> assumption
set_option maxRecDepth 100000 in
theorem opn_handT (h : DataW.trod enc Tryz.prog W 0 (fun _ => true) true n 75 cs = some x) (hl : cs.length = 7) : ∃ a : HandT, cs = a.cs ∧ ∀ y ∈ a.nums, okI y := by
  match cs, hl with
  | [c0, c1, c2, c3, c4, c5, c6], _ =>
    obtain ⟨m, hf⟩ := opn_fields Tryz.underlying75 h
    obtain ⟨_, h0⟩ := hf 0 3 0 1 rfl txInt
    obtain ⟨_, hr⟩ := hf 1 73 1 6 rfl txRight
    obtain ⟨m, hg⟩ := opn_fields Tryz.underlying73 hr
    obtain ⟨_, h1⟩ := hg 0 3 0 1 rfl txInt
    obtain ⟨_, h2⟩ := hg 1 3 1 1 rfl txInt
    obtain ⟨_, h3⟩ := hg 2 3 2 1 rfl txInt
    obtain ⟨_, h4⟩ := hg 3 3 3 1 rfl txInt
    obtain ⟨_, h5⟩ := hg 4 3 4 1 rfl txInt
    obtain ⟨_, h6⟩ := hg 5 3 5 1 rfl txInt
    obtain ⟨k0, e0, b0⟩ := opn_int Tryz.underlying3 h0
    obtain ⟨k1, e1, b1⟩ := opn_int Tryz.underlying3 h1
    obtain ⟨k2, e2, b2⟩ := opn_int Tryz.underlying3 h2
    obtain ⟨k3, e3, b3⟩ := opn_int Tryz.underlying3 h3
    obtain ⟨k4, e4, b4⟩ := opn_int Tryz.underlying3 h4
    obtain ⟨k5, e5, b5⟩ := opn_int Tryz.underlying3 h5
    obtain ⟨k6, e6, b6⟩ := opn_int Tryz.underlying3 h6
    simp at e0 e1 e2 e3 e4 e5 e6
    refine ⟨⟨k0, k1, k2, k3, k4, k5, k6⟩, ?_, ?_⟩
    · rw [e0, e1, e2, e3, e4, e5, e6]; rfl
    · intro y hy
      simp only [HandT.nums, List.mem_cons, List.not_mem_nil, or_false] at hy
      rcases hy with rfl | rfl | rfl | rfl | rfl | rfl | rfl <;> assumption
theorem opn_intsT (h : DataW.trod enc Tryz.prog W 0 (fun _ => true) true n 23 cs = some x) : ∃ (v : Value) (l : List Int), cs = [v] ∧ Rd W v l.length (l.map ic) ∧ ∀ y ∈ l, okI y := by
  obtain ⟨v, l, e, hr, hb⟩ := opn_list (fun n : Int => [ic n]) okI 1 (fun _ => rfl) (by decide) Tryz.underlying23 txInt (fun _ cs _ h hl => by
    obtain ⟨k, e, b⟩ := opn_int Tryz.underlying3 h
    exact ⟨k, e, b⟩) h
  have hm : l.flatMap (fun n : Int => [ic n]) = l.map ic := by
    clear hr hb e
    induction l with
    | nil => rfl
    | cons a l ih => rw [List.flatMap_cons, ih]; rfl
  rw [hm] at hr
  exact ⟨v, l, e, hr, hb⟩

variable {v : Value} {d : DataW H} {p : List MemPlace} {base : Nat}
set_option maxRecDepth 100000 in
/-- A transaction that came in. -/
theorem open_tx (hok : Value.okWide Tryz.prog W .any base 31 v) (h : DataW.Trod enc Tryz.prog W 0 (fun _ => true) true 31 v d p) : ∃ t : TxM, v = t.agg ∧ t.Reads W ∧ t.Bd := by
  obtain ⟨cs, rfl, hl, hcs⟩ := opn_agg (.inl ⟨_, Tryz.underlying31⟩) hok
  obtain ⟨n, h⟩ := h
  rw [hcs] at h
  rw [txTx] at hl
  match cs, hl with
  | [c0, c1, c2, c3, c4, c5, c6, c7, c8, c9, c10], _ =>
    obtain ⟨m, hf⟩ := opn_fields Tryz.underlying31 h
    obtain ⟨_, h0⟩ := hf 0 3 0 1 rfl txInt
    obtain ⟨_, h1⟩ := hf 1 3 1 1 rfl txInt
    obtain ⟨_, h2⟩ := hf 2 3 2 1 rfl txInt
    obtain ⟨_, h3⟩ := hf 3 23 3 1 rfl txVec
    obtain ⟨_, h4⟩ := hf 4 28 4 1 rfl txOps
    obtain ⟨_, h5⟩ := hf 5 28 5 1 rfl txOps
    obtain ⟨_, h6⟩ := hf 6 4 6 1 rfl txBool
    obtain ⟨_, h7⟩ := hf 7 29 7 1 rfl txHands
    obtain ⟨_, h8⟩ := hf 8 3 8 1 rfl txInt
    obtain ⟨_, h9⟩ := hf 9 3 9 1 rfl txInt
    obtain ⟨_, h10⟩ := hf 10 3 10 1 rfl txInt
    obtain ⟨k0, e0, b0⟩ := opn_int Tryz.underlying3 h0
    obtain ⟨k1, e1, b1⟩ := opn_int Tryz.underlying3 h1
    obtain ⟨k2, e2, b2⟩ := opn_int Tryz.underlying3 h2
    obtain ⟨vd, ds, e3, r3, b3⟩ := opn_intsT h3
    obtain ⟨vo, os, e4, r4, b4⟩ := opn_list OpM.cs (fun a => a.Reads W ∧ ∀ y ∈ a.op.nums, okI y) 11 (fun _ => rfl) (by decide) Tryz.underlying28 txOp (fun _ _ _ h hl => opn_opM h hl) h4
    obtain ⟨ve, es, e5, r5, b5⟩ := opn_list OpM.cs (fun a => a.Reads W ∧ ∀ y ∈ a.op.nums, okI y) 11 (fun _ => rfl) (by decide) Tryz.underlying28 txOp (fun _ _ _ h hl => opn_opM h hl) h5
    obtain ⟨fm, e6⟩ := opn_bool Tryz.underlying4 h6
    obtain ⟨vh, hs, e7, r7, b7⟩ := opn_list HandT.cs (fun a => ∀ y ∈ a.nums, okI y) 7 (fun _ => rfl) (by decide) Tryz.underlying29 txHand (fun _ _ _ h hl => opn_handT h hl) h7
    obtain ⟨k8, e8, b8⟩ := opn_int Tryz.underlying3 h8
    obtain ⟨k9, e9, b9⟩ := opn_int Tryz.underlying3 h9
    obtain ⟨k10, e10, b10⟩ := opn_int Tryz.underlying3 h10
    simp at e0 e1 e2 e3 e4 e5 e6 e7 e8 e9 e10
    refine ⟨⟨k0, k1, k2, ds, os, es, fm, hs, k8, k9, k10, vd, vo, ve, vh⟩, ?_, ⟨r3, ⟨r4, fun a ha => (b4 a ha).1⟩, ⟨r5, fun a ha => (b5 a ha).1⟩, r7⟩, ⟨?_, b3, fun o ho => (b4 o ho).2, fun o ho => (b5 o ho).2, b7⟩⟩
    · rw [e0, e1, e2, e3, e4, e5, e6, e7, e8, e9, e10]; rfl
    · intro y hy
      simp only [TxM.tx, TxT.head, List.mem_cons, List.not_mem_nil, or_false] at hy
      have hf := firmI_bd fm
      rcases hy with rfl | rfl | rfl | rfl | rfl | rfl | rfl <;> first | assumption | (constructor <;> omega)
end
end Go.Proofs.YtnolbabpkhdpmaaGreat
