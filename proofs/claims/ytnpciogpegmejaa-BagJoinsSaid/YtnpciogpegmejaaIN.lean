/-
  What slices.Insert leans on: append of noughts, copy, for elements of any number of cells.
-/
import Derived.Test.YtnpciogpegmejaaBT
import Derived.Laws.Externs
import Derived.Lib.Overlaps
namespace Go.Proofs.Ytnpciogpegmejaa
open Go.RowKit

section
variable {P : Program} {t tx ty e : TypeId} {size bytes : Nat} {z : Value}

/-- append(s[:i], make(S, m)...), where there is no room. -/
theorem run_app_zeros_own (w : World) (T : El P t e size bytes z) (hx : P.underlying tx = some (.int .i64)) {B g n cap i m : Nat} {xs : List Value} (hown : w.ownsRow B e size (.slice (some ⟨g, 0, none⟩) n cap) n xs)
    (hi : i ≤ n) (hbig : cap < i + m) (h63 : i + m ≤ maxLen) (hbytes : (i + m) * bytes ≤ 140737488355328) :
    ∃ cap' cs, i + m ≤ cap' ∧ cap' ≤ maxLen ∧ cs.size = cap' * size ∧ cs.toList.take (i * size) = xs.take (i * size) ∧
      (Builtin.append_ #[t, tx] ty #[.slice (some ⟨g, 0, none⟩) i cap, .int .i64 m]).run P w = .ok (.slice (some ⟨w.heap.size, 0, none⟩) (i + m) cap') (w.drew.alloc (.cells cs e)) := by
  obtain ⟨j, hj, hz0, hz1, hz2⟩ := T.info
  have hzs := T.zs
  have hpos := T.pos
  subst hz1
  subst hz2
  have hcap : n ≤ cap := by
    rcases hown.2 with ⟨h, _⟩ | ⟨g', c', cur, h, _, _, hnc, _⟩
    · cases h
    · cases h; exact hnc
  have hm : 0 < m := by omega
  have hsmall : i + m ≤ 9223372036854775807 := by simp only [maxLen] at h63; omega
  have hge := grownCap_ge w (i + m) cap e
  have hcm : grownCap w (i + m) cap e ≤ maxLen := grownCap_le_maxLen w (i + m) cap e h63
  have hxl : (xs.take (i * j.size)).length = i * j.size := by
    rw [List.length_take, hown.1]
    exact Nat.min_eq_left (Nat.mul_le_mul_right _ hi)
  have hfo : (Builtin.firstCells j.size i (.slice (some ⟨g, 0, none⟩) i cap)).run P w.drew = .ok (xs.take (i * j.size)).toArray w.drew := by
    refine run_firstCells_some (P := P) w.drew j.size i ⟨g, 0, none⟩ i cap (xs.take (i * j.size)) hxl fun q u hq => ?_
    have hq' : xs[q]? = some u := by
      rw [List.getElem?_take] at hq
      split at hq
      · exact hq
      · cases hq
    exact (hown.cells (g := g) rfl) q u hq'
  refine ⟨grownCap w (i + m) cap e, (xs.take (i * j.size)).toArray ++ Builtin.zeroCells z.cells m ++ Builtin.zeroCells z.cells (grownCap w (i + m) cap e - (i + m)), hge, hcm, ?_, ?_, ?_⟩
  · rw [Array.size_append, Array.size_append, size_zeroCells, size_zeroCells, hzs, List.size_toArray, hxl, ← Nat.add_mul, ← Nat.add_mul]
    congr 1; omega
  · simp only [Array.toList_append, List.append_assoc]
    rw [List.take_append_of_le_length (by rw [hxl]; exact Nat.le_refl _), List.take_take, Nat.min_self]
  · have hwr : IntKind.i64.wrap (m : Int) = (m : Int) := by rw [IntKind.wrap_i64]; omega
    have h48 := growslice_fits (old := cap) (need := i + m) hbig hbytes
    have h48' : ¬ (281474976710656 < Builtin.nextslicecap (i + m) cap * j.bytes) := by omega
    have h48i : ¬ (281474976710656 < (m : Int) * (j.bytes : Int)) := by
      rw [← Int.natCast_mul]
      have : m * j.bytes ≤ (i + m) * j.bytes := Nat.mul_le_mul_right _ (by omega)
      omega
    have hx0 : ¬ (9223372036854775807 < (i : Int) + (m : Int)) := by omega
    have hn0 : ¬ (i + m ≤ cap) := by omega
    have hng : ¬ ((m : Int) < 0) := by omega
    have hn2 : ¬ (m * j.size = 0) := by have := Nat.mul_pos hm hpos; omega
    simp [Builtin.append_, run_underlying T.ty, run_underlying hx, sizeOf, typeInfo, zeroValue, asInt, asIntOf, hj, hz0, hwr, h48', h48i, hx0, hn0, hng, hn2, Question.forced, newRow, grownCap, hfo]

/-- copy: all is read before anything is written. -/
theorem run_copy_k (T : El P t e size bytes z) (w : World) {b o dLen dCap sLen sCap n : Nat} {a : Addr} {cur : Array Value} {cs : List Value} (hn : n = Nat.min sLen dLen) (hl : cs.length = n * size)
    (hsrc : ∀ j v, cs[j]? = some v → w.cell? (a.add j) = some v) (hg : w.heap[b]? = some (.cells cur e (0, 0))) (hfit : o + cs.length ≤ cur.size) (h1 : ∀ u ∈ cs, u.oneCell' = true) :
    (Builtin.copy_ #[t, t] ty #[.slice (some ⟨b, o, none⟩) dLen dCap, .slice (some a) sLen sCap]).run P w = .ok (goInt n) (w.setRow b (cur.toList.take o ++ cs ++ cur.toList.drop (o + cs.length)).toArray) := by
  obtain ⟨j, hj, hz0, hz1, hz2⟩ := T.info
  subst hz1
  have hst := run_storeCells_at P b o e cs 0 cur w hg (by simpa using hfit) h1
  simp only [Nat.add_zero] at hst
  have hf : (Builtin.firstCells j.size n (.slice (some a) sLen sCap)).run P w = .ok cs.toArray w := run_firstCells_some (P := P) w j.size n a sLen sCap cs hl hsrc
  simp [Builtin.copy_, run_underlying T.ty, Builtin.lenOf, sizeOf, typeInfo, hj, ← hn, hf, hst]
end

/-- The operation 'copy', where its run is known. -/
theorem wpList_copy_run {P : Program} {w : World} {ops : Array Oper} {rest : List Oper} {o : Oper} {a : Act} {Q : Exit → Act → World → Prop} (hgd : o.guard = none) (d s : Operand) (t t' : TypeId)
    (ho : o.op = .call { callee := .builtin .copy, args := #[d, s], argTypes := #[t, t'] }) (v u : Value) (hd : a.eval d = v) (hs : a.eval s = u) {v' : Value} {w' : World}
    (hr : (Builtin.copy_ #[t, t'] o.type #[v, u]).run P w = .ok v' w') (h : wpList P ops Q rest (a.put o.dst v') w') : wpList P ops Q (o :: rest) a w :=
  wpList_plain hgd fun _ hK => by
    unfold Oper.wp execOp
    simp only [ho, resolve, invoke, builtin, Sem.run_bind, Sem.run_pure, Result.andThen_ok, List.map_toArray, List.map_cons, List.map_nil, hd, hs, hr]
    exact hK _ _ h
theorem step_copy_run {P : Program} {ops : Array Oper} {o : Oper} {a : Act} {w : World} {K : Act → World → Prop} {Q : Exit → Act → World → Prop} {E : Prop}
    (hg : o.guard = none) (d x : Operand) (dT sT : TypeId) (hop : o.op = Op.call { callee := Callee.builtin Builtin.copy, args := #[d, x], argTypes := #[dT, sT] })
    (v u : Value) (hd : a.eval d = v) (hx : a.eval x = u) {v' : Value} {w' : World} (hr : (Builtin.copy_ #[dT, sT] o.type #[v, u]).run P w = .ok v' w') (hK : K (a.put o.dst v') w') :
    if Region.wanted o (yielded ops a.tmps) = true then Oper.wp P o a w K Q else E := by
  have hw : Region.wanted o (yielded ops a.tmps) = true := by simp [Region.wanted, hg]
  rw [if_pos hw]
  unfold Oper.wp
  simp [execOp, hop, resolve, invoke, builtin, hd, hx, hr, Result.andThen]
  exact hK

/-- The operation 'append' of noughts, where its run is known. -/
theorem wpList_app_run {P : Program} {w : World} {ops : Array Oper} {rest : List Oper} {o : Oper} {a : Act} {Q : Exit → Act → World → Prop} (hgd : o.guard = none) (s x : Operand) (t tn : TypeId)
    (ho : o.op = .call { callee := .builtin .append, args := #[s, x], argTypes := #[t, tn] }) (vs vx : Value) (hs : a.eval s = vs) (hx : a.eval x = vx) {v' : Value} {w' : World}
    (hr : (Builtin.append_ #[t, tn] o.type #[vs, vx]).run P w = .ok v' w') (h : wpList P ops Q rest (a.put o.dst v') w') : wpList P ops Q (o :: rest) a w :=
  wpList_plain hgd fun _ hK => by
    unfold Oper.wp execOp
    simp only [ho, resolve, invoke, builtin, Sem.run_bind, Sem.run_pure, Result.andThen_ok, List.map_toArray, List.map_cons, List.map_nil, hs, hx, hr]
    exact hK _ _ h

/-! ### Rows of cells, shifted -/
section
variable {α : Type} {c xs ys : List α} {a k m : Nat}

/-- In place: first what stands behind is moved, then the new one is laid. a: where; k: how much is new; m: how much there was. -/
theorem shift_in (hx : c.take m = xs) (hm : m + k ≤ c.length) (ha : a ≤ m) (hy : ys.length = k) {c1 c2 : List α} (h1 : c1 = c.take (a + k) ++ xs.drop a ++ c.drop (a + k + (xs.drop a).length)) (h2 : c2 = c1.take a ++ ys ++ c1.drop (a + ys.length)) :
    c2.take (m + k) = xs.take a ++ ys ++ xs.drop a ∧ c2.length = c.length ∧ c1.length = c.length := by
  have hxl : xs.length = m := by rw [← hx, List.length_take]; omega
  have hdl : (xs.drop a).length = m - a := by rw [List.length_drop, hxl]
  have hl1 : c1.length = c.length := by rw [h1]; simp only [List.length_append, List.length_take, List.length_drop]; omega
  have ht1 : c1.take a = xs.take a := by
    rw [h1, List.append_assoc, List.take_append_of_le_length (by rw [List.length_take]; omega), List.take_take, Nat.min_eq_left (by omega), ← hx, List.take_take, Nat.min_eq_left ha]
  have hd1 : c1.drop (a + ys.length) = xs.drop a ++ c.drop (a + k + (xs.drop a).length) := by
    rw [h1, hy, List.append_assoc, List.drop_append_of_le_length (by rw [List.length_take]; omega), List.drop_of_length_le (by rw [List.length_take]; omega), List.nil_append]
  refine ⟨?_, ?_, hl1⟩
  · rw [h2, ht1, hd1, ← List.append_assoc, List.take_append_of_le_length (by simp only [List.length_append, List.length_take, hy, hdl, hxl]; omega), List.take_of_length_le (by simp only [List.length_append, List.length_take, hy, hdl, hxl]; omega)]
  · rw [h2]; simp only [List.length_append, List.length_take, List.length_drop, hl1, hy]; omega

/-- In a new row: first the new one is laid, then what stands behind. -/
theorem shift_new (hx : c.take a = xs.take a) (hm : m + k ≤ c.length) (hxl : xs.length = m) (ha : a ≤ m) (hy : ys.length = k) {c1 c2 : List α} (h1 : c1 = c.take a ++ ys ++ c.drop (a + ys.length)) (h2 : c2 = c1.take (a + k) ++ xs.drop a ++ c1.drop (a + k + (xs.drop a).length)) :
    c2.take (m + k) = xs.take a ++ ys ++ xs.drop a ∧ c2.length = c.length ∧ c1.length = c.length := by
  have hdl : (xs.drop a).length = m - a := by rw [List.length_drop, hxl]
  have hl1 : c1.length = c.length := by rw [h1]; simp only [List.length_append, List.length_take, List.length_drop, hy]; omega
  have ht1 : c1.take (a + k) = xs.take a ++ ys := by
    rw [h1, hx, List.take_append_of_le_length (by simp only [List.length_append, List.length_take, hy, hxl]; omega), List.take_of_length_le (by simp only [List.length_append, List.length_take, hy, hxl]; omega)]
  refine ⟨?_, ?_, hl1⟩
  · rw [h2, ht1, List.take_append_of_le_length (by simp only [List.length_append, List.length_take, hy, hdl, hxl]; omega), List.take_of_length_le (by simp only [List.length_append, List.length_take, hy, hdl, hxl]; omega)]
  · rw [h2]; simp only [List.length_append, List.length_take, List.length_drop, hl1, hxl]; omega
end

theorem lo_ex {P : Program} {t e : TypeId} {size bytes : Nat} {z : Value} (T : El P t e size bytes z) {g n c l : Nat} {x : Int} (hx : x = (l : Int)) (hl : l < n) (hn : n ≤ c) :
    ∃ O L C, (∀ W, (Instr.sliceAt t (.slice (some ⟨g, 0, none⟩) n c) (some (.int .i64 x)) none none).run P W = .ok (.slice (some ⟨g, O, none⟩) L C) W) ∧ O = l * size ∧ L = n - l := by
  subst hx
  obtain ⟨i, hi, hz0, hz1, hz2⟩ := T.info
  have ht : P.underlying t = some (.slice (P.elem t)) := by rw [T.elem]; exact T.ty
  refine ⟨l * size, n - l, c - l, fun W => ?_, rfl, rfl⟩
  rw [run_sliceAt_slice W t _ _ _ _ ht, run_slice_l W t (some ⟨g, 0, none⟩) n c ht .i64 (l : Int) (by omega) (by omega)]
  simp only [T.elem, sizeOf, Sem.run_bind, typeInfo, Int.toNat_natCast]
  have hne : ¬ c = l := by omega
  simp [hi, hz1, Result.andThen, sliced, hne, Addr.add]
  intro h; exact h.symm
theorem hi_ex {P : Program} {t e : TypeId} {size bytes : Nat} {z : Value} (T : El P t e size bytes z) {g n c l : Nat} {x : Int} (hx : x = (l : Int)) (hl : l ≤ c) (W : World) :
    (Instr.sliceAt t (.slice (some ⟨g, 0, none⟩) n c) none (some (.int .i64 x)) none).run P W = .ok (.slice (some ⟨g, 0, none⟩) l c) W := by
  subst hx
  obtain ⟨i, hi, hz0, hz1, hz2⟩ := T.info
  have ht : P.underlying t = some (.slice (P.elem t)) := by rw [T.elem]; exact T.ty
  rw [run_sliceAt_slice W t _ _ _ _ ht, run_slice_h W t (some ⟨g, 0, none⟩) n c ht .i64 (l : Int) (by omega) (by omega)]
  simp only [T.elem, sizeOf, Sem.run_bind, typeInfo, Int.toNat_natCast]
  simp [hi, hz1, Result.andThen, sliced, Addr.add]
theorem block_cell {w : World} {q : Nat} {ys : List Value} {e : TypeId} (h : w.heap[q]? = some (.cells ys.toArray e (0, 0))) {j : Nat} {u : Value} (hj : ys[j]? = some u) : w.cell? ⟨q, j, none⟩ = some u := by
  simp [World.cell?, h, hj]
theorem rd_block {w : World} {q n : Nat} {ys : List Value} {e : TypeId} (h : w.heap[q]? = some (.cells ys.toArray e (0, 0))) (_ : ys.length = n) : Rd w (.slice (some ⟨q, 0, none⟩) 1 1) 1 ys :=
  ⟨_, _, rfl, Nat.le_refl _, by decide, (fun h => nomatch h), fun a ha j u hj => by cases ha; rw [Addr.add_lit, Nat.zero_add]; exact block_cell h hj⟩
theorem setRow_grown (w : World) (b : Nat) (cs : Array Value) : w.grownBy (w.setRow b cs) (some b) :=
  ⟨rfl, rfl, rfl, by simp, fun k _ hk => setRow_other w b k _ (fun e => hk (by rw [e]))⟩
theorem grown_trans {a b c : World} {r : Option Nat} (h : a.grownBy b r) (k : b.grownBy c r) : a.grownBy c r :=
  ⟨k.os.trans h.os, k.tape.trans h.tape, k.output.trans h.output, Nat.le_trans h.size k.size, fun i hi hr => (k.block i (Nat.lt_of_lt_of_le hi h.size) hr).trans (h.block i hi hr)⟩
theorem grown_drew {a b : World} {r : Option Nat} (h : a.grownBy b r) : a.grownBy b.drew r := ⟨h.os, h.tape, h.output, h.size, h.block⟩
theorem grown_of_below {a b : World} {r : Option Nat} (h : Below a.heap.size a b) : a.grownBy b r := ⟨h.os, h.tape, h.output, h.size, fun k hk _ => h.block k hk⟩
/-- A block that did not lie yet may be written. -/
theorem grown_new {a b c : World} {r : Option Nat} {q : Nat} (h : a.grownBy b r) (hq : a.heap.size ≤ q) (k : b.grownBy c (some q)) : a.grownBy c r :=
  ⟨k.os.trans h.os, k.tape.trans h.tape, k.output.trans h.output, Nat.le_trans h.size k.size, fun i hi hr => (k.block i (Nat.lt_of_lt_of_le hi h.size) (fun e => by cases e; omega)).trans (h.block i hi hr)⟩
end Go.Proofs.Ytnpciogpegmejaa
