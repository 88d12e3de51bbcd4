/-
  The worlds that a sort in place passes through: as the first one, but for the row; new blocks behind it.
-/
import Derived.Test.YtnolbabpkhdpmaaGreatSP
import Derived.Shelf.SlSortCmp.KitK
import Derived.BigRegion
import Derived.OwnWalk
import Derived.Laws.OwnMore
namespace Go.Proofs.YtnolbabpkhdpmaaGreat
open Go.RowKit Go.Sort

theorem below_set {B : Nat} {X W : World} (h : Below B X W) {a : Addr} (v : Value) (_ : a.block < B) : Below B (X.setCell a v) (W.setCell a v) := by
  refine ⟨h.os, h.tape, h.output, by simpa [World.setCell] using h.size, fun k hk => ?_⟩
  by_cases e : k = a.block
  · subst e
    simp only [World.setCell, Array.getElem?_modify, if_true, h.block _ hk]
  · rw [Below.heap_setCell _ _ _ _ e, Below.heap_setCell _ _ _ _ e]; exact h.block k hk

theorem below_sets {B : Nat} {b : Nat} (hb : b < B) : ∀ (vs : List Value) {X W : World} (o : Nat), Below B X W → Below B (X.setCells b o vs) (W.setCells b o vs)
  | [], _, _, _, h => h
  | v :: vs, _, _, o, h => below_sets hb vs (o + 1) (below_set h v hb)

section
variable {α : Type} [Inhabited α] (enc : α → List Value) (k : Nat) (w0 : World) (blk off : Nat)

/-- What a sort is told of its row, once. -/
structure Rw (n : Nat) (l0 : List α) : Prop where
  hk : ∀ x, (enc x).length = k
  h1 : ∀ x, ∀ v ∈ enc x, v.oneCell' = true
  hH : HoldsK enc k w0 blk off l0.toArray
  hblk : blk < w0.heap.size
  hn : l0.length = n

/-- The row holds l; all else that was there is as it was. -/
def SB (l : List α) (W : World) : Prop := Below w0.heap.size (putRowK enc k w0 blk off l.toArray) W
end

section
variable {α : Type} [Inhabited α] {enc : α → List Value} {k : Nat} {w0 : World} {blk off n : Nat} {l0 : List α}

theorem size_putRowK' (d : Array α) : (putRowK enc k w0 blk off d).heap.size = w0.heap.size := size_putRow id w0 blk off _

theorem Rw.start (R : Rw enc k w0 blk off n l0) : SB enc k w0 blk off l0 w0 := by
  unfold SB
  rw [putRowK_self enc k w0 blk off _ R.hH]
  exact Below.refl _ _

theorem SB.later {l : List α} {W W' : World} (h : SB enc k w0 blk off l W) (hb : Below W.heap.size W W') : SB enc k w0 blk off l W' :=
  Below.trans h (hb.mono (by have := Below.size h; rwa [size_putRowK'] at this))

theorem SB.drew {l : List α} {W : World} (h : SB enc k w0 blk off l W) : SB enc k w0 blk off l W.drew := Below.drew h

theorem SB.le {l : List α} {W : World} (h : SB enc k w0 blk off l W) : w0.heap.size ≤ W.heap.size := by
  have := Below.size h; rwa [size_putRowK'] at this

theorem SB.holds {l : List α} {W : World} (h : SB enc k w0 blk off l W) (R : Rw enc k w0 blk off n l0) (hl : l.length = n) : HoldsK enc k W blk off l.toArray := by
  intro j hj
  have h0 := holdsK_putRowK enc k w0 blk off l0.toArray l.toArray R.hH (by simp [hl, R.hn]) j hj
  exact ⟨by rw [Below.cell h (p := ⟨blk, off + j, none⟩) R.hblk]; exact h0.1, by rw [Below.frozen h (p := ⟨blk, off + j, none⟩) R.hblk]; exact h0.2⟩

/-- What lies in another block. -/
theorem SB.cell {l : List α} {W : World} (h : SB enc k w0 blk off l W) {a : Addr} (ha : a.block < w0.heap.size) (hne : a.block ≠ blk) : W.cell? a = w0.cell? a := by
  rw [Below.cell h ha, cell?_putRowK_other enc k w0 blk off _ a hne]

theorem SB.swapped {P M S : List α} {x y : α} {W : World} (h : SB enc k w0 blk off (P ++ x :: (M ++ y :: S)) W) (R : Rw enc k w0 blk off n l0) {i j : Nat} (hi : i = P.length) (hj : j = P.length + 1 + M.length) :
    SB enc k w0 blk off (P ++ y :: (M ++ x :: S)) ((W.setCells blk (off + i * k) (enc y)).setCells blk (off + j * k) (enc x)) := by
  have hx : (P ++ x :: (M ++ y :: S)).toArray[i]! = x := get_mid (d := (P ++ x :: (M ++ y :: S)).toArray) rfl hi
  have hy : (P ++ x :: (M ++ y :: S)).toArray[j]! = y := get_mid (d := (P ++ x :: (M ++ y :: S)).toArray) (P := P ++ x :: M) (R := S) (by simp) (by simp; omega)
  have hsw := swap_worldK enc k R.hk w0 0 0 blk off (P ++ x :: (M ++ y :: S)).toArray i j (by simp; omega) (by simp; omega)
  rw [hx, hy] at hsw
  have hl := swp_list (d := (P ++ x :: (M ++ y :: S)).toArray) rfl hi hj
  have he : swp (P ++ x :: (M ++ y :: S)).toArray i j = (P ++ y :: (M ++ x :: S)).toArray := by
    apply Array.ext'; rw [hl]
  rw [he] at hsw
  unfold SB at h ⊢
  have hz : putRowK enc k w0 blk off (P ++ y :: (M ++ x :: S)).toArray = ((putRowK enc k w0 blk off (P ++ x :: (M ++ y :: S)).toArray).setCells blk (off + i * k) (enc y)).setCells blk (off + j * k) (enc x) := hsw.symm
  rw [hz]
  exact below_sets R.hblk _ _ (below_sets R.hblk _ _ h)

theorem SB.swapped' {P M S : List α} {x y : α} {W : World} (h : SB enc k w0 blk off (P ++ x :: (M ++ y :: S)) W) (R : Rw enc k w0 blk off n l0) {i j : Nat} (hi : i = P.length) (hj : j = P.length + 1 + M.length) :
    SB enc k w0 blk off (P ++ y :: (M ++ x :: S)) ((W.setCells blk (off + j * k) (enc x)).setCells blk (off + i * k) (enc y)) := by
  have hx : (P ++ x :: (M ++ y :: S)).toArray[i]! = x := get_mid (d := (P ++ x :: (M ++ y :: S)).toArray) rfl hi
  have hy : (P ++ x :: (M ++ y :: S)).toArray[j]! = y := get_mid (d := (P ++ x :: (M ++ y :: S)).toArray) (P := P ++ x :: M) (R := S) (by simp) (by simp; omega)
  have hsw := swap_worldK enc k R.hk w0 0 0 blk off (P ++ x :: (M ++ y :: S)).toArray j i (by simp; omega) (by simp; omega)
  rw [hx, hy] at hsw
  have hl := swp_list' (d := (P ++ x :: (M ++ y :: S)).toArray) rfl hi hj
  have he : swp (P ++ x :: (M ++ y :: S)).toArray j i = (P ++ y :: (M ++ x :: S)).toArray := by
    apply Array.ext'; rw [hl]
  rw [he] at hsw
  unfold SB at h ⊢
  have hz : putRowK enc k w0 blk off (P ++ y :: (M ++ x :: S)).toArray = ((putRowK enc k w0 blk off (P ++ x :: (M ++ y :: S)).toArray).setCells blk (off + j * k) (enc x)).setCells blk (off + i * k) (enc y) := hsw.symm
  rw [hz]
  exact below_sets R.hblk _ _ (below_sets R.hblk _ _ h)

/-- A load of an element, as an equation. -/
theorem SB.load {P S : List α} {x : α} {W : World} (h : SB enc k w0 blk off (P ++ x :: S) W) (R : Rw enc k w0 blk off n l0) (hl : (P ++ x :: S).length = n) {i : Nat} (hi : i = P.length) (prog : Program) :
    Sem.run prog (loadCellsFrom ⟨blk, off + i * k, none⟩ 0 k #[]) W = .ok (enc x).toArray W := by
  have hx : (P ++ x :: S).toArray[i]! = x := get_mid (d := (P ++ x :: S).toArray) rfl hi
  rw [← hx]
  exact run_loadCellsFrom_list prog W _ _ k (R.hk _) (HoldsK.cells (h.holds R hl) R.hk (by simp; omega))

theorem SB.cell1 {P S : List α} {x : α} {W : World} (h : SB enc 1 w0 blk off (P ++ x :: S) W) (R : Rw enc 1 w0 blk off n l0) (hl : (P ++ x :: S).length = n) {i : Nat} (hi : i = P.length) {v : Value} (hv : enc x = [v]) :
    W.cell? ⟨blk, off + i, none⟩ = some v ∧ W.frozen? ⟨blk, off + i, none⟩ = false := by
  have hx : (P ++ x :: S).toArray[i]! = x := get_mid (d := (P ++ x :: S).toArray) rfl hi
  have := HoldsK.cell (h.holds R hl) (i := i) (c := 0) (by simp; omega) (by decide)
  rw [hx, hv] at this
  simpa using this
theorem SB.swapped1 {P M S : List α} {x y : α} {W : World} (h : SB enc 1 w0 blk off (P ++ x :: (M ++ y :: S)) W) (R : Rw enc 1 w0 blk off n l0) {i j : Nat} (hi : i = P.length) (hj : j = P.length + 1 + M.length) {u v : Value} (hu : enc x = [u]) (hv : enc y = [v]) :
    SB enc 1 w0 blk off (P ++ y :: (M ++ x :: S)) ((W.setCell ⟨blk, off + i, none⟩ v).setCell ⟨blk, off + j, none⟩ u) := by
  have := h.swapped R hi hj
  rw [hu, hv, Nat.mul_one, Nat.mul_one] at this
  exact this
theorem SB.swapped1' {P M S : List α} {x y : α} {W : World} (h : SB enc 1 w0 blk off (P ++ x :: (M ++ y :: S)) W) (R : Rw enc 1 w0 blk off n l0) {i j : Nat} (hi : i = P.length) (hj : j = P.length + 1 + M.length) {u v : Value} (hu : enc x = [u]) (hv : enc y = [v]) :
    SB enc 1 w0 blk off (P ++ y :: (M ++ x :: S)) ((W.setCell ⟨blk, off + j, none⟩ u).setCell ⟨blk, off + i, none⟩ v) := by
  have := h.swapped' R hi hj
  rw [hu, hv, Nat.mul_one, Nat.mul_one] at this
  exact this

theorem heap_putRow_other {β : Type} [Inhabited β] (e : β → Value) (w : World) (blk off : Nat) (d : Array β) {k : Nat} (h : k ≠ blk) : (putRow e w blk off d).heap[k]? = w.heap[k]? := by
  simp only [putRow, mapBlock, Array.getElem?_modify]
  rw [if_neg (Ne.symm h)]

/-- What lay there before the row did is as it was. -/
theorem SB.old {l : List α} {W w : World} (h : SB enc k w0 blk off l W) (hb : Below w.heap.size w w0) (hblk : w.heap.size ≤ blk) : Below w.heap.size w W := by
  have hle := h.le
  unfold SB at h
  refine ⟨h.os.trans hb.os, h.tape.trans hb.tape, h.output.trans hb.output, Nat.le_trans hb.size hle, fun j hj => ?_⟩
  rw [h.block j (Nat.lt_of_lt_of_le hj hb.size)]
  unfold putRowK
  rw [heap_putRow_other id w0 blk off _ (by omega)]
  exact hb.block j hj

/-- A row of one cell an element, as it lies in a block of its own. -/
theorem holds_new (w : World) (e1 : α → Value) (cs : Array Value) (T : TypeId) (l : List α) (hcs : cs.toList = l.map e1) : HoldsK (fun x => [e1 x]) 1 (w.alloc (.cells cs T)) w.heap.size 0 l.toArray := by
  intro j hj
  rw [size_flatK] at hj
  have hj' : j < l.length := by simpa using hj
  have hf : (flatK (fun x => [e1 x]) 1 l.toArray)[j]! = e1 l[j] := by
    rw [get_flatK _ _ _ _ hj]
    simp [Nat.div_one, Nat.mod_one, hj']
  have hc : cs[j]? = some (e1 l[j]) := by
    rw [← Array.getElem?_toList, hcs, List.getElem?_map, List.getElem?_eq_getElem hj']; rfl
  refine ⟨?_, ?_⟩
  · rw [hf, Nat.zero_add, World.cell?_alloc_new]
    simpa using hc
  · simp [go_sem]

/-- One store into the row. -/
theorem SB.stored1 {P S : List α} {x y : α} {W : World} (h : SB enc 1 w0 blk off (P ++ x :: S) W) (R : Rw enc 1 w0 blk off n l0) {i : Nat} (hi : i = P.length) {v : Value} (hv : enc y = [v]) :
    SB enc 1 w0 blk off (P ++ y :: S) (W.setCell ⟨blk, off + i, none⟩ v) := by
  have hp : putRowK enc 1 w0 blk off (P ++ y :: S).toArray = (putRowK enc 1 w0 blk off (P ++ x :: S).toArray).setCell ⟨blk, off + i, none⟩ v := by
    unfold putRowK
    rw [show v = id v from rfl, putRow_set id w0 blk off _ i v (by simp; omega)]
    congr 1
    apply ext_get!
    · simp
    · intro t ht
      have ht' : t < (P ++ y :: S).toArray.size := by simpa using ht
      have hts : t < (P ++ x :: S).toArray.size := by
        rw [List.size_toArray] at ht' ⊢
        simpa using ht'
      rw [get_flatK _ _ _ _ (by simpa using ht'), Nat.div_one, Nat.mod_one]
      by_cases e : t = i
      · subst e
        rw [getElem!_set_same _ _ _ (by simpa using hts), get_mid (d := (P ++ y :: S).toArray) rfl hi, hv]
        rfl
      · rw [getElem!_set_other _ _ _ _ e, get_flatK _ _ _ _ (by simpa using hts), Nat.div_one, Nat.mod_one]
        have : (P ++ y :: S).toArray[t]! = (P ++ x :: S).toArray[t]! := by
          rw [getElem!_pos (P ++ y :: S).toArray t ht', getElem!_pos (P ++ x :: S).toArray t hts]
          simp only [List.getElem_toArray]
          subst hi
          rcases Nat.lt_or_ge t P.length with h1 | h1
          · rw [List.getElem_append_left h1, List.getElem_append_left h1]
          · rw [List.getElem_append_right h1, List.getElem_append_right h1]
            obtain ⟨q, hq⟩ : ∃ q, t - P.length = q + 1 := ⟨t - P.length - 1, by omega⟩
            simp [hq]
        rw [this]
  unfold SB at h ⊢
  rw [hp]
  exact below_set h _ R.hblk

/-- The row as a slice that reads so. -/
theorem SB.rd1 {l : List α} {W : World} (h : SB enc 1 w0 blk off l W) (R : Rw enc 1 w0 blk off n l0) (hl : l.length = n) (f : α → Value) (hf : ∀ x, enc x = [f x]) {cap : Nat} (hcap : n ≤ cap) (hcm : cap ≤ maxLen) : Rd W (.slice (some ⟨blk, off, none⟩) n cap) n (l.map f) := by
  refine ⟨_, _, rfl, hcap, hcm, (fun h => nomatch h), fun a ha => ?_⟩
  cases ha
  intro j u hj
  have hj' : j < l.length := by
    rcases Nat.lt_or_ge j l.length with h | h
    · exact h
    · rw [List.getElem?_eq_none (by simpa using h)] at hj; cases hj
  have e : l = l.take j ++ l[j] :: l.drop (j + 1) := by rw [← List.drop_eq_getElem_cons hj', List.take_append_drop]
  have h' := h
  rw [e] at h'
  have hc := h'.cell1 R (by rw [← e]; exact hl) (i := j) (by rw [List.length_take]; omega) (hf _)
  rw [List.getElem?_map, List.getElem?_eq_getElem hj'] at hj
  cases hj
  have ha : (⟨blk, off, none⟩ : Addr).add j = ⟨blk, off + j, none⟩ := by simp [Addr.add]
  rw [ha]
  exact hc.1
end

theorem run_make_ints (n : Nat) (hn : n ≤ 1000000) : ∃ cs : Array Value, cs.toList = (List.replicate n (0 : Int)).map (Value.int .i64) ∧ ∀ W, (Instr.makeSlice 22 (.int .i64 (n : Int)) (.int .i64 (n : Int))).run Tryz.prog W = .ok (.slice (some ⟨W.heap.size, 0, none⟩) n n) (W.alloc (.cells cs 3)) := by
  obtain ⟨i, hi, h0, h1, h2⟩ := info_parts (show (Tryz.prog.info? 3).map (fun i => (i.zero, i.size, i.bytes)) = some (some (.int .i64 0), 1, 8) by kernel_rfl)
  refine ⟨madeCells (Value.int .i64 0).cells (n * i.size), ?_, fun W => ?_⟩
  · rw [h1, Nat.mul_one]
    have : (Value.int .i64 0).cells = #[Value.int .i64 0] := rfl
    rw [this, toList_madeCells_one, List.map_replicate]
  · have := run_make (P := Tryz.prog) W 22 3 i _ (by kernel_rfl) hi h0 .i64 .i64 n n (by omega) (Int.le_refl _) (by rw [h2]; omega) (by omega)
    simpa using this
end Go.Proofs.YtnolbabpkhdpmaaGreat
