/-
  General notions for walks, of whatever program: a slice that reads as a list of cells, an owned row that grows by one element or by a slice.
-/
import Derived.Test.YtnolbabpkhdpmaaGreatRows
import Derived.WalkKit
import Derived.WalkSpells
import Derived.WalkLawsBesides
import Derived.WalkSmall
import Derived.BigQuiet
import Derived.StillTailTactics
import Derived.Lib.Hide
import Derived.Deep.Slices
import Derived.Deep.RegionWith
import Derived.Deep.RegionHeld3
import Derived.Lib.QuietBelow
namespace Go.Proofs.YtnolbabpkhdpmaaGreat
open Go.RowKit

theorem ret_int {k : IntKind} {a b : Int} (h : a = b) : Ending.returned (.int k a) = .returned (.int k b) := by rw [h]
theorem ret_bool {a b : Bool} (h : a = b) : Ending.returned (.bool a) = .returned (.bool b) := by rw [h]

theorem below_of_drew {w w1 : World} (h : Below w.drew.heap.size w.drew w1) : Below w.heap.size w w1 := ⟨h.os, h.tape, h.output, h.size, h.block⟩
theorem below_of_drewN {w w1 : World} {n : Nat} (h : Below (w.drewN n).heap.size (w.drewN n) w1) : Below w.heap.size w w1 := ⟨h.os, h.tape, h.output, h.size, h.block⟩
theorem below_then {w w1 w2 : World} (h : Below w.heap.size w w1) (h' : Below w1.heap.size w1 w2) : Below w.heap.size w w2 := h.trans (h'.mono h.size)

/-- The cells xs lie from address a on. -/
def At (w : World) (a : Addr) (xs : List Value) : Prop := ∀ j u, xs[j]? = some u → w.cell? (a.add j) = some u

/-- The value v is a slice of n elements, whose cells are xs. -/
def Rd (w : World) (v : Value) (n : Nat) (xs : List Value) : Prop :=
  ∃ ao c, v = .slice ao n c ∧ n ≤ c ∧ c ≤ maxLen ∧ (ao = none → c = 0) ∧ ∀ a, ao = some a → At w a xs

theorem addr_add_block (a : Addr) (j : Nat) : (a.add j).block = a.block := by unfold Addr.add; split <;> rfl

theorem At.lt {w : World} {a : Addr} {xs : List Value} (h : At w a xs) (hne : 0 < xs.length) : a.block < w.heap.size := by
  have h0 := h 0 xs[0] (by simp [List.getElem?_eq_getElem hne])
  have := World.block_lt_of_cell? _ _ h0
  rwa [addr_add_block] at this

/-- What was readable stays so in each world that keeps what was there. -/
theorem At.later {w w' : World} {a : Addr} {xs : List Value} (h : At w a xs) (hb : Below w.heap.size w w') : At w' a xs :=
  fun j u hj => cell_later hb (h j u hj)
theorem Rd.later {w w' : World} {v : Value} {n : Nat} {xs : List Value} (h : Rd w v n xs) (hb : Below w.heap.size w w') : Rd w' v n xs := by
  obtain ⟨ao, c, hv, h1, h2, h3, h4⟩ := h
  exact ⟨ao, c, hv, h1, h2, h3, fun a ha => (h4 a ha).later hb⟩

/-- What the call owns it can read. -/
theorem Rd.of_own {w : World} {B : Nat} {e : TypeId} {size : Nat} {v : Value} {n : Nat} {xs : List Value} (h : w.ownsRow B e size v n xs) : Rd w v n xs := by
  obtain ⟨hl, hh⟩ := h
  rcases hh with ⟨rfl, rfl⟩ | ⟨g, cap, cur, rfl, hb, hg, hn, hc, hs, ht⟩
  · exact ⟨none, 0, rfl, Nat.le_refl _, Nat.zero_le _, fun _ => rfl, fun a ha => by cases ha⟩
  · refine ⟨some ⟨g, 0, none⟩, cap, rfl, hn, hc, (fun h => nomatch h), fun a ha => ?_⟩
    cases ha
    intro j u hj
    exact World.ownsRow.cells (w := w) (base := B) (e := e) (size := size) (v := .slice (some ⟨g, 0, none⟩) n cap) (n := n) (xs := xs) ⟨hl, .inr ⟨g, cap, cur, rfl, hb, hg, hn, hc, hs, ht⟩⟩ (g := g) rfl j u hj

/-- The place of an element: an address at which its cells lie; an index leads there. -/
theorem Rd.elem {w : World} {n c : Nat} {ao : Option Addr} {xs : List Value} (h : Rd w (.slice ao n c) n xs) (size k : Nat) (hk : k < n) (hl : xs.length = n * size) (hs : 0 < size) :
    ∃ A : Addr, ao.map (fun a => a.add (k * size)) = some A ∧ ao.isSome ∧ A.block < w.heap.size ∧ ∀ j, j < size → ∃ u, xs[k * size + j]? = some u ∧ w.cell? (A.add j) = some u := by
  obtain ⟨ao', c', hv, h1, h2, h3, h4⟩ := h
  cases hv
  cases ao with
  | none => have := h3 rfl; omega
  | some a =>
    have hlen : k * size + size ≤ n * size := by rw [← Nat.succ_mul]; exact Nat.mul_le_mul_right _ hk
    have key : ∀ j, j < size → ∃ u, xs[k * size + j]? = some u ∧ w.cell? ((a.add (k * size)).add j) = some u := by
      intro j hj
      have hlt : k * size + j < xs.length := by rw [hl]; omega
      refine ⟨xs[k * size + j], by simp [List.getElem?_eq_getElem hlt], ?_⟩
      rw [Deep.add_add]
      exact h4 a rfl _ _ (by simp [List.getElem?_eq_getElem hlt])
    refine ⟨a.add (k * size), rfl, rfl, ?_, key⟩
    obtain ⟨u, _, hu⟩ := key 0 hs
    have := World.block_lt_of_cell? _ _ hu
    rwa [addr_add_block] at this

/-- A slice type, its element's type, the cells and the bytes of an element, its zero value. -/
structure El (P : Program) (t e : TypeId) (size bytes : Nat) (z : Value) : Prop where
  ty : P.underlying t = some (.slice e)
  info : ∃ i, P.info? e = some i ∧ i.zero = some z ∧ i.size = size ∧ i.bytes = bytes
  zs : z.cells.size = size
  pos : 0 < size

theorem El.mk' {P : Program} {t e : TypeId} {size bytes : Nat} {z : Value} (h1 : P.underlying t = some (.slice e)) (h2 : (P.info? e).map (fun i => (i.zero, i.size, i.bytes)) = some (some z, size, bytes))
    (h3 : z.cells.size = size) (h4 : 0 < size) : El P t e size bytes z := ⟨h1, info_parts h2, h3, h4⟩

theorem El.elem {P : Program} {t e : TypeId} {size bytes : Nat} {z : Value} (T : El P t e size bytes z) : P.elem t = e := by
  have := T.ty
  simp [Program.elem, this]

/-- What an index of a slice comes to. -/
theorem run_indexAt_at {P : Program} {t e : TypeId} {size bytes : Nat} {z : Value} (T : El P t e size bytes z) {n c k : Nat} {ao : Option Addr} {A : Addr} (hA : ao.map (fun a => a.add (k * size)) = some A) (hk : k < n) (W : World) :
    (Instr.indexAt t (.slice ao n c) (.int .i64 (k : Int))).run P W = .ok (.pointer (some A)) W := by
  obtain ⟨i, hi, hz0, hz1, hz2⟩ := T.info
  cases ao with
  | none => cases hA
  | some a =>
    simp only [Option.map_some, Option.some.injEq] at hA
    subst hA
    have h0 : (0 : Int) ≤ (k : Int) := by omega
    have h1 : (k : Int) < (n : Int) := by omega
    simp [Instr.indexAt, asIntOf, run_underlying T.ty, sizeOf, typeInfo, hi, hz1, h0]
    intro h
    omega

theorem cells_one (w : World) (cs : Array Value) (e : TypeId) : At (w.alloc (.cells cs e)) ⟨w.heap.size, 0, none⟩ cs.toList := by
  intro j u hj
  have hadd : (⟨w.heap.size, 0, none⟩ : Addr).add j = ⟨w.heap.size, j, none⟩ := by unfold Addr.add; split <;> simp_all
  rw [hadd, World.cell?_alloc_new]
  simpa using hj

/-- The cells that an append takes: out of a slice, or a string. -/
def Src (P : Program) (w : World) (size : Nat) (x : Value) (m : Nat) (news : List Value) : Prop :=
  news.length = m * size ∧ (∀ W, (Builtin.lenOf x).run P W = .ok m W) ∧ (Builtin.firstCells size m x).run P w = .ok news.toArray w ∧ (Builtin.firstCells size m x).run P w.drew = .ok news.toArray w.drew

theorem Src.of_rd {P : Program} {w : World} {size : Nat} {x : Value} {m : Nat} {news : List Value} (h : Rd w x m news) (hl : news.length = m * size) : Src P w size x m news := by
  obtain ⟨ao, c, rfl, h1, h2, h3, h4⟩ := h
  refine ⟨hl, fun W => rfl, ?_, ?_⟩
  · cases ao with
    | none =>
      have h0 : m = 0 := by have := h3 rfl; omega
      subst h0
      have : news = [] := List.eq_nil_of_length_eq_zero (by simpa using hl)
      subst this
      exact run_firstCells_none w size 0 0 c
    | some a => exact run_firstCells_some w size m a m c news hl (h4 a rfl)
  · cases ao with
    | none =>
      have h0 : m = 0 := by have := h3 rfl; omega
      subst h0
      have : news = [] := List.eq_nil_of_length_eq_zero (by simpa using hl)
      subst this
      exact run_firstCells_none w.drew size 0 0 c
    | some a => exact run_firstCells_some w.drew size m a m c news hl (h4 a rfl)

abbrev bc (b : UInt8) : Value := .int .u8 (b.toNat : Int)

theorem Src.of_string {P : Program} {w : World} (s : ByteArray) : Src P w 1 (.string s) s.size (s.data.toList.map bc) := by
  have hz : s.extract 0 s.size = s := ByteArray.extract_zero_size
  have hy : Array.map (fun b : UInt8 => Value.int IntKind.u8 (b.toNat : Int)) s.data = (s.data.toList.map bc).toArray := by
    apply Array.ext'
    exact Array.toList_map
  have key : ∀ W, (Builtin.firstCells 1 s.size (.string s)).run P W = .ok (s.data.toList.map bc).toArray W := by
    intro W
    have : Builtin.firstCells 1 s.size (.string s) = pure ((s.extract 0 s.size).data.map fun b => Value.int .u8 b.toNat) := rfl
    rw [this, hz, hy]
    rfl
  exact ⟨(by rw [List.length_map, Array.length_toList, Nat.mul_one]; rfl), fun W => rfl, key _, key _⟩

section
variable {P : Program} (w : World)

/-- append onto what the call owns, from whatever source. -/
theorem run_app {t tx ty e : TypeId} {size bytes : Nat} {z : Value} (T : El P t e size bytes z) (hx : ∃ d, P.underlying tx = some d ∧ ∀ k, d ≠ .int k)
    {B : Nat} {v x : Value} {n m : Nat} {xs news : List Value} (hown : w.ownsRow B e size v n xs) (hs : Src P w size x m news) (h1 : ∀ u ∈ news, u.oneCell' = true)
    (h63 : n + m ≤ maxLen) (hbytes : (n + m) * bytes ≤ 140737488355328) (hB : B ≤ w.heap.size) :
    ∃ v' w', (Builtin.append_ #[t, tx] ty #[v, x]).run P w = .ok v' w' ∧ w'.ownsRow B e size v' (n + m) (xs ++ news) ∧ w.grownBy w' v.ownBlock ∧ (v'.ownBlock = v.ownBlock ∨ v'.ownBlock = some w.heap.size) := by
  obtain ⟨i, hi, hz0, hz1, hz2⟩ := T.info
  obtain ⟨d, hd, hdk⟩ := hx
  obtain ⟨hl, hlen, hf, hfd⟩ := hs
  have hzs := T.zs
  subst hz1
  subst hz2
  have hsmall : n + m ≤ 9223372036854775807 := by simp only [maxLen] at h63; omega
  have hlenx : (xs ++ news).length = (n + m) * i.size := by rw [List.length_append, hown.1, hl, Nat.add_mul]
  have hx0 : ¬ (9223372036854775807 < ((n : Int) + (m : Int))) := by omega
  have grown : ∀ (old : Nat), old < n + m → ∀ (row : Option Nat),
      (w.drew.alloc (.cells (xs.toArray ++ news.toArray ++ Builtin.zeroCells z.cells (grownCap w (n + m) old e - (n + m))) e)).ownsRow B e i.size
        (.slice (some ⟨w.heap.size, 0, none⟩) (n + m) (grownCap w (n + m) old e)) (n + m) (xs ++ news) ∧
      w.grownBy (w.drew.alloc (.cells (xs.toArray ++ news.toArray ++ Builtin.zeroCells z.cells (grownCap w (n + m) old e - (n + m))) e)) row := by
    intro old ho row
    have hge := grownCap_ge w (n + m) old e
    have hcm : grownCap w (n + m) old e ≤ maxLen := grownCap_le_maxLen w (n + m) old e h63
    refine ⟨⟨hlenx, .inr ⟨w.heap.size, _, _, rfl, hB, heap_alloc_new w.drew _, hge, hcm, ?_, ?_⟩⟩, ⟨rfl, rfl, rfl, by simp, fun k hk _ => Below.heap_alloc w.drew _ k hk⟩⟩
    · simp only [Array.size_append, List.size_toArray, size_zeroCells, hzs, hown.1, hl, ← Nat.add_mul]
      congr 1
      omega
    · simp only [Array.toList_append, List.append_assoc]
      rw [← List.append_assoc, ← hlenx]
      exact List.take_left
  have grows : ∀ (ao : Option Addr) (cap : Nat), cap < n + m → (Builtin.firstCells i.size n (.slice ao n cap)).run P w.drew = .ok xs.toArray w.drew →
      (Builtin.append_ #[t, tx] ty #[.slice ao n cap, x]).run P w = .ok (.slice (some ⟨w.heap.size, 0, none⟩) (n + m) (grownCap w (n + m) cap e))
        (w.drew.alloc (.cells (xs.toArray ++ news.toArray ++ Builtin.zeroCells z.cells (grownCap w (n + m) cap e - (n + m))) e)) := by
    intro ao cap hcap hfo
    have hn : ¬ (n + m ≤ cap) := by omega
    have h48 := growslice_fits hcap hbytes
    have h48' : ¬ (281474976710656 < Builtin.nextslicecap (n + m) cap * i.bytes) := by omega
    simp [Builtin.append_, run_underlying T.ty, run_underlying hd, sizeOf, typeInfo, zeroValue, hi, hz0, hlen, hn, hx0, h48', Question.forced, hfd, hfo, newRow, grownCap]
    congr 2
    apply Array.ext'
    simp
  rcases hown.2 with ⟨rfl, rfl⟩ | ⟨g, cap, cur, rfl, hbg, hg, hnc, hcm, hcs, htake⟩
  · have hx : xs = [] := List.eq_nil_of_length_eq_zero (by simpa using hown.1)
    subst hx
    by_cases hm : m = 0
    · subst hm
      have hn : news = [] := List.eq_nil_of_length_eq_zero (by simpa using hl)
      subst hn
      refine ⟨.slice none 0 0, w, ?_, World.ownsRow_nil w B e i.size, ⟨rfl, rfl, rfl, Nat.le_refl _, fun _ _ _ => rfl⟩, .inl rfl⟩
      simp [Builtin.append_, run_underlying T.ty, run_underlying hd, sizeOf, typeInfo, hi, hlen, hf]
    · have hr := grows none 0 (by omega) (by rw [run_firstCells_none])
      have hgr := grown 0 (by omega) (Value.ownBlock (.slice none 0 0))
      exact ⟨_, _, hr, hgr.1, hgr.2, .inr rfl⟩
  · by_cases hroom : n + m ≤ cap
    · have hfit : n * i.size + news.length ≤ cur.size := by rw [hl, hcs, ← Nat.add_mul]; exact Nat.mul_le_mul_right _ hroom
      have hst := run_storeCells_at P g (n * i.size) e news 0 cur w hg (by simpa using hfit) h1
      simp only [Nat.add_zero] at hst
      have hr : (Builtin.append_ #[t, tx] ty #[.slice (some ⟨g, 0, none⟩) n cap, x]).run P w = .ok (.slice (some ⟨g, 0, none⟩) (n + m) cap)
          (w.setRow g (cur.toList.take (n * i.size) ++ news ++ cur.toList.drop (n * i.size + news.length)).toArray) := by
        simp [Builtin.append_, run_underlying T.ty, run_underlying hd, sizeOf, typeInfo, hi, hlen, hroom, hf, Addr.add_lit, hst]
      refine ⟨_, _, hr, ⟨hlenx, .inr ⟨g, cap, _, rfl, hbg, setRow_heap w g cur _ e _ hg, hroom, hcm, ?_, ?_⟩⟩, ⟨rfl, rfl, rfl, by simp, fun k _ hk => setRow_other w g k _ (fun e => hk (by simp [Value.ownBlock, e]))⟩, .inl rfl⟩
      · simp only [List.size_toArray, List.length_append, List.length_take, List.length_drop, Array.length_toList]
        omega
      · rw [htake, ← hlenx]
        exact List.take_left
    · have holds : ∀ j u, xs[j]? = some u → w.cell? ((⟨g, 0, none⟩ : Addr).add j) = some u := hown.cells (g := g) rfl
      have hr := grows (some ⟨g, 0, none⟩) cap (by omega) (run_firstCells_some (P := P) w.drew i.size n ⟨g, 0, none⟩ n cap xs hown.1 (by simpa using holds))
      have hgr := grown cap (by omega) (Value.ownBlock (.slice (some ⟨g, 0, none⟩) n cap))
      exact ⟨_, _, hr, hgr.1, hgr.2, .inr rfl⟩

/-- append onto a slice that is full: nothing that was there is written. -/
theorem run_app_full {t tx ty e : TypeId} {size bytes : Nat} {z : Value} (T : El P t e size bytes z) (hx : ∃ d, P.underlying tx = some d ∧ ∀ k, d ≠ .int k)
    {ao : Option Addr} {x : Value} {n m : Nat} {xs news : List Value} (hrd : Rd w (.slice ao n n) n xs) (hlx : xs.length = n * size) (hs : Src P w size x m news) 
    (h63 : n + m ≤ maxLen) (hbytes : (n + m) * bytes ≤ 140737488355328) :
    ∃ v' w', (Builtin.append_ #[t, tx] ty #[.slice ao n n, x]).run P w = .ok v' w' ∧ Rd w' v' (n + m) (xs ++ news) ∧ w.grownBy w' none ∧
      ((m = 0 ∧ v' = .slice ao n n ∧ w' = w) ∨ (0 < m ∧ w'.ownsRow w.heap.size e size v' (n + m) (xs ++ news))) := by
  obtain ⟨i, hi, hz0, hz1, hz2⟩ := T.info
  obtain ⟨d, hd, hdk⟩ := hx
  obtain ⟨hl, hlen, hf, hfd⟩ := hs
  have hzs := T.zs
  subst hz1
  subst hz2
  have hsmall : n + m ≤ 9223372036854775807 := by simp only [maxLen] at h63; omega
  have hlenx : (xs ++ news).length = (n + m) * i.size := by rw [List.length_append, hlx, hl, Nat.add_mul]
  have hx0 : ¬ (9223372036854775807 < ((n : Int) + (m : Int))) := by omega
  by_cases hm : m = 0
  · subst hm
    have hn : news = [] := List.eq_nil_of_length_eq_zero (by simpa using hl)
    subst hn
    refine ⟨.slice ao n n, w, ?_, by simpa using hrd, ⟨rfl, rfl, rfl, Nat.le_refl _, fun _ _ _ => rfl⟩, .inl ⟨rfl, rfl, rfl⟩⟩
    cases ao <;> simp [Builtin.append_, run_underlying T.ty, run_underlying hd, sizeOf, typeInfo, hi, hlen, hf, storeCells]
  · have hfo : (Builtin.firstCells i.size n (.slice ao n n)).run P w.drew = .ok xs.toArray w.drew := (Src.of_rd (P := P) (w := w) (size := i.size) hrd hlx).2.2.2
    have hn2 : (n + m ≤ n) = False := by simp; omega
    have h48 := growslice_fits (show n < n + m by omega) hbytes
    have h48' : ¬ (281474976710656 < Builtin.nextslicecap (n + m) n * i.bytes) := by omega
    have hr : (Builtin.append_ #[t, tx] ty #[.slice ao n n, x]).run P w = .ok (.slice (some ⟨w.heap.size, 0, none⟩) (n + m) (grownCap w (n + m) n e))
        (w.drew.alloc (.cells (xs.toArray ++ news.toArray ++ Builtin.zeroCells z.cells (grownCap w (n + m) n e - (n + m))) e)) := by
      simp [Builtin.append_, run_underlying T.ty, run_underlying hd, sizeOf, typeInfo, zeroValue, hi, hz0, hlen, hn2, hx0, h48', Question.forced, hfd, hfo, newRow, grownCap]
      congr 2
      apply Array.ext'
      simp
    have hge := grownCap_ge w (n + m) n e
    have hcm : grownCap w (n + m) n e ≤ maxLen := grownCap_le_maxLen w (n + m) n e h63
    have hown : (w.drew.alloc (.cells (xs.toArray ++ news.toArray ++ Builtin.zeroCells z.cells (grownCap w (n + m) n e - (n + m))) e)).ownsRow w.heap.size e i.size
        (.slice (some ⟨w.heap.size, 0, none⟩) (n + m) (grownCap w (n + m) n e)) (n + m) (xs ++ news) := by
      refine ⟨hlenx, .inr ⟨w.heap.size, _, _, rfl, Nat.le_refl _, heap_alloc_new w.drew _, hge, hcm, ?_, ?_⟩⟩
      · simp only [Array.size_append, List.size_toArray, size_zeroCells, hzs, hlx, hl, ← Nat.add_mul]
        congr 1
        omega
      · simp only [Array.toList_append, List.append_assoc]
        rw [← List.append_assoc, ← hlenx]
        exact List.take_left
    exact ⟨_, _, hr, Rd.of_own hown, ⟨rfl, rfl, rfl, by simp, fun k hk _ => Below.heap_alloc w.drew _ k hk⟩, .inr ⟨by omega, hown⟩⟩
end

/-- The walk's law: append onto what the call owns, of whatever source. -/
theorem wpList_app {P : Program} {w : World} {ops : Array Oper} {rest : List Oper} {o : Oper} {a : Act} {Q : Exit → Act → World → Prop}
    {t tx e : TypeId} {size bytes : Nat} {z : Value} (T : El P t e size bytes z) (hx : ∃ d, P.underlying tx = some d ∧ ∀ k, d ≠ .int k)
    (hg : o.guard = none) (s x : Operand) (hop : o.op = Op.call { callee := Callee.builtin Builtin.append, args := #[s, x], argTypes := #[t, tx] })
    {B : Nat} {v y : Value} {n m : Nat} {xs news : List Value} (hsv : a.eval s = v) (hxy : a.eval x = y) (hown : w.ownsRow B e size v n xs) (hs : Src P w size y m news) (h1 : ∀ u ∈ news, u.oneCell' = true)
    (h63 : n + m ≤ maxLen) (hbytes : (n + m) * bytes ≤ 140737488355328) (hB : B ≤ w.heap.size)
    (hK : ∀ v' w', w'.ownsRow B e size v' (n + m) (xs ++ news) → w.grownBy w' v.ownBlock → (v'.ownBlock = v.ownBlock ∨ v'.ownBlock = some w.heap.size) → wpList P ops Q rest (a.put o.dst v') w') :
    wpList P ops Q (o :: rest) a w := by
  refine wpList_plain hg fun K hK' => ?_
  obtain ⟨v', w', hrun, r1, r2, r3⟩ := run_app (P := P) w (ty := o.type) T hx hown hs h1 h63 hbytes hB
  unfold Oper.wp
  simp [execOp, hop, resolve, invoke, builtin, hsv, hxy, hrun, Result.andThen]
  exact hK' _ _ (hK v' w' r1 r2 r3)

/-- The walk's law: 'append(out, x)' of one element, just laid in a block of its own. -/
theorem wpList_push {P : Program} {w : World} {ops : Array Oper} {rest : List Oper} {o : Oper} {a : Act} {Q : Exit → Act → World → Prop}
    {t e : TypeId} {size bytes : Nat} {z : Value} (T : El P t e size bytes z)
    (hg : o.guard = none) (s x : Operand) (hop : o.op = Op.call { callee := Callee.builtin Builtin.append, args := #[s, x], argTypes := #[t, t] })
    {B : Nat} {v : Value} {n : Nat} {cs : Array Value} {xs : List Value} (hsv : a.eval s = v) (hxy : a.eval x = .slice (some ⟨w.heap.size, 0, none⟩) 1 1) (hown : w.ownsRow B e size v n xs) (hcs : cs.size = size) (h1 : cs.toList.all (fun u => u.oneCell') = true)
    (h63 : n + 1 ≤ maxLen) (hbytes : (n + 1) * bytes ≤ 140737488355328) (hB : B ≤ w.heap.size)
    (hK : ∀ v' w', w'.ownsRow B e size v' (n + 1) (xs ++ cs.toList) → w.grownBy w' v.ownBlock → (∀ k, v'.ownBlock = some k → v.ownBlock = some k ∨ w.heap.size ≤ k) → wpList P ops Q rest (a.put o.dst v') w') :
    wpList P ops Q (o :: rest) a (w.alloc (.cells cs e)) := by
  have hrd : Rd (w.alloc (.cells cs e)) (.slice (some ⟨w.heap.size, 0, none⟩) 1 1) 1 cs.toList :=
    ⟨_, _, rfl, Nat.le_refl _, by unfold maxLen at *; omega, (fun h => nomatch h), fun a ha => by cases ha; exact cells_one w cs e⟩
  refine wpList_app T ⟨_, T.ty, fun k h => by cases h⟩ hg s x hop hsv hxy (hown.alloc _) (Src.of_rd hrd (by simpa using hcs)) (fun u hu => List.all_eq_true.1 h1 u hu) h63 hbytes (by simp; omega) fun v' w' r1 r2 r3 => ?_
  refine hK v' w' r1 ⟨r2.os, r2.tape, r2.output, by have := r2.size; simp at this; omega, fun k hk hne => ?_⟩ fun k hk => ?_
  · rw [r2.block k (by simp; omega) hne]
    exact Below.heap_alloc w (.cells cs e) k hk
  · rcases r3 with h | h
    · exact .inl (h ▸ hk)
    · rw [h] at hk
      simp at hk
      exact .inr (by omega)

/-- The walk's law: append onto a slice that is full. -/
theorem wpList_app_full {P : Program} {w : World} {ops : Array Oper} {rest : List Oper} {o : Oper} {a : Act} {Q : Exit → Act → World → Prop}
    {t tx e : TypeId} {size bytes : Nat} {z : Value} (T : El P t e size bytes z) (hx : ∃ d, P.underlying tx = some d ∧ ∀ k, d ≠ .int k)
    (hg : o.guard = none) (s x : Operand) (hop : o.op = Op.call { callee := Callee.builtin Builtin.append, args := #[s, x], argTypes := #[t, tx] })
    {ao : Option Addr} {y : Value} {n m : Nat} {xs news : List Value} (hsv : a.eval s = .slice ao n n) (hxy : a.eval x = y) (hrd : Rd w (.slice ao n n) n xs) (hlx : xs.length = n * size) (hs : Src P w size y m news)
    (h63 : n + m ≤ maxLen) (hbytes : (n + m) * bytes ≤ 140737488355328)
    (hK : ∀ v' w', Rd w' v' (n + m) (xs ++ news) → Below w.heap.size w w' → wpList P ops Q rest (a.put o.dst v') w') :
    wpList P ops Q (o :: rest) a w := by
  refine wpList_plain hg fun K hK' => ?_
  obtain ⟨v', w', hrun, r1, r2, r3⟩ := run_app_full (P := P) w (ty := o.type) T hx hrd hlx hs h63 hbytes
  unfold Oper.wp
  simp [execOp, hop, resolve, invoke, builtin, hsv, hxy, hrun, Result.andThen]
  exact hK' _ _ (hK v' w' r1 ((Below.refl _ _).grown r2 (Nat.le_refl _) (fun k h => nomatch h)))

/-- A part of a slice. -/
theorem Rd.part {w : World} {ao : Option Addr} {n c : Nat} {xs : List Value} (h : Rd w (.slice ao n c) n xs) (size l h' m : Nat) (_ : 0 < size) (h1 : l ≤ h') (h2 : h' ≤ n) (h3 : h' ≤ m) (h4 : m ≤ c) (hl : xs.length = n * size) :
    Rd w (sliced ao l h' m size) (h' - l) ((xs.drop (l * size)).take ((h' - l) * size)) := by
  obtain ⟨ao', c', hv, g1, g2, g3, g4⟩ := h
  cases hv
  refine ⟨_, _, rfl, by omega, by omega, ?_, ?_⟩
  · intro hn
    split at hn
    · omega
    · cases ao with
      | none => have := g3 rfl; omega
      | some a => cases hn
  · intro a ha
    cases ao with
    | none =>
      have h0 := g3 rfl
      have : ((xs.drop (l * size)).take ((h' - l) * size)) = [] := by
        apply List.eq_nil_of_length_eq_zero
        have : n = 0 := by omega
        subst this
        simp [hl]
      rw [this]
      intro j u hj
      simp at hj
    | some b =>
      by_cases hml : m = l
      · have h0 : h' - l = 0 := by omega
        rw [h0, Nat.zero_mul]
        intro j u hj
        simp at hj
      · simp only [hml, if_false, Option.map_some, Option.some.injEq] at ha
        subst ha
        intro j u hj
        rw [Deep.add_add]
        rw [List.getElem?_take] at hj
        split at hj
        · rw [List.getElem?_drop] at hj
          exact g4 b rfl _ _ hj
        · cases hj

/-- A part of a slice, as the walk meets it: some slice, of which no more need be known than what it reads as. -/
theorem run_part {P : Program} {t e : TypeId} {size bytes : Nat} {z : Value} (T : El P t e size bytes z) {w : World} {ao : Option Addr} {n c : Nat} {xs : List Value} (h : Rd w (.slice ao n c) n xs) (hl : xs.length = n * size) (l h' : Nat) (h1 : l ≤ h') (h2 : h' ≤ n) :
    ∃ a' c', (∀ W, (Instr.sliceAt t (.slice ao n c) (some (.int .i64 (l : Int))) (some (.int .i64 (h' : Int))) none).run P W = .ok (.slice a' (h' - l) c') W) ∧ Rd w (.slice a' (h' - l) c') (h' - l) ((xs.drop (l * size)).take ((h' - l) * size)) := by
  obtain ⟨_, hc, hv, g1, g2, g3, g4⟩ := id h
  cases hv
  have hrd := h.part size l h' c T.pos h1 h2 (by omega) (Nat.le_refl _) hl
  obtain ⟨i, hi, hz0, hz1, hz2⟩ := T.info
  have ht : P.underlying t = some (.slice (P.elem t)) := by rw [T.elem]; exact T.ty
  refine ⟨_, _, fun W => ?_, hrd⟩
  rw [run_sliceAt_slice W t _ _ _ _ ht, run_slice_lh W t ao n c ht .i64 .i64 (l : Int) (h' : Int) (by omega) (by omega) (by omega)]
  simp only [T.elem, sizeOf, Sem.run_bind, typeInfo, Int.toNat_natCast]
  simp [hi, hz1, Result.andThen, sliced]
theorem run_part_lo {P : Program} {t e : TypeId} {size bytes : Nat} {z : Value} (T : El P t e size bytes z) {w : World} {ao : Option Addr} {n c : Nat} {xs : List Value} (h : Rd w (.slice ao n c) n xs) (hl : xs.length = n * size) (l : Nat) (h1 : l ≤ n) :
    ∃ a' c', (∀ W, (Instr.sliceAt t (.slice ao n c) (some (.int .i64 (l : Int))) none none).run P W = .ok (.slice a' (n - l) c') W) ∧ Rd w (.slice a' (n - l) c') (n - l) (xs.drop (l * size)) := by
  obtain ⟨_, hc, hv, g1, g2, g3, g4⟩ := id h
  cases hv
  have hrd := h.part size l n c T.pos h1 (Nat.le_refl _) (by omega) (Nat.le_refl _) hl
  have e1 : ((xs.drop (l * size)).take ((n - l) * size)) = xs.drop (l * size) := by
    apply List.take_of_length_le
    rw [List.length_drop, hl, Nat.sub_mul]
    exact Nat.le_refl _
  rw [e1] at hrd
  obtain ⟨i, hi, hz0, hz1, hz2⟩ := T.info
  have ht : P.underlying t = some (.slice (P.elem t)) := by rw [T.elem]; exact T.ty
  refine ⟨_, _, fun W => ?_, hrd⟩
  rw [run_sliceAt_slice W t _ _ _ _ ht, run_slice_l W t ao n c ht .i64 (l : Int) (by omega) (by omega)]
  simp only [T.elem, sizeOf, Sem.run_bind, typeInfo, Int.toNat_natCast]
  simp [hi, hz1, Result.andThen, sliced]
theorem run_part_hi {P : Program} {t e : TypeId} {size bytes : Nat} {z : Value} (T : El P t e size bytes z) {w : World} {ao : Option Addr} {n c : Nat} {xs : List Value} (h : Rd w (.slice ao n c) n xs) (hl : xs.length = n * size) (h' : Nat) (h2 : h' ≤ n) :
    ∃ a' c', (∀ W, (Instr.sliceAt t (.slice ao n c) none (some (.int .i64 (h' : Int))) none).run P W = .ok (.slice a' h' c') W) ∧ Rd w (.slice a' h' c') h' (xs.take (h' * size)) := by
  obtain ⟨_, hc, hv, g1, g2, g3, g4⟩ := id h
  cases hv
  have hrd := h.part size 0 h' c T.pos (Nat.zero_le _) h2 (by omega) (Nat.le_refl _) hl
  simp only [Nat.zero_mul, List.drop_zero, Nat.sub_zero] at hrd
  obtain ⟨i, hi, hz0, hz1, hz2⟩ := T.info
  have ht : P.underlying t = some (.slice (P.elem t)) := by rw [T.elem]; exact T.ty
  refine ⟨(if c = 0 then ao else ao.map (·.add (0 * size))), c, fun W => ?_, by simpa [sliced] using hrd⟩
  rw [run_sliceAt_slice W t _ _ _ _ ht, run_slice_h W t ao n c ht .i64 (h' : Int) (by omega) (by omega)]
  simp only [T.elem, sizeOf, Sem.run_bind, typeInfo, Int.toNat_natCast]
  simp [hi, hz1, Result.andThen, sliced]
/-- 'x[:n:n]', n the length. -/
theorem run_part_full {P : Program} {t e : TypeId} {size bytes : Nat} {z : Value} (T : El P t e size bytes z) {w : World} {ao : Option Addr} {n c : Nat} {xs : List Value} (h : Rd w (.slice ao n c) n xs) (hl : xs.length = n * size) :
    ∃ a', (∀ W, (Instr.sliceAt t (.slice ao n c) none (some (.int .i64 (n : Int))) (some (.int .i64 (n : Int)))).run P W = .ok (.slice a' n n) W) ∧ Rd w (.slice a' n n) n xs := by
  obtain ⟨_, hc, hv, g1, g2, g3, g4⟩ := id h
  cases hv
  have hrd := h.part size 0 n n T.pos (Nat.zero_le _) (Nat.le_refl _) (Nat.le_refl _) g1 hl
  have e1 : xs.take (n * size) = xs := List.take_of_length_le (by omega)
  simp only [Nat.zero_mul, List.drop_zero, Nat.sub_zero, e1] at hrd
  obtain ⟨i, hi, hz0, hz1, hz2⟩ := T.info
  have ht : P.underlying t = some (.slice (P.elem t)) := by rw [T.elem]; exact T.ty
  refine ⟨(if n = 0 then ao else ao.map (·.add (0 * size))), fun W => ?_, by simpa [sliced] using hrd⟩
  rw [run_sliceAt_slice W t _ _ _ _ ht, run_slice_hm W t ao n c ht .i64 .i64 (n : Int) (n : Int) (by omega) (by omega) (by omega)]
  simp only [T.elem, sizeOf, Sem.run_bind, typeInfo, Int.toNat_natCast]
  simp [hi, hz1, Result.andThen, sliced]

/-- Bytes as a string. -/
theorem run_string_of {P : Program} {W : World} {src e dst : TypeId} (hs : P.underlying src = some (.slice e)) (he : P.underlying e = some (.int .u8)) (hd : P.underlying dst = some .string) {v : Value} {l : List UInt8} (h : Rd W v l.length (l.map bc)) :
    (convert src dst v).run P W = .ok (.string ⟨l.toArray⟩) W := by
  obtain ⟨ao, c, rfl, h1, h2, h3, h4⟩ := h
  cases ao with
  | none =>
    have h0 : l.length = 0 := by have := h3 rfl; omega
    have : l = [] := List.eq_nil_of_length_eq_zero h0
    subst this
    exact run_convert_bytes_nil W src e hs he _ c dst hd
  | some a =>
    have hl : (loadCells a l.length).run P W = .ok ((l.map fun b => (b.toNat : Int)).map (Value.int .u8)).toArray W := by
      have := run_loadCells_list (P := P) W a (l.map bc) (h4 a rfl)
      simpa [List.map_map, Function.comp_def] using this
    rw [run_convert_bytes_string W src dst e _ _ c hs he hd, run_bytesToString W a _ c _ hl, foldl_push_bytes]
    have e1 : (l.map fun b => (b.toNat : Int)).map (fun n => UInt8.ofNat n.toNat) = l := by
      rw [List.map_map]
      conv => rhs; rw [← List.map_id l]
      apply List.map_congr_left
      intro b _
      simp
    rw [e1]
    simp [ByteArray.empty, ByteArray.emptyWithCapacity]
    rfl

theorem oneCell_bytes (l : List UInt8) : ∀ u ∈ l.map bc, u.oneCell' = true := by
  intro u hu
  obtain ⟨b, _, rfl⟩ := List.mem_map.1 hu
  rfl

/-- The place of an element of one cell. -/
theorem rd_one {P : Program} {t e : TypeId} {bytes : Nat} {z : Value} (T : El P t e 1 bytes z) {α : Type} (f : α → Value) {w : World} {ao : Option Addr} {n c : Nat} {l : List α} (h : Rd w (.slice ao n c) n (l.map f)) (hl : n = l.length) (k : Nat) (hk : k < l.length) :
    ∃ A : Addr, (∀ W, (Instr.indexAt t (.slice ao n c) (.int .i64 (k : Int))).run P W = .ok (.pointer (some A)) W) ∧ w.cell? A = some (f l[k]) ∧ A.block < w.heap.size := by
  subst hl
  obtain ⟨A, hA, _, hlt, hc⟩ := h.elem 1 k hk (by simp) (by decide)
  obtain ⟨u, hu, hcu⟩ := hc 0 (by decide)
  refine ⟨A, fun W => run_indexAt_at T hA hk W, ?_, hlt⟩
  have : u = f l[k] := by simpa [List.getElem?_eq_getElem hk] using hu.symm
  rw [this] at hcu
  simpa [Addr.add] using hcu

/-- What the call owns stays owned while nothing that was there is written. -/
theorem own_later {w w' : World} {B : Nat} {e : TypeId} {size : Nat} {v : Value} {n : Nat} {xs : List Value} (h : w.ownsRow B e size v n xs) (hb : Below w.heap.size w w') : w'.ownsRow B e size v n xs := by
  refine ⟨h.1, ?_⟩
  rcases h.2 with hn | ⟨g, cap, cur, rfl, hbg, hg, r⟩
  · exact .inl hn
  · exact .inr ⟨g, cap, cur, rfl, hbg, by rw [hb.block g (Array.getElem?_eq_some_iff.1 hg).1]; exact hg, r⟩

theorem below_own {w w1 w2 : World} {B : Nat} {e : TypeId} {size : Nat} {v : Value} {n : Nat} {xs : List Value} (hb : Below w.heap.size w w1) (h : w1.ownsRow B e size v n xs) (hB : w.heap.size ≤ B) (hg : w1.grownBy w2 v.ownBlock) : Below w.heap.size w w2 :=
  hb.grown hg hb.size (fun k hk => Nat.le_trans hB (h.lt k hk).1)

theorem ret1 {e a : Value} (h : a = e) : Ending.returned a = .returned e := by rw [h]
theorem ret2 {e a b a' b' : Value} (h : e = .tuple #[a', b']) (ha : a = a') (hb : b = b') : Ending.returned (.tuple #[a, b]) = .returned e := by
  subst ha hb
  rw [h]
theorem ret3 {e a b c a' b' c' : Value} (h : e = .tuple #[a', b', c']) (ha : a = a') (hb : b = b') (hc : c = c') : Ending.returned (.tuple #[a, b, c]) = .returned e := by
  subst ha hb hc
  rw [h]

/-- A slice that was just written out. -/
theorem rd_lit (w : World) (cs : Array Value) (e : TypeId) (n : Nat) (hn : n ≤ maxLen) : Rd (w.alloc (.cells cs e)) (.slice (some ⟨w.heap.size, 0, none⟩) n n) n cs.toList :=
  ⟨_, _, rfl, Nat.le_refl _, hn, (fun h => nomatch h), fun a ha => by cases ha; exact cells_one w cs e⟩
theorem below_alloc (w : World) (o : Obj) : Below w.heap.size w (w.alloc o) := (Below.refl _ _).alloc (Nat.le_refl _) o
theorem below_alloc_then {w w' : World} {o : Obj} (h : Below (w.alloc o).heap.size (w.alloc o) w') : Below w.heap.size w w' := below_then (below_alloc w o) h
theorem below_alloc_eq {w w' : World} {o : Obj} (h : w.alloc o = w') : Below w.heap.size w w' := by rw [← h]; exact below_alloc w o

theorem str_eq (s : ByteArray) : (⟨s.data.toList.toArray⟩ : ByteArray) = s := by simp

theorem run_max_zero (P : Program) (x : Int) (h : 0 ≤ x) (W : World) (ts : Array TypeId) (t : TypeId) : (Builtin.max_ ts t #[.int .i64 0, .int .i64 x]).run P W = .ok (.int .i64 x) W := by
  rw [run_max_int2]
  congr 2
  split <;> omega

end Go.Proofs.YtnolbabpkhdpmaaGreat
